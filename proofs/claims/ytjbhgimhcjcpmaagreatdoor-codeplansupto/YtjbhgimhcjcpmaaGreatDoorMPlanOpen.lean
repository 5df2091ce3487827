/-
  An argument of type api.Plan, opened: whatever reads as one is a plan in memory, as data.
-/
import Derived.Test.YtjbhgimhcjcpmaaGreatDoorMLawOwn
import Derived.OpenShut
import Derived.Deep.Slices
import Derived.Test.YtjbhgimhcjcpmaaGreatDoorMOwnSt
import Derived.Test.YtjbhgimhcjcpmaaGreatDoorMDigest
import Derived.Test.YtjbhgimhcjcpmaaGreatDoorMRefGood
import Derived.Test.YtjbhgimhcjcpmaaGreatDoorMEqual
import Derived.Deep.RegionHeld3
import Derived.Deep.RegionHeld
import Derived.Test.YtjbhgimhcjcpmaaGreatDoorCards
import Derived.Test.YtjbhgimhcjcpmaaGreatDoorTie
import Derived.WalkKit
import Derived.ProofKit
import Derived.LaidHandle
import Derived.Deep.DeepHandedRow
import Derived.Deep.DeepWitnessRowRef
set_option linter.unusedSimpArgs false
set_option linter.unusedVariables false
namespace Go.Proofs.YtjbhgimhcjcpmaaGreatDoor
open Go.ChangeShapes Go.WideShapes Go.RowKit

theorem drop_take_one {cs : List Value} {i : Nat} {v : Value} (h : (cs.drop i).take 1 = [v]) : cs[i]? = some v := by
  have h1 : ((cs.drop i).take 1)[0]? = some v := by rw [h]; rfl
  simpa [List.getElem?_take] using h1

theorem flat_get {α : Type} (f : α → List Value) (k : Nat) (hf : ∀ a, (f a).length = k) (hk : 0 < k) : ∀ (l : List α) (q : Nat) (h : q / k < l.length), (l.flatMap f)[q]? = (f l[q / k])[q % k]?
  | [], q, h => by simp at h
  | y :: l, q, h => by
    rw [List.flatMap_cons]
    by_cases hq : q < k
    · rw [List.getElem?_append_left (by rw [hf]; exact hq), Nat.mod_eq_of_lt hq]
      simp [Nat.div_eq_of_lt hq]
    · have h1 : q / k = (q - k) / k + 1 := by rw [Nat.div_eq_sub_div hk (by omega)]
      have h2 : q % k = (q - k) % k := Nat.mod_eq_sub_mod (by omega)
      have h3 : (q - k) / k < l.length := by rw [h1] at h; simpa using h
      rw [List.getElem?_append_right (by rw [hf]; omega), hf, flat_get f k hf hk l (q - k) h3, h2]
      simp [h1]

/-- A slice, opened to a list of whatever its elements are. -/
theorem open_arr {α : Type} {H : Type} {enc : TypeId × Value → H} {P : Program} {w : World} {spare : Nat → Bool} {t e : TypeId} {k fuel : Nat} {cs : List Value} {x : DataW H × List MemPlace}
    (f : α → List Value) (R : α → Prop) (hf : ∀ a, (f a).length = k) (hk : 0 < k) (ht : P.underlying t = some (.slice e)) (ck : P.cellsOf e = k)
    (each : ∀ (n : Nat) (cs' : List Value) (d : DataW H × List MemPlace), DataW.trod enc P w 0 spare true n e cs' = some d → ∃ a, cs' = f a ∧ R a)
    (h : DataW.trod enc P w 0 spare true fuel t cs = some x) :
    ∃ (v : Value) (l : List α), cs = [v] ∧ (∀ a ∈ l, R a) ∧ Arr w.heap.size w k v l.length (l.flatMap f) := by
  subst ck
  rcases Go.Deep.open_slice ht h with ⟨rfl, _⟩ | ⟨a, len, cap, m, n, D, Pl, rfl, _, hl, hm, hmm, _, hx⟩
  · exact ⟨_, [], rfl, fun _ h => (by cases h), Arr.nil _ _ _⟩
  · have hlm : len ≤ m := by rw [hmm]; split <;> omega
    have key : ∀ j, j ≤ len → ∃ l : List α, l.length = j ∧ (∀ a ∈ l, R a) ∧ ∀ i (hi : i < l.length), w.cells? 0 (a.add (i * P.cellsOf e)) (P.cellsOf e) = some (f l[i]) := by
      intro j
      induction j with
      | zero => exact fun _ => ⟨[], rfl, fun _ h => (by cases h), fun i hi => (by simp at hi)⟩
      | succ j ih =>
        intro hj
        obtain ⟨l, h1, h2, h3⟩ := ih (by omega)
        obtain ⟨cs', h4, h5⟩ := hx j (by omega)
        obtain ⟨y, rfl, hy⟩ := each _ _ _ h5
        refine ⟨l ++ [y], by simp [h1], fun z hz => ?_, fun i hi => ?_⟩
        · rcases List.mem_append.1 hz with hz | hz
          · exact h2 z hz
          · obtain rfl := List.mem_singleton.1 hz; exact hy
        · by_cases hil : i < l.length
          · rw [List.getElem_append_left hil]; exact h3 i hil
          · have : i = j := by simp at hi; omega
            subst this
            rw [List.getElem_append_right (by omega)]
            simpa [h1] using h4
    obtain ⟨l, h1, h2, h3⟩ := key len (Nat.le_refl _)
    refine ⟨_, l, rfl, h2, some a, cap, by rw [h1], by omega, hm, fun h => (by cases h), ?_, ?_⟩
    · clear h2 h3 h1; induction l with
      | nil => simp
      | cons y l ih => simp [List.flatMap_cons, ih, hf, Nat.succ_mul, Nat.add_comm]
    · by_cases h0 : l.length = 0
      · exact .inl h0
      right
      obtain ⟨b, off, spot⟩ := a
      have hc0 := World.cells?_some (h3 0 (by omega))
      have hcell : ∀ i (hi : i < l.length) j (hj : j < P.cellsOf e), w.cell? ((Addr.add ⟨b, off, spot⟩ (i * P.cellsOf e)).add j) = (f l[i])[j]? := fun i hi j hj => (World.cells?_some (h3 i hi)).2.2 j hj
      have hspot : spot = none := by
        have h4 := hcell 0 (by omega) 0 hk
        rw [List.getElem?_eq_getElem (by rw [hf]; exact hk)] at h4
        simpa [Addr.add] using World.cell?_spot h4
      subst hspot
      refine ⟨b, off, rfl, ?_, fun q hq => ?_⟩
      · have h6 := World.cells?_block (h3 0 (by omega)) hk
        simpa [Addr.add] using h6
      · have hq1 : q / P.cellsOf e < l.length := Nat.div_lt_of_lt_mul (by rw [Nat.mul_comm]; exact hq)
        have h5 := hcell (q / P.cellsOf e) hq1 (q % P.cellsOf e) (Nat.mod_lt _ hk)
        rw [Go.Deep.add_add, Nat.mul_comm, Nat.div_add_mod, Go.WideShapes.add_plain] at h5
        rw [h5]
        exact (flat_get f (P.cellsOf e) hf hk l q hq1).symm

section
variable {H : Type} {enc : TypeId × Value → H} {w : World} {spare : Nat → Bool} {fuel : Nat} {cs : List Value} {x : DataW H × List MemPlace}
theorem c_int : Tryz.prog.cellsOf 3 = 1 := by kernel_rfl
theorem c_ints : Tryz.prog.cellsOf 24 = 1 := by kernel_rfl
theorem c_shapes : Tryz.prog.cellsOf 27 = 1 := by kernel_rfl
theorem c_two : Tryz.prog.cellsOf 23 = 2 := by kernel_rfl
theorem c_ins : Tryz.prog.cellsOf 28 = 2 := by kernel_rfl
theorem c_need : Tryz.prog.cellsOf 26 = 8 := by kernel_rfl
theorem c_op : Tryz.prog.cellsOf 44 = 6 := by kernel_rfl
theorem c_ops : Tryz.prog.cellsOf 22 = 1 := by kernel_rfl
theorem c_kind : Tryz.prog.cellsOf 42 = 1 := by kernel_rfl
theorem c_u64 : Tryz.prog.cellsOf 41 = 1 := by kernel_rfl
theorem c_plan : Tryz.prog.cellsOf 30 = 16 := by kernel_rfl

theorem flat_ints (l : List Int) : l.flatMap (fun n => [Value.int .i64 n]) = ints l := by
  induction l with
  | nil => rfl
  | cons a l ih => rw [List.flatMap_cons, ih]; rfl
theorem flat_fst {β : Type} (l : List (Value × β)) : l.flatMap (fun p => [p.1]) = l.map (·.1) := by
  induction l with
  | nil => rfl
  | cons a l ih => rw [List.flatMap_cons, ih]; rfl

theorem open_ilist (h : DataW.trod enc Tryz.prog w 0 spare true fuel 24 cs = some x) : ∃ v l, cs = [v] ∧ Arr w.heap.size w 1 v l.length (ints l) := by
  obtain ⟨v, l, rfl, _, h⟩ := open_arr (fun n : Int => [Value.int .i64 n]) (fun _ => True) (fun _ => rfl) (by decide) Tryz.underlying24 c_int
    (fun n cs' d hd => by obtain ⟨z, rfl, _⟩ := DataW.trod_int Tryz.underlying3 hd; exact ⟨z, rfl, trivial⟩) h
  exact ⟨v, l, rfl, by rwa [flat_ints] at h⟩
theorem nest_of {B : Nat} {w : World} : ∀ (l : List (Value × List Int)), (∀ a ∈ l, Arr B w 1 a.1 a.2.length (ints a.2)) → Nest B w (l.map (·.1)) ((l.map (·.2)).map ints)
  | [], _ => trivial
  | a :: l, h => ⟨by have := h a List.mem_cons_self; rwa [← ints_length a.2] at this, nest_of l fun b hb => h b (List.mem_cons_of_mem _ hb)⟩
theorem open_shapes (h : DataW.trod enc Tryz.prog w 0 spare true fuel 27 cs = some x) : ∃ v l, cs = [v] ∧ ShAt w.heap.size w v l := by
  obtain ⟨v, l, rfl, hR, h⟩ := open_arr (fun p : Value × List Int => [p.1]) (fun p => Arr w.heap.size w 1 p.1 p.2.length (ints p.2)) (fun _ => rfl) (by decide) Tryz.underlying27 c_ints
    (fun n cs' d hd => by obtain ⟨z, s, rfl, hs⟩ := open_ilist hd; exact ⟨(z, s), rfl, hs⟩) h
  refine ⟨v, l.map (·.2), rfl, l.map (·.1), by simp, ?_, nest_of l hR⟩
  rw [flat_fst] at h
  rwa [List.length_map]
theorem open_two (h : DataW.trod enc Tryz.prog w 0 spare true fuel 23 cs = some x) : ∃ a b, cs[0]? = some (.int .i64 a) ∧ cs[1]? = some (.int .i64 b) := by
  obtain ⟨xs, m, rfl, _, hl, hn, hx⟩ := DataW.trod_array Tryz.underlying23 h
  have each : ∀ i, i < 2 → ∃ a, cs[i]? = some (.int .i64 a) := fun i hi => by
    have h1 := hx i hi
    rw [List.getElem?_eq_getElem (by rw [hn]; exact hi), c_int] at h1
    obtain ⟨a, h2, _⟩ := DataW.trod_int Tryz.underlying3 h1
    exact ⟨a, by simpa using drop_take_one h2⟩
  obtain ⟨a, ha⟩ := each 0 (by decide)
  obtain ⟨b, hb⟩ := each 1 (by decide)
  exact ⟨a, b, ha, hb⟩
theorem open_ins (h : DataW.trod enc Tryz.prog w 0 spare true fuel 28 cs = some x) : ∃ v0 v1 l0 l1, cs[0]? = some v0 ∧ cs[1]? = some v1 ∧ ShAt w.heap.size w v0 l0 ∧ ShAt w.heap.size w v1 l1 := by
  obtain ⟨xs, m, rfl, _, hl, hn, hx⟩ := DataW.trod_array Tryz.underlying28 h
  have each : ∀ i, i < 2 → ∃ v l, cs[i]? = some v ∧ ShAt w.heap.size w v l := fun i hi => by
    have h1 := hx i hi
    rw [List.getElem?_eq_getElem (by rw [hn]; exact hi), c_shapes] at h1
    obtain ⟨v, l, h2, h3⟩ := open_shapes h1
    exact ⟨v, l, by simpa using drop_take_one h2, h3⟩
  obtain ⟨v0, l0, ha, h0⟩ := each 0 (by decide)
  obtain ⟨v1, l1, hb, h1⟩ := each 1 (by decide)
  exact ⟨v0, v1, l0, l1, ha, hb, h0, h1⟩
theorem drop_take_get {cs : List Value} {o n j : Nat} (hj : j < n) : ((cs.drop o).take n)[j]? = cs[o + j]? := by
  rw [List.getElem?_take_of_lt hj, List.getElem?_drop]
set_option maxRecDepth 100000 in
theorem open_op (h : DataW.trod enc Tryz.prog w 0 spare true fuel 44 cs = some x) : ∃ o : MOp, cs = o.cells ∧ o.c < 18446744073709551616 := by
  obtain ⟨xs, m, rfl, _, hl, hn, hx⟩ := DataW.trod_struct Tryz.underlying44 h
  have g0 : DataW.trod enc Tryz.prog w 0 spare true m 42 ((cs.drop 0).take 1) = xs[0]? := (congrArg (fun k => DataW.trod enc Tryz.prog w 0 spare true m 42 ((cs.drop 0).take k)) c_kind).symm.trans (hx 0 _ rfl)
  have g1 : DataW.trod enc Tryz.prog w 0 spare true m 3 ((cs.drop 1).take 1) = xs[1]? := (congrArg (fun k => DataW.trod enc Tryz.prog w 0 spare true m 3 ((cs.drop 1).take k)) c_int).symm.trans (hx 1 _ rfl)
  have g2 : DataW.trod enc Tryz.prog w 0 spare true m 3 ((cs.drop 2).take 1) = xs[2]? := (congrArg (fun k => DataW.trod enc Tryz.prog w 0 spare true m 3 ((cs.drop 2).take k)) c_int).symm.trans (hx 2 _ rfl)
  have g3 : DataW.trod enc Tryz.prog w 0 spare true m 3 ((cs.drop 3).take 1) = xs[3]? := (congrArg (fun k => DataW.trod enc Tryz.prog w 0 spare true m 3 ((cs.drop 3).take k)) c_int).symm.trans (hx 3 _ rfl)
  have g4 : DataW.trod enc Tryz.prog w 0 spare true m 41 ((cs.drop 4).take 1) = xs[4]? := (congrArg (fun k => DataW.trod enc Tryz.prog w 0 spare true m 41 ((cs.drop 4).take k)) c_u64).symm.trans (hx 4 _ rfl)
  have g5 : DataW.trod enc Tryz.prog w 0 spare true m 3 ((cs.drop 5).take 1) = xs[5]? := (congrArg (fun k => DataW.trod enc Tryz.prog w 0 spare true m 3 ((cs.drop 5).take k)) c_int).symm.trans (hx 5 _ rfl)
  rw [c_op] at hl
  have hn6 : xs.length = 6 := hn
  rw [List.getElem?_eq_getElem (by omega)] at g0 g1 g2 g3 g4 g5
  obtain ⟨n0, e0, _⟩ := DataW.trod_int Tryz.underlying42 g0
  obtain ⟨n1, e1, _⟩ := DataW.trod_int Tryz.underlying3 g1
  obtain ⟨n2, e2, _⟩ := DataW.trod_int Tryz.underlying3 g2
  obtain ⟨n3, e3, _⟩ := DataW.trod_int Tryz.underlying3 g3
  obtain ⟨n4, e4, _, hw4⟩ := DataW.trod_int Tryz.underlying41 g4
  obtain ⟨n5, e5, _⟩ := DataW.trod_int Tryz.underlying3 g5
  have b4 := bounds_u64 hw4
  refine ⟨⟨n0, n1, n2, n3, n4.toNat, n5⟩, ?_, by show n4.toNat < _; omega⟩
  have k0 := drop_take_one e0
  have k1 := drop_take_one e1
  have k2 := drop_take_one e2
  have k3 := drop_take_one e3
  have k4 := drop_take_one e4
  have k5 := drop_take_one e5
  clear hx g0 g1 g2 g3 g4 g5 e0 e1 e2 e3 e4 e5
  match cs, hl with
  | [a0, a1, a2, a3, a4, a5], _ =>
    simp at k0 k1 k2 k3 k4 k5
    subst k0 k1 k2 k3 k4 k5
    simp only [MOp.cells]
    rw [Int.toNat_of_nonneg b4.1]
theorem open_ops (h : DataW.trod enc Tryz.prog w 0 spare true fuel 22 cs = some x) : ∃ v l, cs = [v] ∧ (∀ o ∈ l, o.c < 18446744073709551616) ∧ Arr w.heap.size w 6 v l.length (ocells l) :=
  open_arr MOp.cells (fun o => o.c < 18446744073709551616) (fun _ => rfl) (by decide) Tryz.underlying22 c_op (fun n cs' d hd => open_op hd) h
set_option maxRecDepth 100000 in
theorem open_need (h : DataW.trod enc Tryz.prog w 0 spare true fuel 26 cs = some x) : ∃ q : MNeed, cs = [.int .i64 q.tri, .int .i64 q.bits, .int .i64 q.ots, .int .i64 q.t0, .int .i64 q.t1, .int .i64 q.rounds, .int .i64 q.w0, .int .i64 q.w1] := by
  obtain ⟨xs, m, rfl, _, hl, hn, hx⟩ := DataW.trod_struct Tryz.underlying26 h
  have g0 : DataW.trod enc Tryz.prog w 0 spare true m 3 ((cs.drop 0).take 1) = xs[0]? := (congrArg (fun k => DataW.trod enc Tryz.prog w 0 spare true m 3 ((cs.drop 0).take k)) c_int).symm.trans (hx 0 _ rfl)
  have g1 : DataW.trod enc Tryz.prog w 0 spare true m 3 ((cs.drop 1).take 1) = xs[1]? := (congrArg (fun k => DataW.trod enc Tryz.prog w 0 spare true m 3 ((cs.drop 1).take k)) c_int).symm.trans (hx 1 _ rfl)
  have g2 : DataW.trod enc Tryz.prog w 0 spare true m 3 ((cs.drop 2).take 1) = xs[2]? := (congrArg (fun k => DataW.trod enc Tryz.prog w 0 spare true m 3 ((cs.drop 2).take k)) c_int).symm.trans (hx 2 _ rfl)
  have g3 : DataW.trod enc Tryz.prog w 0 spare true m 23 ((cs.drop 3).take 2) = xs[3]? := (congrArg (fun k => DataW.trod enc Tryz.prog w 0 spare true m 23 ((cs.drop 3).take k)) c_two).symm.trans (hx 3 _ rfl)
  have g4 : DataW.trod enc Tryz.prog w 0 spare true m 3 ((cs.drop 5).take 1) = xs[4]? := (congrArg (fun k => DataW.trod enc Tryz.prog w 0 spare true m 3 ((cs.drop 5).take k)) c_int).symm.trans (hx 4 _ rfl)
  have g5 : DataW.trod enc Tryz.prog w 0 spare true m 23 ((cs.drop 6).take 2) = xs[5]? := (congrArg (fun k => DataW.trod enc Tryz.prog w 0 spare true m 23 ((cs.drop 6).take k)) c_two).symm.trans (hx 5 _ rfl)
  rw [c_need] at hl
  have hn6 : xs.length = 6 := hn
  rw [List.getElem?_eq_getElem (by omega)] at g0 g1 g2 g3 g4 g5
  obtain ⟨n0, e0, _⟩ := DataW.trod_int Tryz.underlying3 g0
  obtain ⟨n1, e1, _⟩ := DataW.trod_int Tryz.underlying3 g1
  obtain ⟨n2, e2, _⟩ := DataW.trod_int Tryz.underlying3 g2
  obtain ⟨a3, b3, e3, f3⟩ := open_two g3
  obtain ⟨n4, e4, _⟩ := DataW.trod_int Tryz.underlying3 g4
  obtain ⟨a5, b5, e5, f5⟩ := open_two g5
  have k0 := drop_take_one e0
  have k1 := drop_take_one e1
  have k2 := drop_take_one e2
  have k4 := drop_take_one e4
  rw [drop_take_get (by decide)] at e3 f3 e5 f5
  clear hx g0 g1 g2 g3 g4 g5 e0 e1 e2 e4
  refine ⟨⟨n0, n1, n2, a3, b3, n4, a5, b5⟩, ?_⟩
  match cs, hl with
  | [c0, c1, c2, c3, c4, c5, c6, c7], _ =>
    simp at k0 k1 k2 k4 e3 f3 e5 f5
    subst k0 k1 k2 k4 e3 f3 e5 f5
    rfl
end

set_option maxRecDepth 100000 in
/-- WHAT READS AS A PLAN IS ONE IN MEMORY. -/
theorem plan_open {H : Type} {enc : TypeId × Value → H} {w : World} {spare : Nat → Bool} {r : Reach} {base : Nat} {v : Value} {d : DataW H} {ps : List MemPlace}
    (hval : Value.okWide Tryz.prog w r base 30 v) (h : DataW.Trod enc Tryz.prog w 0 spare true 30 v d ps) : ∃ p u, v = .agg (planArr p u) ∧ PlanIn w.heap.size w p u := by
  obtain ⟨cs, rfl, hsz⟩ := okWide_struct Tryz.underlying30 hval
  obtain ⟨fuel, h⟩ := h
  obtain ⟨xs, m, rfl, _, hl, hn, hx⟩ := DataW.trod_struct Tryz.underlying30 h
  rw [c_plan] at hsz
  obtain ⟨cs⟩ := cs
  have hsz : cs.length = 16 := hsz
  have g0 : DataW.trod enc Tryz.prog w 0 spare true m 22 ((cs.drop 0).take 1) = xs[0]? := (congrArg (fun k => DataW.trod enc Tryz.prog w 0 spare true m 22 ((cs.drop 0).take k)) c_ops).symm.trans (hx 0 _ rfl)
  have g1 : DataW.trod enc Tryz.prog w 0 spare true m 23 ((cs.drop 1).take 2) = xs[1]? := (congrArg (fun k => DataW.trod enc Tryz.prog w 0 spare true m 23 ((cs.drop 1).take k)) c_two).symm.trans (hx 1 _ rfl)
  have g2 : DataW.trod enc Tryz.prog w 0 spare true m 24 ((cs.drop 3).take 1) = xs[2]? := (congrArg (fun k => DataW.trod enc Tryz.prog w 0 spare true m 24 ((cs.drop 3).take k)) c_ints).symm.trans (hx 2 _ rfl)
  have g3 : DataW.trod enc Tryz.prog w 0 spare true m 3 ((cs.drop 4).take 1) = xs[3]? := (congrArg (fun k => DataW.trod enc Tryz.prog w 0 spare true m 3 ((cs.drop 4).take k)) c_int).symm.trans (hx 3 _ rfl)
  have g4 : DataW.trod enc Tryz.prog w 0 spare true m 26 ((cs.drop 5).take 8) = xs[4]? := (congrArg (fun k => DataW.trod enc Tryz.prog w 0 spare true m 26 ((cs.drop 5).take k)) c_need).symm.trans (hx 4 _ rfl)
  have g5 : DataW.trod enc Tryz.prog w 0 spare true m 27 ((cs.drop 13).take 1) = xs[5]? := (congrArg (fun k => DataW.trod enc Tryz.prog w 0 spare true m 27 ((cs.drop 13).take k)) c_shapes).symm.trans (hx 5 _ rfl)
  have g6 : DataW.trod enc Tryz.prog w 0 spare true m 28 ((cs.drop 14).take 2) = xs[6]? := (congrArg (fun k => DataW.trod enc Tryz.prog w 0 spare true m 28 ((cs.drop 14).take k)) c_ins).symm.trans (hx 6 _ rfl)
  have hn7 : xs.length = 7 := hn
  rw [List.getElem?_eq_getElem (by omega)] at g0 g1 g2 g3 g4 g5 g6
  obtain ⟨v0, ops, e0, hc, hops⟩ := open_ops g0
  obtain ⟨a1, b1, e1, f1⟩ := open_two g1
  obtain ⟨v2, slots, e2, hslots⟩ := open_ilist g2
  obtain ⟨n3, e3, _⟩ := DataW.trod_int Tryz.underlying3 g3
  obtain ⟨q, e4⟩ := open_need g4
  obtain ⟨v5, sh, e5, hsh⟩ := open_shapes g5
  obtain ⟨v6, v7, l6, l7, e6, f6, h6, h7⟩ := open_ins g6
  have k0 := drop_take_one e0
  have k2 := drop_take_one e2
  have k3 := drop_take_one e3
  have k5 := drop_take_one e5
  rw [drop_take_get (by decide)] at e1 f1 e6 f6
  clear hx g0 g1 g2 g3 g4 g5 g6 e0 e2 e3 e5 hl h
  refine ⟨⟨ops, a1, b1, slots, n3, q, sh, l6, l7⟩, ⟨v0, v2, v5, v6, v7⟩, ?_, hops, hslots, hsh, h6, h7, hc⟩
  match cs, hsz with
  | [c0, c1, c2, c3, c4, c5, c6, c7, c8, c9, c10, c11, c12, c13, c14, c15], _ =>
    simp at k0 k2 k3 k5 e1 f1 e6 f6 e4
    obtain ⟨r5, r6, r7, r8, r9, r10, r11, r12⟩ := e4
    subst k0 k2 k3 k5 e1 f1 e6 f6 r5 r6 r7 r8 r9 r10 r11 r12
    rfl
end Go.Proofs.YtjbhgimhcjcpmaaGreatDoor

/-
  WORDS for the laws CodePlans and CodeBytes.
-/
namespace Go.Proofs.YtjbhgimhcjcpmaaGreatDoor
open Go.RowKit

theorem isAgg_pair (w : World) : (isAgg 52).run Tryz.prog w = .ok true w := by kernel_rfl
theorem sizeOf_u64 (w : World) : (sizeOf 41).run Tryz.prog w = .ok 1 w := by kernel_rfl
theorem eq_pair (n : Nat) (a b c d : Int) (w : World) : (Op.equalIn (n + 2) 52 (.agg #[.int .u64 a, .int .u64 b]) (.agg #[.int .u64 c, .int .u64 d])).run Tryz.prog w = .ok (a == c && b == d) w := by
  have u3 := Tryz.underlying41
  have a3 := isAgg_u64
  have z3 := sizeOf_u64
  rw [show n + 2 = (n + 1) + 1 from rfl, Op.equalIn]
  simp only [Sem.run_bind, run_underlying Tryz.underlying52, Result.andThen_ok]
  simp only [Std.Legacy.Range.forIn_eq_forIn_range', Std.Legacy.Range.size, Nat.sub_zero, Nat.add_sub_cancel, Nat.div_one, List.range'_succ, List.range'_zero, List.forIn_cons, List.forIn_nil]
  go_simp
  by_cases h1 : a = c <;> by_cases h2 : b = d <;> simp [h1, h2]
/-- What '==' says of two pairs of words. -/
theorem run_eql_pair (a b c d : Int) (w : World) : (binOp .eql 52 (.agg #[.int .u64 a, .int .u64 b]) (.agg #[.int .u64 c, .int .u64 d])).run Tryz.prog w = .ok (.bool (a == c && b == d)) w := by
  have e2 := eq_pair 9998 a b c d w
  simp only [show (9998 + 2 : Nat) = 10000 from rfl] at e2
  rw [run_eql_struct, e2]
  rfl

/-- What stands of a plan's block. -/
theorem plan_flat {W : World} {B : Nat} {p : MPlan} {v : PVals} {t : TypeId} {fr : Nat × Nat} (h : W.heap[B]? = some (.cells (planArr p v) t fr)) :
    W.cell? ⟨B, 0, none⟩ = some v.ops ∧ W.cell? ⟨B, 1, none⟩ = some (.int .i64 p.e0) ∧ W.cell? ⟨B, 2, none⟩ = some (.int .i64 p.e1) ∧ W.cell? ⟨B, 3, none⟩ = some v.slots ∧ W.cell? ⟨B, 4, none⟩ = some (.int .i64 p.arena) ∧
    W.cell? ⟨B, 5, none⟩ = some (.int .i64 p.need.tri) ∧ W.cell? ⟨B, 6, none⟩ = some (.int .i64 p.need.bits) ∧ W.cell? ⟨B, 7, none⟩ = some (.int .i64 p.need.ots) ∧ W.cell? ⟨B, 8, none⟩ = some (.int .i64 p.need.t0) ∧
    W.cell? ⟨B, 9, none⟩ = some (.int .i64 p.need.t1) ∧ W.cell? ⟨B, 10, none⟩ = some (.int .i64 p.need.rounds) ∧ W.cell? ⟨B, 11, none⟩ = some (.int .i64 p.need.w0) ∧ W.cell? ⟨B, 12, none⟩ = some (.int .i64 p.need.w1) ∧
    W.cell? ⟨B, 13, none⟩ = some v.shapes ∧ W.cell? ⟨B, 14, none⟩ = some v.in0 ∧ W.cell? ⟨B, 15, none⟩ = some v.in1 := by
  obtain ⟨⟨c0, c1, c2, c3, c4⟩, ⟨c5, c6, c7, c8, c9, c10, c11, c12⟩, c13, c14, c15⟩ := plan_cells h
  exact ⟨c0, c1, c2, c3, c4, c5, c6, c7, c8, c9, c10, c11, c12, c13, c14, c15⟩

/-- The law's plan in its box. -/
structure One (w : World) (C : MPlan) (u : PVals) (W : World) : Prop where
  bp : W.heap[w.heap.size]? = some (.cells (planArr C u) 30 (0, 0))
  below : Below w.heap.size w W
  pu : PlanAt W.heap.size W C u
theorem One.later {w : World} {C : MPlan} {u : PVals} {W W' : World} (h : One w C u W) (hb : Below W.heap.size W W') : One w C u W' :=
  ⟨(hb.block _ (lt_of_block h.bp)).trans h.bp, h.below.trans (hb.mono h.below.size), h.pu.later hb hb.size⟩
/-- A new block of a pair of words. -/
theorem below_pair (W : World) (a b : Value) : Below W.heap.size W (((W.alloc (.cells #[.int .u64 0, .int .u64 0] 52)).setCell ⟨W.heap.size, 0, none⟩ a).setCell ⟨W.heap.size, 1, none⟩ b) :=
  (((Below.refl _ _).alloc (Nat.le_refl _) _).setCell (p := ⟨W.heap.size, 0, none⟩) (Nat.le_refl _) _).setCell (p := ⟨W.heap.size, 1, none⟩) (Nat.le_refl _) _
theorem pair_new (W : World) (a b : Value) : (((W.alloc (.cells #[.int .u64 0, .int .u64 0] 52)).setCell ⟨W.heap.size, 0, none⟩ a).setCell ⟨W.heap.size, 1, none⟩ b).heap[W.heap.size]? = some (.cells #[a, b] 52 (0, 0)) :=
  heap_setCell (heap_setCell (heap_alloc_new W _) _) _
/-- .. with what the answers left. -/
structure Fin (w : World) (C : MPlan) (u q : PVals) (Bd Bq : Nat) (d0 d1 : Int) (s : Value) (bs : List Nat) (W : World) : Prop where
  one : One w C u W
  bq : W.heap[Bq]? = some (.cells (planArr C q) 30 (0, 0))
  pq : PlanAt W.heap.size W C q
  bd : W.heap[Bd]? = some (.cells #[.int .u64 d0, .int .u64 d1] 52 (0, 0))
  arr : Arr W.heap.size W 1 s bs.length (bts bs)
theorem Fin.later {w : World} {C : MPlan} {u q : PVals} {Bd Bq : Nat} {d0 d1 : Int} {s : Value} {bs : List Nat} {W W' : World} (h : Fin w C u q Bd Bq d0 d1 s bs W) (hb : Below W.heap.size W W') : Fin w C u q Bd Bq d0 d1 s bs W' :=
  ⟨h.one.later hb, (hb.block _ (lt_of_block h.bq)).trans h.bq, h.pq.later hb hb.size, (hb.block _ (lt_of_block h.bd)).trans h.bd, h.arr.later hb hb.size⟩
theorem Fin.two {w : World} {C : MPlan} {u q : PVals} {Bd Bq : Nat} {d0 d1 : Int} {s : Value} {bs : List Nat} {W : World} (h : Fin w C u q Bd Bq d0 d1 s bs W) : W.cell? ⟨Bd, 0, none⟩ = some (.int .u64 d0) ∧ W.cell? ⟨Bd, 1, none⟩ = some (.int .u64 d1) := by
  have := h.bd
  refine ⟨?_, ?_⟩ <;> simp [World.cell?, this]
end Go.Proofs.YtjbhgimhcjcpmaaGreatDoor

/-
  THE LAW CodePlans: its walk.
-/
namespace Go.Proofs.YtjbhgimhcjcpmaaGreatDoor
open Go.RowKit

theorem Fin.held {w : World} {C : MPlan} {u q : PVals} {Bp Bd Bq gb bc : Nat} {d0 d1 : Int} {bs : List Nat} {W : World} (h : Fin w C u q Bd Bq d0 d1 (.slice (some ⟨gb, 0, none⟩) bs.length bc) bs W) (hB : w.heap.size = Bp) :
    (convert 33 9 (.slice (some ⟨gb, 0, none⟩) bs.length bc)).run Tryz.prog W = .ok (.string (strB bs)) W ∧ W.cell? ⟨Bp, 0, none⟩ = some u.ops ∧ W.cell? ⟨Bp, 1, none⟩ = some (.int .i64 C.e0) ∧ W.cell? ⟨Bp, 2, none⟩ = some (.int .i64 C.e1) ∧ W.cell? ⟨Bp, 3, none⟩ = some u.slots ∧ W.cell? ⟨Bp, 4, none⟩ = some (.int .i64 C.arena) ∧ W.cell? ⟨Bp, 5, none⟩ = some (.int .i64 C.need.tri) ∧ W.cell? ⟨Bp, 6, none⟩ = some (.int .i64 C.need.bits) ∧ W.cell? ⟨Bp, 7, none⟩ = some (.int .i64 C.need.ots) ∧ W.cell? ⟨Bp, 8, none⟩ = some (.int .i64 C.need.t0) ∧ W.cell? ⟨Bp, 9, none⟩ = some (.int .i64 C.need.t1) ∧ W.cell? ⟨Bp, 10, none⟩ = some (.int .i64 C.need.rounds) ∧ W.cell? ⟨Bp, 11, none⟩ = some (.int .i64 C.need.w0) ∧ W.cell? ⟨Bp, 12, none⟩ = some (.int .i64 C.need.w1) ∧ W.cell? ⟨Bp, 13, none⟩ = some u.shapes ∧ W.cell? ⟨Bp, 14, none⟩ = some u.in0 ∧ W.cell? ⟨Bp, 15, none⟩ = some u.in1 ∧ W.cell? ⟨Bq, 0, none⟩ = some q.ops ∧ W.cell? ⟨Bq, 1, none⟩ = some (.int .i64 C.e0) ∧ W.cell? ⟨Bq, 2, none⟩ = some (.int .i64 C.e1) ∧ W.cell? ⟨Bq, 3, none⟩ = some q.slots ∧ W.cell? ⟨Bq, 4, none⟩ = some (.int .i64 C.arena) ∧ W.cell? ⟨Bq, 5, none⟩ = some (.int .i64 C.need.tri) ∧ W.cell? ⟨Bq, 6, none⟩ = some (.int .i64 C.need.bits) ∧ W.cell? ⟨Bq, 7, none⟩ = some (.int .i64 C.need.ots) ∧ W.cell? ⟨Bq, 8, none⟩ = some (.int .i64 C.need.t0) ∧ W.cell? ⟨Bq, 9, none⟩ = some (.int .i64 C.need.t1) ∧ W.cell? ⟨Bq, 10, none⟩ = some (.int .i64 C.need.rounds) ∧ W.cell? ⟨Bq, 11, none⟩ = some (.int .i64 C.need.w0) ∧ W.cell? ⟨Bq, 12, none⟩ = some (.int .i64 C.need.w1) ∧ W.cell? ⟨Bq, 13, none⟩ = some q.shapes ∧ W.cell? ⟨Bq, 14, none⟩ = some q.in0 ∧ W.cell? ⟨Bq, 15, none⟩ = some q.in1 ∧ W.cell? ⟨Bd, 0, none⟩ = some (.int .u64 d0) ∧ W.cell? ⟨Bd, 1, none⟩ = some (.int .u64 d1) := by
  subst hB
  obtain ⟨c0, c1, c2, c3, c4, c5, c6, c7, c8, c9, c10, c11, c12, c13, c14, c15⟩ := plan_flat h.one.bp
  obtain ⟨q0, q1, q2, q3, q4, q5, q6, q7, q8, q9, q10, q11, q12, q13, q14, q15⟩ := plan_flat h.bq
  obtain ⟨e0, e1⟩ := h.two
  exact ⟨conv_arr h.arr rfl, c0, c1, c2, c3, c4, c5, c6, c7, c8, c9, c10, c11, c12, c13, c14, c15, q0, q1, q2, q3, q4, q5, q6, q7, q8, q9, q10, q11, q12, q13, q14, q15, e0, e1⟩

set_option maxHeartbeats 8000000 in
set_option maxRecDepth 100000 in
theorem codePlans_walk (p : MPlan) (v : PVals) (w : World) (h : PlanIn w.heap.size w p v) (hE : ErrT w) :
    Calls Tryz.prog 5 #[.agg (planArr p v)] w (RetB (.bool true) w) := by
  have HP := Lib.hid h
  have HE := Lib.hid hE
  have HC := Lib.hid h.hc
  have HB0 := Lib.hid ((Below.refl w.heap.size w).alloc (Nat.le_refl _) (.cells (planArr p v) 30))
  have HX0 := Lib.hid (heap_alloc_new w (.cells (planArr p v) 30))
  clear h hE
  simp only [planArr] at HB0 HX0 ⊢
  go_enter Tryz.func5, Tryz.ntmps5
  go_upto_region 4 with (first | (go_at_call 6; go_must (refine (awake_any _ (HE.out.below HB0.out)).mono ?_; unfold RetB; rintro e w1 ⟨rfl, hb1⟩; have hx := (hb1.block _ (by rw [World.size_alloc]; omega)).trans HX0.out; have HB1 := Lib.hid (HB0.out.trans (hb1.mono HB0.out.size)); have HX1 := Lib.hid hx; obtain ⟨⟨c0, c1, c2, c3, c4⟩, ⟨c5, c6, c7, c8, c9, c10, c11, c12⟩, c13, c14, c15⟩ := plan_cells (p := p) (v := v) hx; clear hb1 hx)) | (go_at_call 7; go_must (refine (own_any p v _ (HP.out.later HB1.out HB1.out.size)).mono ?_; rintro e w2 ⟨u, rfl, ho, hb⟩; have HX2 := Lib.hid ((hb.block _ (lt_of_block HX1.out)).trans HX1.out); have HO2 := Lib.hid ho; have HB2 := Lib.hid (HB1.out.trans (hb.mono HB1.out.size)); clear ho hb c0 c1 c2 c3 c4 c5 c6 c7 c8 c9 c10 c11 c12 c13 c14 c15)) | ((with_reducible show wpList _ _ _ (⟨_, Op.store 30 (.tmp 1) _, _, _, _, _⟩ :: _) _ _); go_must (refine wpList_store_row rfl 30 _ _ rfl w.heap.size (planArr (cutPlan p) u) rfl rfl 30 _ HX2.out info_planP rfl (plan_one HO2.out) ?_)))
  have HX3 := Lib.hid (setRow_heap _ _ _ _ _ _ HX2.out : (w2.setRow w.heap.size (planArr (cutPlan p) u)).heap[w.heap.size]? = _)
  have HO3 := Lib.hid (HO2.out.kept (grown_setRow w2 w.heap.size (planArr (cutPlan p) u)) (Off.block HX2.out (by decide)) (Off.block HX2.out (by decide)) (Off.block HX2.out (by decide)))
  have HB3 := Lib.hid (below_setRow HB2.out (Nat.le_refl _) (planArr (cutPlan p) u))
  clear HX2 HO2 HB2 HX1 HB1 HX0 HB0
  generalize w2.setRow w.heap.size (planArr (cutPlan p) u) = W3 at HX3 HO3 HB3 ⊢
  have HT := Lib.hid (cutPlan_twice p)
  have HO1 := Lib.hid (show One w (cutPlan p) u W3 from ⟨HX3.out, HB3.out, own_at HO3.out HC.out⟩)
  have HI := Lib.hid (own_in HO3.out (cut_hc HC.out))
  clear HX3 HB3 HO3 HP
  rcases hg : mGood (cutPlan p) with _ | _
  · have HG := Lib.hid hg
    clear hg
    as_aux_lemma =>
      go_upto_region 5 with (first | ((with_reducible show wpList _ _ _ (⟨some 14, Op.load 30 _, _, _, _, _⟩ :: _) _ _); go_must (refine wpList_load_row rfl 30 _ rfl w.heap.size rfl _ (planArr (cutPlan p) u) _ _ HO1.out.bp Tryz.underlying30 rfl info_planP ?_)) | (go_at_call 7; go_must (refine (own_any (cutPlan p) u _ HI.out).mono ?_; rw [HT.out]; rintro e w4 ⟨x, rfl, ho, hb⟩; have HO4 := Lib.hid (HO1.out.later hb); have HX4 := Lib.hid (own_at ho HC.out); clear ho hb)) | (go_at_call 8; go_must (refine (encode_no (cutPlan p) x _ HX4.out (HE.out.below HO4.out.below) HG.out).mono ?_; rintro e w6 ⟨er, rfl, ⟨l6, hu⟩, hb⟩; obtain ⟨T6, x6, rfl⟩ := hu.form; have HU6 := Lib.hid hu; have HO6 := Lib.hid (HO4.out.later hb); clear hb hu)))
      clear HO1 HI HT HX4 HO4
      go_upto_region 6 with (first | ((with_reducible show wpList _ _ _ (⟨some 20, Op.load 30 _, _, _, _, _⟩ :: _) _ _); go_must (refine wpList_load_row rfl 30 _ rfl w.heap.size rfl _ (planArr (cutPlan p) u) _ _ HO6.out.bp Tryz.underlying30 rfl info_planP ?_)) | (go_at_call 14; go_must (refine (codeDigest_no (cutPlan p) u _ HO6.out.pu (HE.out.below HO6.out.below) HG.out).mono ?_; rintro e w7 ⟨ef, rfl, ⟨l7, hu⟩, hb⟩; obtain ⟨T7, x7, rfl⟩ := hu.form; have HU7 := Lib.hid hu; have HV7 := Lib.hid (HU6.out.later hb hb.size); have HO7 := Lib.hid (HO6.out.later hb); clear hb hu)))
      clear HU6 HO6
      have hb8 := (Below.refl w7.heap.size w7).alloc (Nat.le_refl _) (.cells #[.int .u64 0, .int .u64 0] 52)
      have HO8 := Lib.hid (HO7.out.later hb8)
      have HU8 := Lib.hid (HU7.out.later hb8 hb8.size)
      have HV8 := Lib.hid (HV7.out.later hb8 hb8.size)
      have HD8 := Lib.hid (heap_alloc_new w7 (.cells #[.int .u64 0, .int .u64 0] 52))
      clear hb8 HO7 HU7 HV7
      generalize World.alloc w7 _ = W8 at HO8 HU8 HV8 HD8 ⊢
      generalize w7.heap.size = Bd at HD8 ⊢
      have hq : ∀ W, (binOp .eql 52 (.agg #[.int .u64 0, .int .u64 0]) (.agg #[.int .u64 0, .int .u64 0])).run Tryz.prog W = .ok (.bool true) W := fun W => run_eql_pair 0 0 0 0 W
      go_wp2_with (first | ((with_reducible show wpList _ _ _ (⟨some 24, Op.load 30 _, _, _, _, _⟩ :: _) _ _); go_must (refine wpList_load_row rfl 30 _ rfl w.heap.size rfl _ (planArr (cutPlan p) u) _ _ HO8.out.bp Tryz.underlying30 rfl info_planP ?_)) | (go_at_call 15; go_must (refine (refGood_any (cutPlan p) u _ HO8.out.pu).mono ?_; unfold RetB; rw [HG.out]; rintro e w9 ⟨rfl, hb⟩; have HU9 := Lib.hid (HU8.out.later hb hb.size); have HV9 := Lib.hid (HV8.out.later hb hb.size); have HO9 := Lib.hid (HO8.out.later hb); have HD9 := Lib.hid ((hb.block _ (lt_of_block HD8.out)).trans HD8.out); clear hb)) | ((with_reducible show Calls _ _ #[.iface T6 x6] _ _); go_must (refine (Code_any l6 180 _ _ _ HV9.out (Nat.le_refl _) (HE.out.below HO9.out.below)).mono ?_; unfold RetB; rintro e w10 ⟨rfl, hb⟩; have HU10 := Lib.hid (HU9.out.later hb hb.size); have HO10 := Lib.hid (HO9.out.later hb); have HD10 := Lib.hid ((hb.block _ (lt_of_block HD9.out)).trans HD9.out); clear hb)) | ((with_reducible show Calls _ _ #[.iface T7 x7] _ _); go_must (refine (Code_any l7 180 _ _ _ HU10.out (Nat.le_refl _) (HE.out.below HO10.out.below)).mono ?_; unfold RetB; rintro e w11 ⟨rfl, hb⟩; have HO11 := Lib.hid (HO10.out.later hb); have hd11 := (hb.block _ (lt_of_block HD10.out)).trans HD10.out; have e0 : w11.cell? ⟨Bd, 0, none⟩ = some (.int .u64 0) := (by simp [World.cell?, hd11]); have e1 : w11.cell? ⟨Bd, 1, none⟩ = some (.int .u64 0) := (by simp [World.cell?, hd11]); clear hb hd11)))
      go_ret
      exact ⟨rfl, HO11.out.below⟩
  have HG := Lib.hid hg
  have HDC := Lib.hid (mDecode_planBytes (cutPlan p) hg (cut_hc HC.out))
  have hNb := planBytes_small p hg
  have HBY := Lib.hid (planBytes_bytes (cutPlan p))
  clear hg
  obtain ⟨bs, hbs⟩ : ∃ bs, planBytes (cutPlan p) = bs := ⟨_, rfl⟩
  rw [hbs] at HDC HBY hNb
  have HBS := Lib.hid hbs
  clear hbs
  obtain ⟨hN1, hN2⟩ := hNb
  have hN0 : 0 < bs.length := by omega
  obtain ⟨d0, d1, hD⟩ : ∃ d0 d1 : Int, mDigest bs = .agg #[.int .u64 d0, .int .u64 d1] := ⟨_, _, rfl⟩
  have HDG := Lib.hid hD
  clear hD
  go_upto_region 5 with (first | ((with_reducible show wpList _ _ _ (⟨some 14, Op.load 30 _, _, _, _, _⟩ :: _) _ _); go_must (refine wpList_load_row rfl 30 _ rfl w.heap.size rfl _ (planArr (cutPlan p) u) _ _ HO1.out.bp Tryz.underlying30 rfl info_planP ?_)) | (go_at_call 7; go_must (refine (own_any (cutPlan p) u _ HI.out).mono ?_; rw [HT.out]; rintro e w4 ⟨x, rfl, ho, hb⟩; have HO4 := Lib.hid (HO1.out.later hb); have HX4 := Lib.hid (own_at ho HC.out); clear ho hb)) | (go_at_call 8; go_must (refine (encode_yes (cutPlan p) x _ HX4.out (HE.out.below HO4.out.below) HG.out).mono ?_; rw [HBS.out]; rintro e w6 ⟨bv, rfl, ho, hb⟩; obtain ⟨ba, bc, rfl, -, hgb⟩ := own_open ho; obtain ⟨gb, rfl, -, -, -⟩ := hgb hN0; have HA6 := Lib.hid (show Arr w6.heap.size w6 1 (.slice (some ⟨gb, 0, none⟩) bs.length bc) bs.length (bts bs) from Arr.of_owns ho); have HO6 := Lib.hid (HO4.out.later hb); clear hb ho hgb)))
  clear HO1 HI HT HX4 HO4
  go_upto_region 6 with (first | ((with_reducible show wpList _ _ _ (⟨some 20, Op.load 30 _, _, _, _, _⟩ :: _) _ _); go_must (refine wpList_load_row rfl 30 _ rfl w.heap.size rfl _ (planArr (cutPlan p) u) _ _ HO6.out.bp Tryz.underlying30 rfl info_planP ?_)) | (go_at_call 14; go_must (refine (codeDigest_yes (cutPlan p) u _ HO6.out.pu (HE.out.below HO6.out.below) HG.out).mono ?_; unfold RetB; rw [HBS.out, HDG.out]; rintro e w7 ⟨rfl, hb⟩; have HA7 := Lib.hid (HA6.out.later hb hb.size); have HO7 := Lib.hid (HO6.out.later hb); clear hb)))
  clear HA6 HO6
  have hb8 := (Below.refl w7.heap.size w7).alloc (Nat.le_refl _) (.cells #[.int .u64 d0, .int .u64 d1] 52)
  have HO8 := Lib.hid (HO7.out.later hb8)
  have HA8 := Lib.hid (HA7.out.later hb8 hb8.size)
  have HD8 := Lib.hid (heap_alloc_new w7 (.cells #[.int .u64 d0, .int .u64 d1] 52))
  clear hb8 HO7 HA7
  generalize World.alloc w7 _ = W8 at HO8 HA8 HD8 ⊢
  generalize w7.heap.size = Bd at HD8 ⊢
  go_upto_region 9 with (first | ((with_reducible show wpList _ _ _ (⟨some 24, Op.load 30 _, _, _, _, _⟩ :: _) _ _); go_must (refine wpList_load_row rfl 30 _ rfl w.heap.size rfl _ (planArr (cutPlan p) u) _ _ HO8.out.bp Tryz.underlying30 rfl info_planP ?_)) | (go_at_call 15; go_must (refine (refGood_any (cutPlan p) u _ HO8.out.pu).mono ?_; unfold RetB; rw [HG.out]; rintro e w9 ⟨rfl, hb⟩; have HA9 := Lib.hid (HA8.out.later hb hb.size); have HO9 := Lib.hid (HO8.out.later hb); have HD9 := Lib.hid ((hb.block _ (lt_of_block HD8.out)).trans HD8.out); clear hb)) | (go_at_call 10; go_must (refine (decode_any bs _ _ HA9.out hN2 HBY.out (HE.out.below HO9.out.below)).mono ?_; unfold DecPost; rw [HDC.out]; rintro e w10 ⟨q, rfl, ho, hb⟩; have HQ10 := Lib.hid ho; have HB10 := Lib.hid hb; clear ho hb)) | ((with_reducible show wpList _ _ _ (⟨_, Op.store 30 (.tmp 7) _, _, _, _, _⟩ :: _) _ _); go_must (refine wpList_store_row rfl 30 _ _ rfl w10.heap.size (planArr (cutPlan p) q) rfl rfl 30 zeroPlan (heap_alloc_new w10 _) info_planP rfl (plan_one HQ10.out) ?_)))
  have hn := below_new (z := zeroPlan) w10 (planArr (cutPlan p) q)
  have h1 := HB10.out.trans (hn.mono HB10.out.size)
  have HF := Lib.hid (show Fin w (cutPlan p) u q Bd w10.heap.size d0 d1 (.slice (some ⟨gb, 0, none⟩) bs.length bc) bs ((w10.alloc (.cells zeroPlan 30)).setRow w10.heap.size (planArr (cutPlan p) q)) from
    ⟨HO9.out.later h1, setRow_heap _ _ _ _ _ _ (heap_alloc_new w10 _), (own_at HQ10.out HC.out).later hn hn.size, (h1.block _ (lt_of_block HD9.out)).trans HD9.out, HA9.out.later h1 h1.size⟩)
  clear HQ10 HB10 hn h1 HO9 HA9 HD9 HO8 HA8 HD8
  simp only [zeroPlan] at HF
  generalize World.setRow _ _ _ = W11 at HF ⊢
  generalize w10.heap.size = Bq at HF ⊢
  obtain ⟨Bp, hBp⟩ : ∃ Bp, w.heap.size = Bp := ⟨_, rfl⟩
  have HBp := Lib.hid hBp
  rw [hBp]
  clear hBp
  obtain ⟨C, hC⟩ : ∃ C, cutPlan p = C := ⟨_, rfl⟩
  rw [hC] at HF HG HBS
  clear hC HC HDC
  as_aux_lemma =>
    have HFd := Lib.hid (HF.out.later (Below.refl _ _).drew)
    have hs0 := HFd.out.held HBp.out
    have hq : ∀ W, (binOp .eql 52 (.agg #[.int .u64 d0, .int .u64 d1]) (.agg #[.int .u64 d0, .int .u64 d1])).run Tryz.prog W = .ok (.bool true) W := fun W => by rw [run_eql_pair]; simp
    first | (go_region_held (fun W => (convert 33 9 (.slice (some ⟨gb, 0, none⟩) bs.length bc)).run Tryz.prog W = .ok (.string (strB bs)) W ∧ W.cell? ⟨Bp, 0, none⟩ = some u.ops ∧ W.cell? ⟨Bp, 1, none⟩ = some (.int .i64 C.e0) ∧ W.cell? ⟨Bp, 2, none⟩ = some (.int .i64 C.e1) ∧ W.cell? ⟨Bp, 3, none⟩ = some u.slots ∧ W.cell? ⟨Bp, 4, none⟩ = some (.int .i64 C.arena) ∧ W.cell? ⟨Bp, 5, none⟩ = some (.int .i64 C.need.tri) ∧ W.cell? ⟨Bp, 6, none⟩ = some (.int .i64 C.need.bits) ∧ W.cell? ⟨Bp, 7, none⟩ = some (.int .i64 C.need.ots) ∧ W.cell? ⟨Bp, 8, none⟩ = some (.int .i64 C.need.t0) ∧ W.cell? ⟨Bp, 9, none⟩ = some (.int .i64 C.need.t1) ∧ W.cell? ⟨Bp, 10, none⟩ = some (.int .i64 C.need.rounds) ∧ W.cell? ⟨Bp, 11, none⟩ = some (.int .i64 C.need.w0) ∧ W.cell? ⟨Bp, 12, none⟩ = some (.int .i64 C.need.w1) ∧ W.cell? ⟨Bp, 13, none⟩ = some u.shapes ∧ W.cell? ⟨Bp, 14, none⟩ = some u.in0 ∧ W.cell? ⟨Bp, 15, none⟩ = some u.in1 ∧ W.cell? ⟨Bq, 0, none⟩ = some q.ops ∧ W.cell? ⟨Bq, 1, none⟩ = some (.int .i64 C.e0) ∧ W.cell? ⟨Bq, 2, none⟩ = some (.int .i64 C.e1) ∧ W.cell? ⟨Bq, 3, none⟩ = some q.slots ∧ W.cell? ⟨Bq, 4, none⟩ = some (.int .i64 C.arena) ∧ W.cell? ⟨Bq, 5, none⟩ = some (.int .i64 C.need.tri) ∧ W.cell? ⟨Bq, 6, none⟩ = some (.int .i64 C.need.bits) ∧ W.cell? ⟨Bq, 7, none⟩ = some (.int .i64 C.need.ots) ∧ W.cell? ⟨Bq, 8, none⟩ = some (.int .i64 C.need.t0) ∧ W.cell? ⟨Bq, 9, none⟩ = some (.int .i64 C.need.t1) ∧ W.cell? ⟨Bq, 10, none⟩ = some (.int .i64 C.need.rounds) ∧ W.cell? ⟨Bq, 11, none⟩ = some (.int .i64 C.need.w0) ∧ W.cell? ⟨Bq, 12, none⟩ = some (.int .i64 C.need.w1) ∧ W.cell? ⟨Bq, 13, none⟩ = some q.shapes ∧ W.cell? ⟨Bq, 14, none⟩ = some q.in0 ∧ W.cell? ⟨Bq, 15, none⟩ = some q.in1 ∧ W.cell? ⟨Bd, 0, none⟩ = some (.int .u64 d0) ∧ W.cell? ⟨Bd, 1, none⟩ = some (.int .u64 d1)) (first | with_reducible exact hs0 | with_reducible exact hs1 | with_reducible exact hs2 | with_reducible exact hs3 | fail "keep") (first | (go_at_call 13; refine (refEncode_any C u _ HFd.out.one.pu HG.out).mono ?_; rw [HBS.out]; rintro e w12 ⟨ue, rfl, ho, hb⟩; obtain ⟨ae, ce, rfl, -, hge⟩ := own_open ho; obtain ⟨ge, rfl, -, -, -⟩ := hge hN0; have hcv : (convert 33 9 (.slice (some ⟨ge, 0, none⟩) bs.length ce)).run Tryz.prog w12 = .ok (.string (strB bs)) w12 := conv_arr (show Arr w12.heap.size w12 1 (.slice (some ⟨ge, 0, none⟩) bs.length ce) bs.length (bts bs) from Arr.of_owns ho) rfl; have HF1 := Lib.hid (HFd.out.later hb); have hs1 := HF1.out.held HBp.out; clear hb ho hge) | (go_at_call 9; refine (refSame_yes C q u _ HF1.out.pq HF1.out.one.pu).mono ?_; unfold RetB; rintro e w13 ⟨rfl, hb⟩; have HF2 := Lib.hid (HF1.out.later hb); have hs2 := HF2.out.held HBp.out; clear hb) | (go_at_call 16; refine (refDigest_any _ bs _ HF2.out.arr HBY.out).mono ?_; unfold RetB; rw [HDG.out]; rintro e w14 ⟨rfl, hb⟩; have HF3 := Lib.hid (HF2.out.later hb); have hs3 := HF3.out.held HBp.out; clear hb))) | (fail "region")
    all_goals
      go_wp2_with fail
      go_ret
      exact ⟨rfl, HF3.out.one.below⟩
end Go.Proofs.YtjbhgimhcjcpmaaGreatDoor

/-
  CodePlans returns true and leaves its argument as it was, at every plan whose parts are together of no more than the stated bulk; the condition is not used. The card ties the one listed package-level variable of the pruned copy.
-/
namespace Go.Proofs.YtjbhgimhcjcpmaaGreatDoor
open Go.ChangeShapes Go.WideShapes Go.RowKit

/-- What a law with one argument leaves that returned true and wrote below the old heap's end nothing. -/
theorem law_true {H : Type} {enc : TypeId × Value → H} {P : Program} {f : Func} {s : ChangeSpec} {t tb : TypeId} {W W' : World} {v : Value} {d : DataW H} {p before : List MemPlace}
    (hp : f.params = #[t]) (hr : f.resultTypes = #[tb]) (htb : P.underlying tb = some .bool) (hl : laidOutB P = true) (hrr : P.readableRec t = true) (hrow : t < P.types.size)
    (hsv : s.vars = []) (hfn : s.fn H [d] = { results := [.lit (.bool true)], args := [d] })
    (hW : DataW.Whole enc P f.params.toList s.vars false W [v] [d] [] before) (h0 : DataW.Trod enc P W 0 (fun _ => true) true t v d p) (hpb : before = p ++ []) (hb : Below W.heap.size W W') :
    s.post enc P f false true false false W #[v] (.bool true) W' := by
  have hlt : ∀ x ∈ before, x.block < W.heap.size := fun x hx => hW.lt x hx
  rw [List.append_nil] at hpb
  subst hpb
  have again : ∀ sp : Nat → Bool, (∀ x ∈ before, sp x.block = true) → DataW.TrodAll enc P W' 0 sp true f.params.toList [v] (s.fn H [d]).args (before ++ []) := fun sp hsp => by
    rw [hp, hfn]
    exact trodAll_cons_mk (WideElems.Trod_stays hl hrr hrow h0 (fun x hx => hb.same (hlt x hx)) hsp) trodAll_mk0
  have res : ∀ (b : Nat) (sp : Nat → Bool) (hd : Bool), DataW.TrodAll enc P W' b sp hd f.resultTypes.toList ((Value.bool true).resultList f.resultTypes.size) (s.fn H [d]).results [] := fun b sp hd => by
    rw [hr, hfn]
    exact trodAll_cons_mk (shut_bool htb _) trodAll_mk0
  have vars : ∀ sp : Nat → Bool, DataW.TrodVars enc P W' sp s.vars (s.fn H [d]).vars [] := fun sp => by
    rw [hsv, hfn]
    exact rfl
  refine ⟨[d], [], before, [], before ++ [], [], hW, res _ _ _, again _ (fun x hx => by simpa using hlt x hx), vars _, World.keptBut_mono (fun x hx => ⟨hx, .inr ?_⟩) (hb.frame (· ∈ before)), fun _ => ?_⟩
  · simpa using hx
  · obtain ⟨_, _, _, _, _, hz, hn⟩ := hW
    refine ⟨ok_one hr rfl (okWide_bool_mk htb _), _, _, ([] ++ (before ++ [])) ++ [], ⟨[] ++ (before ++ []), [], trodAll_append (again _ (fun _ _ => rfl)) (res _ _ _), vars _, rfl, ?_, ?_⟩, ?_⟩
    · intro b off hx
      have hin : MemPlace.cell b off ∈ before := by simpa using hx
      exact (hb.frozen (hlt _ hin)).trans (hz b off hin)
    · intro ha; cases ha
    · intro x hx _
      simpa using hx

theorem own_off_knob : ownKnob Tryz.prog.godebug = none := by kernel_rfl
theorem g_et : Tryz.prog.globalNamed "errors.errorType" = some 0 := by kernel_rfl
theorem g_rt : (Tryz.prog.cutTypes.find? (·.1 == "internal/reflectlite.rtype")).map (·.2) = some 187 := by kernel_rfl
theorem types_size : Tryz.prog.types.size = 261 := by kernel_rfl
theorem one_error : ((List.range 261).filter fun t => Tryz.prog.rowNamed t [101, 114, 114, 111, 114]) = [35] := by kernel_rfl
theorem laid_outB : laidOutB Tryz.prog = true := by kernel_rfl
theorem plan_rec : Tryz.prog.readableRec 30 = true := by kernel_rfl

/-- What the row's list gives. -/
theorem errT_of_laid {W : World} (h : laidMetH Tryz.prog Rows.codePlansUptoRow.laid W) : ErrT W := by
  have h' : laidMet Tryz.prog [] W ∧ handlesMet Tryz.prog [("errors.errorType", Rows.laid_errors_errorType)] W := h
  obtain ⟨name, u, ty, e1, e2, e3, e4, e5⟩ := h'.2 _ (List.mem_singleton.2 rfl)
  have en : name = [101, 114, 114, 111, 114] := (Option.some.inj e1).symm
  subst en
  obtain rfl := Option.some.inj (g_rt.symm.trans e2)
  have hm : ty ∈ (List.range 261).filter fun t => Tryz.prog.rowNamed t [101, 114, 114, 111, 114] := List.mem_filter.2 ⟨List.mem_range.2 (by rw [← types_size]; exact e3), e4⟩
  rw [one_error] at hm
  obtain rfl := List.mem_singleton.1 hm
  have hh : typeHandle Tryz.prog 35 = .pointer (some ⟨1, 35, none⟩) := by kernel_rfl
  rw [hh] at e5
  have h6 := World.var?_cell g_et e5 0
  simp at h6
  exact h6

set_option maxRecDepth 100000 in
theorem own_contract (H : Type) (enc : TypeId × Value → H) (W : World) (base : Nat) (args : Array Value) (ds gs : List (DataW H)) (before : List MemPlace)
    (hval : ∀ (j : Nat) t v, Tryz.f5.params[j]? = some t → args[j]? = some v → Value.okWide Tryz.prog W .any base t v)
    (hW : DataW.Whole enc Tryz.prog Tryz.f5.params.toList Rows.codePlansSpec.vars false W args.toList ds gs before) (hL : laidMetH Tryz.prog Rows.codePlansUptoRow.laid W) :
    Calls Tryz.prog 5 args W fun e W' => ∃ v, e = .returned v ∧ Rows.codePlansSpec.post enc Tryz.prog Tryz.f5 false true false false W args v W' := by
  have hW' := hW
  obtain ⟨p, q, hA0, hV, rfl, hfz, hnd⟩ := hW
  have hA : DataW.TrodAll enc Tryz.prog W 0 (fun _ => true) true Tryz.f5.params.toList args.toList ds p := hA0
  rw [Tryz.params5] at hA hval
  obtain ⟨v0, vs0, d0, ds0, p0, q0, hargs, rfl, rfl, h0, r0⟩ := trodAll_cons hA
  obtain ⟨rfl, rfl, rfl⟩ := trodAll_nil r0
  obtain rfl : args = #[v0] := by cases args; simp_all
  obtain ⟨rfl, rfl⟩ := trodVars_none hV
  obtain ⟨pl, u, rfl, hu⟩ := plan_open (hval 0 _ v0 rfl rfl) h0
  refine (codePlans_walk pl u W hu (errT_of_laid hL)).mono fun e W' ⟨he, hb⟩ => ?_
  subst he
  rw [List.append_nil, List.append_nil] at hW'
  exact ⟨_, rfl, law_true (t := 30) (tb := 4) Tryz.params5 rfl Tryz.underlying4 laid_outB plan_rec (of_decide_eq_true (by kernel_rfl)) rfl rfl hW' h0 (List.append_nil _).symm hb⟩

/-- A plan of nothing. -/
def noPlan : Value := .agg (planArr ⟨[], 0, 0, [], 0, ⟨0, 0, 0, 0, 0, 0, 0, 0⟩, [], [], []⟩ ⟨.slice none 0 0, .slice none 0 0, .slice none 0 0, .slice none 0 0, .slice none 0 0⟩)
/-- A world for the witness. -/
noncomputable def laidWorld (os : Os) : World :=
  { World.holding Tryz.prog os ⟨#[], #[], []⟩ with heap := (World.holding Tryz.prog os ⟨#[], #[], []⟩).heap.modify 0 fun
      | .cells _ t frozen => .cells #[.iface 187 (.agg #[.pointer (some ⟨1, 35, none⟩)])] t frozen
      | o => o }
theorem laid_met (os : Os) : laidMetH Tryz.prog Rows.codePlansUptoRow.laid ((laidWorld os).forCall (fun _ _ => 0) ⟨#[], #[noPlan], []⟩).memory :=
  laidMetH_of_parts (laidMet_nil _ _) (by kernel_rfl)
theorem plan_reads (os : Os) {H : Type} (enc : TypeId × Value → H) : ∃ ds places, DataW.whole enc Tryz.prog ((laidWorld os).forCall (fun _ _ => 0) ⟨#[], #[noPlan], []⟩).memory Tryz.f5.params.toList Rows.codePlansSpec.vars false #[noPlan].toList 8 = some (ds, [], places) ∧
    ds = [.agg [.nil, .agg [.lit (.int .i64 0), .lit (.int .i64 0)], .nil, .lit (.int .i64 0), .agg [.lit (.int .i64 0), .lit (.int .i64 0), .lit (.int .i64 0), .agg [.lit (.int .i64 0), .lit (.int .i64 0)], .lit (.int .i64 0), .agg [.lit (.int .i64 0), .lit (.int .i64 0)]], .nil, .agg [.nil, .nil]]] :=
  ⟨_, [], by kernel_rfl, rfl⟩

set_option maxRecDepth 100000 in
theorem own_lifted (os : Os) (started : os.Started) (H : Type) (enc : TypeId × Value → H) (F : Stop.Interp) :
    ReturnsInHanded {} Tryz.checked os 5 .any ((Rows.OpenSpec.upto Rows.codePlansSpec).preRow enc Tryz.prog Tryz.f5 Rows.codePlansUptoRow.domain false Rows.codePlansUptoRow.laid) (((Rows.OpenSpec.upto Rows.codePlansSpec).at F).post enc Tryz.prog Tryz.f5 false true false false) := by
  obtain ⟨ds, places, hx, rfl⟩ := plan_reads os enc
  refine returnsInHanded_of_row (C := Tryz.checked) (s := Rows.OpenSpec.upto Rows.codePlansSpec) own_off_knob started (by kernel_rfl) Tryz.func5
    (witness_row_at (enc := enc) (C := Tryz.checked) false (laidWorld os) #[noPlan] rfl (by kernel_rfl) (by kernel_rfl) (by kernel_rfl)
      (OpenSpec.preRow_of_cond 8 hx (by kernel_rfl) (fun k hk => by cases hk; kernel_rfl) (by kernel_rfl) (laid_met os))) ?_
  intro W base args ds gs before hval hW _ _ _ hL _ _
  exact own_contract H enc W base args ds gs before hval hW hL

theorem own_said : Rows.CodePlansUptoSaid :=
  OpenClaim.holds_of_cond 5 Tryz.f5 rfl rfl rfl rfl rfl rfl rfl ⟨rfl, rfl, rfl, rfl, rfl⟩ rfl rfl rfl rfl rfl (by kernel_rfl) Tryz.func5 (by kernel_rfl)
    (of_decide_eq_true (by kernel_rfl)) (by unfold Func.isWrapper; first | (rw [if_pos (by decide +kernel)]; kernel_rfl) | (rw [if_neg (by decide +kernel)]; exact ⟨rfl, rfl⟩))
    (fun os started H enc _ F => by rw [OpenClaim.pre_eq_preRow]; exact own_lifted os started H enc F)

/-- No parameter wants a stand-in; the program's own looks are off. -/
theorem own_plain (f : FuncId) (fn : Func) (hf : Tryz.pinned.checked.prog.funcNamed "twain/twainlaw19.CodePlans" = some f) (hfn : Tryz.pinned.checked.prog.funcs[f]? = some fn) :
    true = Tryz.pinned.checked.prog.looks [] ∧ ∀ (j : Nat) t, fn.params[j]? = some t → Tryz.pinned.checked.prog.wantsStandIn t = false := by
  obtain rfl : f = 5 := Option.some.inj ((show Tryz.prog.funcNamed "twain/twainlaw19.CodePlans" = some 5 by kernel_rfl).symm.trans hf) |>.symm
  obtain rfl : fn = Tryz.f5 := (Option.some.inj (Tryz.func5.symm.trans hfn)).symm
  refine ⟨by kernel_rfl, fun j t ht => ?_⟩
  rw [Tryz.params5] at ht
  obtain rfl : t = 30 := by simpa using Array.mem_of_getElem? ht
  exact (show Tryz.prog.wantsStandIn 30 = false by kernel_rfl)

/-- THE CARD. -/
theorem codePlans_holds : Rows.CodePlansUptoCardSaid :=
  Claim7.holds_tied_plain_at .later [] _ _ _ _ own_said (fun _ h => by cases h) (by kernel_rfl) (fun _ h => by cases h) codePlansUpto_row_tie rfl ⟨rfl, rfl⟩ (by kernel_rfl) rfl own_plain (by kernel_rfl)
end Go.Proofs.YtjbhgimhcjcpmaaGreatDoor
