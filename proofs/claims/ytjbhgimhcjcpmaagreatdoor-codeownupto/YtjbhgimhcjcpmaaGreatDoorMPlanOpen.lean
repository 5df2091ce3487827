/-
  An argument of type api.Plan, opened: whatever reads as one is a plan in memory, as data.
-/
import Derived.Test.YtjbhgimhcjcpmaaGreatDoorMLawOwn
import Derived.OpenShut
import Derived.Deep.Slices
set_option linter.unusedSimpArgs false
set_option linter.unusedVariables false
namespace Go.Proofs.YtjbhgimhcjcpmaaGreatDoor
open Go.ChangeShapes Go.WideShapes Go.RowKit

theorem drop_take_one {cs : List Value} {i : Nat} {v : Value} (h : (cs.drop i).take 1 = [v]) : cs[i]? = some v := by
  have h1 : ((cs.drop i).take 1)[0]? = some v := by rw [h]; rfl
  simpa [List.getElem?_take] using h1

theorem flat_get {α : Type} (f : α → List Value) (k : Nat) (hf : ∀ a, (f a).length = k) (hk : 0 < k) : ∀ (l : List α) (q : Nat) (h : q / k < l.length), (l.flatMap f)[q]? = (f l[q / k])[q % k]?
  | [], q, h => by simp at h
  | y :: l, q, h => by
    rw [List.flatMap_cons]
    by_cases hq : q < k
    · rw [List.getElem?_append_left (by rw [hf]; exact hq), Nat.mod_eq_of_lt hq]
      simp [Nat.div_eq_of_lt hq]
    · have h1 : q / k = (q - k) / k + 1 := by rw [Nat.div_eq_sub_div hk (by omega)]
      have h2 : q % k = (q - k) % k := Nat.mod_eq_sub_mod (by omega)
      have h3 : (q - k) / k < l.length := by rw [h1] at h; simpa using h
      rw [List.getElem?_append_right (by rw [hf]; omega), hf, flat_get f k hf hk l (q - k) h3, h2]
      simp [h1]

/-- A slice, opened to a list of whatever its elements are. -/
theorem open_arr {α : Type} {H : Type} {enc : TypeId × Value → H} {P : Program} {w : World} {spare : Nat → Bool} {t e : TypeId} {k fuel : Nat} {cs : List Value} {x : DataW H × List MemPlace}
    (f : α → List Value) (R : α → Prop) (hf : ∀ a, (f a).length = k) (hk : 0 < k) (ht : P.underlying t = some (.slice e)) (ck : P.cellsOf e = k)
    (each : ∀ (n : Nat) (cs' : List Value) (d : DataW H × List MemPlace), DataW.trod enc P w 0 spare true n e cs' = some d → ∃ a, cs' = f a ∧ R a)
    (h : DataW.trod enc P w 0 spare true fuel t cs = some x) :
    ∃ (v : Value) (l : List α), cs = [v] ∧ (∀ a ∈ l, R a) ∧ Arr w.heap.size w k v l.length (l.flatMap f) := by
  subst ck
  rcases Go.Deep.open_slice ht h with ⟨rfl, _⟩ | ⟨a, len, cap, m, n, D, Pl, rfl, _, hl, hm, hmm, _, hx⟩
  · exact ⟨_, [], rfl, fun _ h => (by cases h), Arr.nil _ _ _⟩
  · have hlm : len ≤ m := by rw [hmm]; split <;> omega
    have key : ∀ j, j ≤ len → ∃ l : List α, l.length = j ∧ (∀ a ∈ l, R a) ∧ ∀ i (hi : i < l.length), w.cells? 0 (a.add (i * P.cellsOf e)) (P.cellsOf e) = some (f l[i]) := by
      intro j
      induction j with
      | zero => exact fun _ => ⟨[], rfl, fun _ h => (by cases h), fun i hi => (by simp at hi)⟩
      | succ j ih =>
        intro hj
        obtain ⟨l, h1, h2, h3⟩ := ih (by omega)
        obtain ⟨cs', h4, h5⟩ := hx j (by omega)
        obtain ⟨y, rfl, hy⟩ := each _ _ _ h5
        refine ⟨l ++ [y], by simp [h1], fun z hz => ?_, fun i hi => ?_⟩
        · rcases List.mem_append.1 hz with hz | hz
          · exact h2 z hz
          · obtain rfl := List.mem_singleton.1 hz; exact hy
        · by_cases hil : i < l.length
          · rw [List.getElem_append_left hil]; exact h3 i hil
          · have : i = j := by simp at hi; omega
            subst this
            rw [List.getElem_append_right (by omega)]
            simpa [h1] using h4
    obtain ⟨l, h1, h2, h3⟩ := key len (Nat.le_refl _)
    refine ⟨_, l, rfl, h2, some a, cap, by rw [h1], by omega, hm, fun h => (by cases h), ?_, ?_⟩
    · clear h2 h3 h1; induction l with
      | nil => simp
      | cons y l ih => simp [List.flatMap_cons, ih, hf, Nat.succ_mul, Nat.add_comm]
    · by_cases h0 : l.length = 0
      · exact .inl h0
      right
      obtain ⟨b, off, spot⟩ := a
      have hc0 := World.cells?_some (h3 0 (by omega))
      have hcell : ∀ i (hi : i < l.length) j (hj : j < P.cellsOf e), w.cell? ((Addr.add ⟨b, off, spot⟩ (i * P.cellsOf e)).add j) = (f l[i])[j]? := fun i hi j hj => (World.cells?_some (h3 i hi)).2.2 j hj
      have hspot : spot = none := by
        have h4 := hcell 0 (by omega) 0 hk
        rw [List.getElem?_eq_getElem (by rw [hf]; exact hk)] at h4
        simpa [Addr.add] using World.cell?_spot h4
      subst hspot
      refine ⟨b, off, rfl, ?_, fun q hq => ?_⟩
      · have h6 := World.cells?_block (h3 0 (by omega)) hk
        simpa [Addr.add] using h6
      · have hq1 : q / P.cellsOf e < l.length := Nat.div_lt_of_lt_mul (by rw [Nat.mul_comm]; exact hq)
        have h5 := hcell (q / P.cellsOf e) hq1 (q % P.cellsOf e) (Nat.mod_lt _ hk)
        rw [Go.Deep.add_add, Nat.mul_comm, Nat.div_add_mod, Go.WideShapes.add_plain] at h5
        rw [h5]
        exact (flat_get f (P.cellsOf e) hf hk l q hq1).symm

section
variable {H : Type} {enc : TypeId × Value → H} {w : World} {spare : Nat → Bool} {fuel : Nat} {cs : List Value} {x : DataW H × List MemPlace}
theorem c_int : Tryz.prog.cellsOf 3 = 1 := by kernel_rfl
theorem c_ints : Tryz.prog.cellsOf 24 = 1 := by kernel_rfl
theorem c_shapes : Tryz.prog.cellsOf 27 = 1 := by kernel_rfl
theorem c_two : Tryz.prog.cellsOf 23 = 2 := by kernel_rfl
theorem c_ins : Tryz.prog.cellsOf 28 = 2 := by kernel_rfl
theorem c_need : Tryz.prog.cellsOf 26 = 8 := by kernel_rfl
theorem c_op : Tryz.prog.cellsOf 44 = 6 := by kernel_rfl
theorem c_ops : Tryz.prog.cellsOf 22 = 1 := by kernel_rfl
theorem c_kind : Tryz.prog.cellsOf 42 = 1 := by kernel_rfl
theorem c_u64 : Tryz.prog.cellsOf 41 = 1 := by kernel_rfl
theorem c_plan : Tryz.prog.cellsOf 30 = 16 := by kernel_rfl

theorem flat_ints (l : List Int) : l.flatMap (fun n => [Value.int .i64 n]) = ints l := by
  induction l with
  | nil => rfl
  | cons a l ih => rw [List.flatMap_cons, ih]; rfl
theorem flat_fst {β : Type} (l : List (Value × β)) : l.flatMap (fun p => [p.1]) = l.map (·.1) := by
  induction l with
  | nil => rfl
  | cons a l ih => rw [List.flatMap_cons, ih]; rfl

theorem open_ilist (h : DataW.trod enc Tryz.prog w 0 spare true fuel 24 cs = some x) : ∃ v l, cs = [v] ∧ Arr w.heap.size w 1 v l.length (ints l) := by
  obtain ⟨v, l, rfl, _, h⟩ := open_arr (fun n : Int => [Value.int .i64 n]) (fun _ => True) (fun _ => rfl) (by decide) Tryz.underlying24 c_int
    (fun n cs' d hd => by obtain ⟨z, rfl, _⟩ := DataW.trod_int Tryz.underlying3 hd; exact ⟨z, rfl, trivial⟩) h
  exact ⟨v, l, rfl, by rwa [flat_ints] at h⟩
theorem nest_of {B : Nat} {w : World} : ∀ (l : List (Value × List Int)), (∀ a ∈ l, Arr B w 1 a.1 a.2.length (ints a.2)) → Nest B w (l.map (·.1)) ((l.map (·.2)).map ints)
  | [], _ => trivial
  | a :: l, h => ⟨by have := h a List.mem_cons_self; rwa [← ints_length a.2] at this, nest_of l fun b hb => h b (List.mem_cons_of_mem _ hb)⟩
theorem open_shapes (h : DataW.trod enc Tryz.prog w 0 spare true fuel 27 cs = some x) : ∃ v l, cs = [v] ∧ ShAt w.heap.size w v l := by
  obtain ⟨v, l, rfl, hR, h⟩ := open_arr (fun p : Value × List Int => [p.1]) (fun p => Arr w.heap.size w 1 p.1 p.2.length (ints p.2)) (fun _ => rfl) (by decide) Tryz.underlying27 c_ints
    (fun n cs' d hd => by obtain ⟨z, s, rfl, hs⟩ := open_ilist hd; exact ⟨(z, s), rfl, hs⟩) h
  refine ⟨v, l.map (·.2), rfl, l.map (·.1), by simp, ?_, nest_of l hR⟩
  rw [flat_fst] at h
  rwa [List.length_map]
theorem open_two (h : DataW.trod enc Tryz.prog w 0 spare true fuel 23 cs = some x) : ∃ a b, cs[0]? = some (.int .i64 a) ∧ cs[1]? = some (.int .i64 b) := by
  obtain ⟨xs, m, rfl, _, hl, hn, hx⟩ := DataW.trod_array Tryz.underlying23 h
  have each : ∀ i, i < 2 → ∃ a, cs[i]? = some (.int .i64 a) := fun i hi => by
    have h1 := hx i hi
    rw [List.getElem?_eq_getElem (by rw [hn]; exact hi), c_int] at h1
    obtain ⟨a, h2, _⟩ := DataW.trod_int Tryz.underlying3 h1
    exact ⟨a, by simpa using drop_take_one h2⟩
  obtain ⟨a, ha⟩ := each 0 (by decide)
  obtain ⟨b, hb⟩ := each 1 (by decide)
  exact ⟨a, b, ha, hb⟩
theorem open_ins (h : DataW.trod enc Tryz.prog w 0 spare true fuel 28 cs = some x) : ∃ v0 v1 l0 l1, cs[0]? = some v0 ∧ cs[1]? = some v1 ∧ ShAt w.heap.size w v0 l0 ∧ ShAt w.heap.size w v1 l1 := by
  obtain ⟨xs, m, rfl, _, hl, hn, hx⟩ := DataW.trod_array Tryz.underlying28 h
  have each : ∀ i, i < 2 → ∃ v l, cs[i]? = some v ∧ ShAt w.heap.size w v l := fun i hi => by
    have h1 := hx i hi
    rw [List.getElem?_eq_getElem (by rw [hn]; exact hi), c_shapes] at h1
    obtain ⟨v, l, h2, h3⟩ := open_shapes h1
    exact ⟨v, l, by simpa using drop_take_one h2, h3⟩
  obtain ⟨v0, l0, ha, h0⟩ := each 0 (by decide)
  obtain ⟨v1, l1, hb, h1⟩ := each 1 (by decide)
  exact ⟨v0, v1, l0, l1, ha, hb, h0, h1⟩
theorem drop_take_get {cs : List Value} {o n j : Nat} (hj : j < n) : ((cs.drop o).take n)[j]? = cs[o + j]? := by
  rw [List.getElem?_take_of_lt hj, List.getElem?_drop]
set_option maxRecDepth 100000 in
theorem open_op (h : DataW.trod enc Tryz.prog w 0 spare true fuel 44 cs = some x) : ∃ o : MOp, cs = o.cells ∧ o.c < 18446744073709551616 := by
  obtain ⟨xs, m, rfl, _, hl, hn, hx⟩ := DataW.trod_struct Tryz.underlying44 h
  have g0 : DataW.trod enc Tryz.prog w 0 spare true m 42 ((cs.drop 0).take 1) = xs[0]? := (congrArg (fun k => DataW.trod enc Tryz.prog w 0 spare true m 42 ((cs.drop 0).take k)) c_kind).symm.trans (hx 0 _ rfl)
  have g1 : DataW.trod enc Tryz.prog w 0 spare true m 3 ((cs.drop 1).take 1) = xs[1]? := (congrArg (fun k => DataW.trod enc Tryz.prog w 0 spare true m 3 ((cs.drop 1).take k)) c_int).symm.trans (hx 1 _ rfl)
  have g2 : DataW.trod enc Tryz.prog w 0 spare true m 3 ((cs.drop 2).take 1) = xs[2]? := (congrArg (fun k => DataW.trod enc Tryz.prog w 0 spare true m 3 ((cs.drop 2).take k)) c_int).symm.trans (hx 2 _ rfl)
  have g3 : DataW.trod enc Tryz.prog w 0 spare true m 3 ((cs.drop 3).take 1) = xs[3]? := (congrArg (fun k => DataW.trod enc Tryz.prog w 0 spare true m 3 ((cs.drop 3).take k)) c_int).symm.trans (hx 3 _ rfl)
  have g4 : DataW.trod enc Tryz.prog w 0 spare true m 41 ((cs.drop 4).take 1) = xs[4]? := (congrArg (fun k => DataW.trod enc Tryz.prog w 0 spare true m 41 ((cs.drop 4).take k)) c_u64).symm.trans (hx 4 _ rfl)
  have g5 : DataW.trod enc Tryz.prog w 0 spare true m 3 ((cs.drop 5).take 1) = xs[5]? := (congrArg (fun k => DataW.trod enc Tryz.prog w 0 spare true m 3 ((cs.drop 5).take k)) c_int).symm.trans (hx 5 _ rfl)
  rw [c_op] at hl
  have hn6 : xs.length = 6 := hn
  rw [List.getElem?_eq_getElem (by omega)] at g0 g1 g2 g3 g4 g5
  obtain ⟨n0, e0, _⟩ := DataW.trod_int Tryz.underlying42 g0
  obtain ⟨n1, e1, _⟩ := DataW.trod_int Tryz.underlying3 g1
  obtain ⟨n2, e2, _⟩ := DataW.trod_int Tryz.underlying3 g2
  obtain ⟨n3, e3, _⟩ := DataW.trod_int Tryz.underlying3 g3
  obtain ⟨n4, e4, _, hw4⟩ := DataW.trod_int Tryz.underlying41 g4
  obtain ⟨n5, e5, _⟩ := DataW.trod_int Tryz.underlying3 g5
  have b4 := bounds_u64 hw4
  refine ⟨⟨n0, n1, n2, n3, n4.toNat, n5⟩, ?_, by show n4.toNat < _; omega⟩
  have k0 := drop_take_one e0
  have k1 := drop_take_one e1
  have k2 := drop_take_one e2
  have k3 := drop_take_one e3
  have k4 := drop_take_one e4
  have k5 := drop_take_one e5
  clear hx g0 g1 g2 g3 g4 g5 e0 e1 e2 e3 e4 e5
  match cs, hl with
  | [a0, a1, a2, a3, a4, a5], _ =>
    simp at k0 k1 k2 k3 k4 k5
    subst k0 k1 k2 k3 k4 k5
    simp only [MOp.cells]
    rw [Int.toNat_of_nonneg b4.1]
theorem open_ops (h : DataW.trod enc Tryz.prog w 0 spare true fuel 22 cs = some x) : ∃ v l, cs = [v] ∧ (∀ o ∈ l, o.c < 18446744073709551616) ∧ Arr w.heap.size w 6 v l.length (ocells l) :=
  open_arr MOp.cells (fun o => o.c < 18446744073709551616) (fun _ => rfl) (by decide) Tryz.underlying22 c_op (fun n cs' d hd => open_op hd) h
set_option maxRecDepth 100000 in
theorem open_need (h : DataW.trod enc Tryz.prog w 0 spare true fuel 26 cs = some x) : ∃ q : MNeed, cs = [.int .i64 q.tri, .int .i64 q.bits, .int .i64 q.ots, .int .i64 q.t0, .int .i64 q.t1, .int .i64 q.rounds, .int .i64 q.w0, .int .i64 q.w1] := by
  obtain ⟨xs, m, rfl, _, hl, hn, hx⟩ := DataW.trod_struct Tryz.underlying26 h
  have g0 : DataW.trod enc Tryz.prog w 0 spare true m 3 ((cs.drop 0).take 1) = xs[0]? := (congrArg (fun k => DataW.trod enc Tryz.prog w 0 spare true m 3 ((cs.drop 0).take k)) c_int).symm.trans (hx 0 _ rfl)
  have g1 : DataW.trod enc Tryz.prog w 0 spare true m 3 ((cs.drop 1).take 1) = xs[1]? := (congrArg (fun k => DataW.trod enc Tryz.prog w 0 spare true m 3 ((cs.drop 1).take k)) c_int).symm.trans (hx 1 _ rfl)
  have g2 : DataW.trod enc Tryz.prog w 0 spare true m 3 ((cs.drop 2).take 1) = xs[2]? := (congrArg (fun k => DataW.trod enc Tryz.prog w 0 spare true m 3 ((cs.drop 2).take k)) c_int).symm.trans (hx 2 _ rfl)
  have g3 : DataW.trod enc Tryz.prog w 0 spare true m 23 ((cs.drop 3).take 2) = xs[3]? := (congrArg (fun k => DataW.trod enc Tryz.prog w 0 spare true m 23 ((cs.drop 3).take k)) c_two).symm.trans (hx 3 _ rfl)
  have g4 : DataW.trod enc Tryz.prog w 0 spare true m 3 ((cs.drop 5).take 1) = xs[4]? := (congrArg (fun k => DataW.trod enc Tryz.prog w 0 spare true m 3 ((cs.drop 5).take k)) c_int).symm.trans (hx 4 _ rfl)
  have g5 : DataW.trod enc Tryz.prog w 0 spare true m 23 ((cs.drop 6).take 2) = xs[5]? := (congrArg (fun k => DataW.trod enc Tryz.prog w 0 spare true m 23 ((cs.drop 6).take k)) c_two).symm.trans (hx 5 _ rfl)
  rw [c_need] at hl
  have hn6 : xs.length = 6 := hn
  rw [List.getElem?_eq_getElem (by omega)] at g0 g1 g2 g3 g4 g5
  obtain ⟨n0, e0, _⟩ := DataW.trod_int Tryz.underlying3 g0
  obtain ⟨n1, e1, _⟩ := DataW.trod_int Tryz.underlying3 g1
  obtain ⟨n2, e2, _⟩ := DataW.trod_int Tryz.underlying3 g2
  obtain ⟨a3, b3, e3, f3⟩ := open_two g3
  obtain ⟨n4, e4, _⟩ := DataW.trod_int Tryz.underlying3 g4
  obtain ⟨a5, b5, e5, f5⟩ := open_two g5
  have k0 := drop_take_one e0
  have k1 := drop_take_one e1
  have k2 := drop_take_one e2
  have k4 := drop_take_one e4
  rw [drop_take_get (by decide)] at e3 f3 e5 f5
  clear hx g0 g1 g2 g3 g4 g5 e0 e1 e2 e4
  refine ⟨⟨n0, n1, n2, a3, b3, n4, a5, b5⟩, ?_⟩
  match cs, hl with
  | [c0, c1, c2, c3, c4, c5, c6, c7], _ =>
    simp at k0 k1 k2 k4 e3 f3 e5 f5
    subst k0 k1 k2 k4 e3 f3 e5 f5
    rfl
end

set_option maxRecDepth 100000 in
/-- WHAT READS AS A PLAN IS ONE IN MEMORY. -/
theorem plan_open {H : Type} {enc : TypeId × Value → H} {w : World} {spare : Nat → Bool} {r : Reach} {base : Nat} {v : Value} {d : DataW H} {ps : List MemPlace}
    (hval : Value.okWide Tryz.prog w r base 30 v) (h : DataW.Trod enc Tryz.prog w 0 spare true 30 v d ps) : ∃ p u, v = .agg (planArr p u) ∧ PlanIn w.heap.size w p u := by
  obtain ⟨cs, rfl, hsz⟩ := okWide_struct Tryz.underlying30 hval
  obtain ⟨fuel, h⟩ := h
  obtain ⟨xs, m, rfl, _, hl, hn, hx⟩ := DataW.trod_struct Tryz.underlying30 h
  rw [c_plan] at hsz
  obtain ⟨cs⟩ := cs
  have hsz : cs.length = 16 := hsz
  have g0 : DataW.trod enc Tryz.prog w 0 spare true m 22 ((cs.drop 0).take 1) = xs[0]? := (congrArg (fun k => DataW.trod enc Tryz.prog w 0 spare true m 22 ((cs.drop 0).take k)) c_ops).symm.trans (hx 0 _ rfl)
  have g1 : DataW.trod enc Tryz.prog w 0 spare true m 23 ((cs.drop 1).take 2) = xs[1]? := (congrArg (fun k => DataW.trod enc Tryz.prog w 0 spare true m 23 ((cs.drop 1).take k)) c_two).symm.trans (hx 1 _ rfl)
  have g2 : DataW.trod enc Tryz.prog w 0 spare true m 24 ((cs.drop 3).take 1) = xs[2]? := (congrArg (fun k => DataW.trod enc Tryz.prog w 0 spare true m 24 ((cs.drop 3).take k)) c_ints).symm.trans (hx 2 _ rfl)
  have g3 : DataW.trod enc Tryz.prog w 0 spare true m 3 ((cs.drop 4).take 1) = xs[3]? := (congrArg (fun k => DataW.trod enc Tryz.prog w 0 spare true m 3 ((cs.drop 4).take k)) c_int).symm.trans (hx 3 _ rfl)
  have g4 : DataW.trod enc Tryz.prog w 0 spare true m 26 ((cs.drop 5).take 8) = xs[4]? := (congrArg (fun k => DataW.trod enc Tryz.prog w 0 spare true m 26 ((cs.drop 5).take k)) c_need).symm.trans (hx 4 _ rfl)
  have g5 : DataW.trod enc Tryz.prog w 0 spare true m 27 ((cs.drop 13).take 1) = xs[5]? := (congrArg (fun k => DataW.trod enc Tryz.prog w 0 spare true m 27 ((cs.drop 13).take k)) c_shapes).symm.trans (hx 5 _ rfl)
  have g6 : DataW.trod enc Tryz.prog w 0 spare true m 28 ((cs.drop 14).take 2) = xs[6]? := (congrArg (fun k => DataW.trod enc Tryz.prog w 0 spare true m 28 ((cs.drop 14).take k)) c_ins).symm.trans (hx 6 _ rfl)
  have hn7 : xs.length = 7 := hn
  rw [List.getElem?_eq_getElem (by omega)] at g0 g1 g2 g3 g4 g5 g6
  obtain ⟨v0, ops, e0, hc, hops⟩ := open_ops g0
  obtain ⟨a1, b1, e1, f1⟩ := open_two g1
  obtain ⟨v2, slots, e2, hslots⟩ := open_ilist g2
  obtain ⟨n3, e3, _⟩ := DataW.trod_int Tryz.underlying3 g3
  obtain ⟨q, e4⟩ := open_need g4
  obtain ⟨v5, sh, e5, hsh⟩ := open_shapes g5
  obtain ⟨v6, v7, l6, l7, e6, f6, h6, h7⟩ := open_ins g6
  have k0 := drop_take_one e0
  have k2 := drop_take_one e2
  have k3 := drop_take_one e3
  have k5 := drop_take_one e5
  rw [drop_take_get (by decide)] at e1 f1 e6 f6
  clear hx g0 g1 g2 g3 g4 g5 g6 e0 e2 e3 e5 hl h
  refine ⟨⟨ops, a1, b1, slots, n3, q, sh, l6, l7⟩, ⟨v0, v2, v5, v6, v7⟩, ?_, hops, hslots, hsh, h6, h7, hc⟩
  match cs, hsz with
  | [c0, c1, c2, c3, c4, c5, c6, c7, c8, c9, c10, c11, c12, c13, c14, c15], _ =>
    simp at k0 k2 k3 k5 e1 f1 e6 f6 e4
    obtain ⟨r5, r6, r7, r8, r9, r10, r11, r12⟩ := e4
    subst k0 k2 k3 k5 e1 f1 e6 f6 r5 r6 r7 r8 r9 r10 r11 r12
    rfl
end Go.Proofs.YtjbhgimhcjcpmaaGreatDoor
