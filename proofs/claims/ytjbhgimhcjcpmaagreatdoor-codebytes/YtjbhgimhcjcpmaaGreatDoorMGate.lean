/-
  THE CONTRACT of a maker's method gate, and the words for a maker in memory.
-/
import Derived.Test.YtjbhgimhcjcpmaaGreatDoorMFaultFacts
import Derived.Test.YtjbhgimhcjcpmaaGreatDoorMMem
import Derived.Deep.QuietTactic
import Derived.BigQuiet
import Derived.Deep.AppendLies
import Derived.Deep.RegionHeld3
import Derived.Deep.MidRow
import Derived.Laws.CopyOwn
set_option linter.unusedSimpArgs false
set_option linter.unusedVariables false
namespace Go.Proofs.YtjbhgimhcjcpmaaGreatDoor
open Go.RowKit

theorem ret_int {k : IntKind} {a b : Int} (h : a = b) : Ending.returned (.int k a) = .returned (.int k b) := by rw [h]

structure Gate where
  k : Int
  a : Int
  b : Int
def Gate.cells (g : Gate) : List Value := [.int .i64 g.k, .int .i64 g.a, .int .i64 g.b]
def gcells (gs : List Gate) : List Value := gs.flatMap Gate.cells
theorem gcells_append (a b : List Gate) : gcells (a ++ b) = gcells a ++ gcells b := by simp [gcells]

theorem info_gate : (Tryz.prog.info? 180).map (fun i => (i.zero, i.size, i.bytes)) = some (some (.agg #[.int .i64 0, .int .i64 0, .int .i64 0]), 3, 24) := by kernel_rfl

/-- In w the maker's struct lies in block bm: N inputs, the gates gs, no outs yet. -/
def MkAt (base bm : Nat) (w : World) (N : Nat) (gs : List Gate) : Prop :=
  bm < base ∧ base ≤ w.heap.size ∧ ∃ gv, w.heap[bm]? = some (.cells #[.int .i64 N, gv, .slice none 0 0] 169 (0, 0)) ∧ w.ownsRow base 180 3 gv gs.length (gcells gs)

/-- What a maker's methods leave as it was: all but the maker's struct and blocks of gates from 'base' on. -/
structure MkFr (base bm : Nat) (w w' : World) : Prop where
  os : w'.os = w.os
  tape : w'.tape = w.tape
  output : w'.output = w.output
  size : w.heap.size ≤ w'.heap.size
  block : ∀ k, k < w.heap.size → k ≠ bm → (k < base ∨ ∀ cur fr, w.heap[k]? ≠ some (.cells cur 180 fr)) → w'.heap[k]? = w.heap[k]?

theorem MkFr.refl (base bm : Nat) (w : World) : MkFr base bm w w := ⟨rfl, rfl, rfl, Nat.le_refl _, fun _ _ _ _ => rfl⟩
theorem MkFr.trans {base bm : Nat} {a b c : World} (h : MkFr base bm a b) (k : MkFr base bm b c) : MkFr base bm a c :=
  ⟨k.os.trans h.os, k.tape.trans h.tape, k.output.trans h.output, Nat.le_trans h.size k.size, fun i hi hb hc => by
    have e := h.block i hi hb hc
    rw [k.block i (Nat.lt_of_lt_of_le hi h.size) hb (by rcases hc with hc | hc; exact .inl hc; exact .inr (fun cur fr => by rw [e]; exact hc cur fr)), e]⟩
theorem MkFr.of_below {base bm : Nat} {w w' : World} (h : Below w.heap.size w w') : MkFr base bm w w' := ⟨h.os, h.tape, h.output, h.size, fun k hk _ _ => h.block k hk⟩
theorem MkFr.below {base bm : Nat} {w w' : World} (h : MkFr base bm w w') {B : Nat} (hB : B ≤ w.heap.size) (h1 : B ≤ bm) (h2 : B ≤ base) : Below B w w' :=
  ⟨h.os, h.tape, h.output, h.size, fun k hk => h.block k (by omega) (by omega) (.inl (by omega))⟩
theorem MkFr.drewN {base bm : Nat} {w w' : World} (h : MkFr base bm w w') (n : Nat) : MkFr base bm w (w'.drewN n) := ⟨h.os, h.tape, h.output, h.size, h.block⟩
theorem MkAt.drewN {base bm : Nat} {w : World} {N : Nat} {gs : List Gate} (h : MkAt base bm w N gs) (n : Nat) : MkAt base bm (w.drewN n) N gs := h

set_option maxHeartbeats 400000 in
set_option maxRecDepth 100000 in
theorem gate_any (base bm N : Nat) (gs : List Gate) (k a b : Int) (w : World) (h : MkAt base bm w N gs) (hN : N ≤ 1000) (hg : gs.length ≤ 100000) :
    Calls Tryz.prog 101 #[.pointer (some ⟨bm, 0, none⟩), .int .i64 k, .int .i64 a, .int .i64 b] w fun e w' =>
      e = .returned (.int .i64 (N + gs.length : Nat)) ∧ MkAt base bm w' N (gs ++ [⟨k, a, b⟩]) ∧ MkFr base bm w w' := by
  obtain ⟨hlt, hbase, gv, hh, hown⟩ := h
  have hc1 : w.cell? ⟨bm, 1, none⟩ = some gv := by simp [World.cell?, hh]
  go_enter Tryz.func101, Tryz.ntmps101
  go_wp2_with (at_builtin; refine app_k rfl _ _ 115 rfl 180 _ 3 24 Tryz.underlying115 info_gate rfl (by decide) #[_, _, _] _ _ _ _ hown rfl rfl rfl (by intro u hu; simp at hu; rcases hu with rfl | rfl | rfl <;> rfl) hbase (by omega) (by unfold maxLen; omega) ?_; intro v1 w1 hown1 hg1 _; go_must (obtain ⟨g1, c1, rfl, hb1, hl1⟩ := hown1.form (by omega); have hh1 := (hg1.block bm (by omega) (fun e => by have := hown.lt _ e.symm; omega)).trans hh; have hd1 : w1.cell? ⟨bm, 1, none⟩ = some gv := (by simp [World.cell?, hh1]); have hf1 : w1.frozen? ⟨bm, 1, none⟩ = false := (by simp [World.frozen?, hh1]); have HH := Lib.hid hh1; clear hh1))
  have HH2 := Lib.hid (heap_setCell (j := 1) HH.out (.slice (some ⟨g1, 0, none⟩) (gs.length + 1) c1))
  have hfr : MkFr base bm w (w1.setCell ⟨bm, 1, none⟩ (.slice (some ⟨g1, 0, none⟩) (gs.length + 1) c1)) := by
    refine ⟨hg1.os, hg1.tape, hg1.output, by simpa using hg1.size, fun k hk hb hc => ?_⟩
    rw [heap_setCell_other' hb]
    refine hg1.block k hk (fun e => ?_)
    rcases hc with hc | hc
    · have := hown.lt _ e.symm; omega
    · rcases hown.2 with ⟨rfl, _⟩ | ⟨g, cap, cur, rfl, _, hgg, _⟩
      · simp [Value.ownBlock] at e
      · simp [Value.ownBlock] at e; subst e; exact hc _ _ hgg
  have hown2 := ownsRow_setCell_other hown1 (a := ⟨bm, 1, none⟩) (by simp [Value.ownBlock]; omega) (.slice (some ⟨g1, 0, none⟩) (gs.length + 1) c1)
  have hsz2 := hfr.size
  generalize w1.setCell ⟨bm, 1, none⟩ (.slice (some ⟨g1, 0, none⟩) (gs.length + 1) c1) = w2 at HH2 hfr hown2 hsz2 ⊢
  have hh2 := HH2.out
  simp at hh2
  have e0 : w2.cell? ⟨bm, 0, none⟩ = some (.int .i64 N) := by simp [World.cell?, hh2]
  have e1 : w2.cell? ⟨bm, 1, none⟩ = some (.slice (some ⟨g1, 0, none⟩) (gs.length + 1) c1) := by simp [World.cell?, hh2]
  have HQ := Lib.hid hh2
  clear hh2 hd1 hf1 hc1 hh
  go_quiet (fail)
  go_wp2
  go_ret
  refine ⟨ret_int (by omega), MkAt.drewN ⟨hlt, by omega, _, HQ.out, ?_⟩ _, hfr.drewN _⟩
  rw [gcells_append, List.length_append]
  exact hown2
end Go.Proofs.YtjbhgimhcjcpmaaGreatDoor

/-
  THE CONTRACTS of a maker's methods carry, input, xor.
-/
namespace Go.Proofs.YtjbhgimhcjcpmaaGreatDoor
open Go.RowKit

def gt (N : Nat) (k a b : Int) (gs : List Gate) : Int × List Gate := (((N + gs.length : Nat) : Int), gs ++ [⟨k, a, b⟩])
theorem gt_len (N : Nat) (k a b : Int) (gs : List Gate) : (gt N k a b gs).2.length = gs.length + 1 := by simp [gt]
def mCarry (N : Nat) (a b c : Int) (gs : List Gate) : Int × List Gate :=
  let p := gt N 1 a c gs; let q := gt N 1 b c p.2; let r := gt N 2 p.1 q.1 q.2; gt N 1 c r.1 r.2
theorem mCarry_len (N : Nat) (a b c : Int) (gs : List Gate) : (mCarry N a b c gs).2.length = gs.length + 4 := by simp [mCarry, gt]

theorem gt_any (base bm N : Nat) (gs : List Gate) (k a b : Int) (w : World) (h : MkAt base bm w N gs) (hN : N ≤ 1000) (hg : gs.length ≤ 100000) :
    Calls Tryz.prog 101 #[.pointer (some ⟨bm, 0, none⟩), .int .i64 k, .int .i64 a, .int .i64 b] w fun e w' =>
      e = .returned (.int .i64 (gt N k a b gs).1) ∧ MkAt base bm w' N (gt N k a b gs).2 ∧ MkFr base bm w w' := gate_any base bm N gs k a b w h hN hg

set_option maxHeartbeats 400000 in
set_option maxRecDepth 100000 in
theorem carry_any (base bm N : Nat) (gs : List Gate) (a b c : Int) (w : World) (h : MkAt base bm w N gs) (hN : N ≤ 1000) (hg : gs.length ≤ 90000) :
    Calls Tryz.prog 123 #[.pointer (some ⟨bm, 0, none⟩), .int .i64 a, .int .i64 b, .int .i64 c] w fun e w' =>
      e = .returned (.int .i64 (mCarry N a b c gs).1) ∧ MkAt base bm w' N (mCarry N a b c gs).2 ∧ MkFr base bm w w' := by
  unfold mCarry
  go_enter Tryz.func123, Tryz.ntmps123
  go_wp2_with fail
  refine (gt_any base bm N _ _ _ _ _ h hN (by omega)).mono ?_
  rintro e w1 ⟨rfl, h1, f1⟩
  go_wp2_with fail
  refine (gt_any base bm N _ _ _ _ _ h1 hN (by simp only [gt_len]; omega)).mono ?_
  rintro e w2 ⟨rfl, h2, f2⟩
  go_wp2_with fail
  refine (gt_any base bm N _ _ _ _ _ h2 hN (by simp only [gt_len]; omega)).mono ?_
  rintro e w3 ⟨rfl, h3, f3⟩
  go_wp2_with fail
  refine (gt_any base bm N _ _ _ _ _ h3 hN (by simp only [gt_len]; omega)).mono ?_
  rintro e w4 ⟨rfl, h4, f4⟩
  go_wp2_with fail
  go_ret
  exact ⟨rfl, h4, ((f1.trans f2).trans f3).trans f4⟩

/-- A word's wires as a value. -/
def rowV (r : List Int) : Value := .agg (ints r).toArray
/-- Wires of which the first are made. -/
def pad (r : List Int) : List Int := r ++ List.replicate (64 - r.length) 0
theorem pad_len (r : List Int) (h : r.length ≤ 64) : (pad r).length = 64 := by simp [pad]; omega
theorem pad_full (r : List Int) (h : r.length = 64) : pad r = r := by simp [pad, h]
theorem pad_set (r : List Int) (x : Int) (h : r.length < 64) : (ints (pad r)).toArray.setIfInBounds r.length (.int .i64 x) = (ints (pad (r ++ [x]))).toArray := by
  obtain ⟨n, hn⟩ : ∃ n, 64 - r.length = n + 1 := ⟨64 - r.length - 1, by omega⟩
  have hn' : 64 - (r.length + 1) = n := by omega
  simp only [pad, List.length_append, List.length_singleton, hn, hn', List.replicate_succ, ints, List.map_append, List.map_cons, List.map_nil, List.setIfInBounds_toArray]
  congr 1
  have : r.length = (r.map (Value.int .i64)).length := by simp
  rw [this, List.set_append_right _ _ (Nat.le_refl _)]
  simp
theorem pad_cell {w : World} {b : Nat} {r : List Int} {t : TypeId} {fr : Nat × Nat} {k : Nat} (h : w.heap[b]? = some (.cells (ints (pad r)).toArray t fr)) (hk : r.length = k) (hr : k < 64) :
    w.cell? ⟨b, k, none⟩ = some (.int .i64 0) := by
  subst hk
  rw [cell_of_row _ _ _ _ _ _ h]
  simp only [ints, pad, List.map_append, List.map_replicate, List.getElem?_toArray]
  rw [List.getElem?_append_right (by simp), List.length_map, Nat.sub_self, List.getElem?_replicate, if_pos (by omega)]
theorem row_cell {w : World} {b : Nat} {r : List Int} {t : TypeId} {fr : Nat × Nat} {k : Nat} (h : w.heap[b]? = some (.cells (ints r).toArray t fr)) (hk : k < r.length) :
    w.cell? ⟨b, k, none⟩ = some (.int .i64 r[k]) := by
  rw [cell_of_row _ _ _ _ _ _ h]; simp [ints, hk]
theorem info_row : (Tryz.prog.info? 171).map (·.size) = some 64 := by kernel_rfl
theorem info_rowOf (r : List Int) (h : r.length = 64) : (Tryz.prog.info? 171).map (·.size) = some (ints r).toArray.size := by rw [info_row]; simp [ints, h]
theorem row_one (r : List Int) : (ints r).toArray.all (·.oneCell') = true := all_oneCell_toArray (ints_one r)
def mInput (i : Int) (n : Nat) : List Int := (List.range n).map fun (k : Nat) => 64 * i + (k : Int)
theorem mInput_len (i : Int) (n : Nat) : (mInput i n).length = n := by simp [mInput]
theorem mInput_succ (i : Int) (n : Nat) : mInput i (n + 1) = mInput i n ++ [64 * i + (n : Int)] := by simp [mInput, List.range_succ]

set_option maxHeartbeats 400000 in
set_option maxRecDepth 100000 in
theorem input_any (i : Int) (m : Value) (w : World) (h0 : 0 ≤ i) (h1 : i ≤ 10) :
    Calls Tryz.prog 98 #[m, .int .i64 i] w fun e w' => e = .returned (.agg (ints (mInput i 64)).toArray) ∧ Below w.heap.size w w' := by
  go_enter Tryz.func98, Tryz.ntmps98
  go_wp2_with fail
  go_loopw [7] (fun x wr => ∃ k : Nat, k ≤ 64 ∧ x = .int .i64 k ∧ wr.heap[w.heap.size + 1]? = some (.cells (ints (pad (mInput i k))).toArray 171 (0, 0)) ∧ wr.heap[w.heap.size]? = some (.cells (ints (pad [])).toArray 171 (0, 0)) ∧ Below w.heap.size w wr) (fun x _ => 64 - (intOf x).toNat)
  case atStart => exact ⟨0, by omega, rfl, heap_alloc2_new _ _ _, heap_alloc2_old _ _ _, ((Below.refl _ _).alloc (Nat.le_refl _) _).alloc (by simp) _⟩
  case round =>
    obtain ⟨k, hk, rfl, hR, hZ, hb⟩ := hrel
    have hsz := lt_of_block hR
    by_cases hkl : k < 64
    · have hc := pad_cell hR (mInput_len _ _) hkl
      have hf := frozen_of_row wr (w.heap.size + 1) k _ _ hR
      have HR := Lib.hid hR
      have HZ := Lib.hid hZ
      clear hR hZ
      go_wp2
      go_roundw
      case rel =>
        refine ⟨k + 1, by omega, by go_num, ?_, ?_, hb.setCell (by simp) _⟩
        · rw [heap_setCell HR.out, mInput_succ, ← pad_set _ _ (by simpa [mInput_len] using hkl), mInput_len]
        · rw [heap_setCell_other' (by simp)]; exact HZ.out
      case measure => simp [intOf]; omega
    · obtain rfl : k = 64 := by omega
      rw [pad_full _ (mInput_len _ _)] at hR
      go_wp2_with (first | (refine wpList_load_row rfl 171 _ rfl (w.heap.size + 1) rfl 171 _ _ _ hR Tryz.underlying171 rfl (info_rowOf _ (mInput_len _ _)) ?_) | (refine wpList_store_row rfl 171 _ _ rfl w.heap.size _ rfl rfl 171 _ hZ (info_rowOf _ (mInput_len _ _)) (by simp [ints_length, mInput_len, pad_len]) (row_one _) ?_))
      exact bodyPost_ret (results_cell_row rfl _ _ w.heap.size 171 _ _ _ rfl (setRow_heap _ _ _ _ _ _ hZ) Tryz.underlying171 rfl (info_rowOf _ (mInput_len _ _))) rfl ⟨rfl, below_setRow hb (Nat.le_refl _) _⟩
end Go.Proofs.YtjbhgimhcjcpmaaGreatDoor

/-
  THE CONTRACT of a maker's method xor.
-/
namespace Go.Proofs.YtjbhgimhcjcpmaaGreatDoor
open Go.RowKit

theorem MkFr.row {base bm : Nat} {w w' : World} (h : MkFr base bm w w') {b : Nat} {cs : Array Value} {fr : Nat × Nat} (hb : w.heap[b]? = some (.cells cs 171 fr)) (hne : b ≠ bm) :
    w'.heap[b]? = some (.cells cs 171 fr) := by
  rw [h.block b (lt_of_block hb) hne (.inr (fun cur fr' => by rw [hb]; simp)), hb]

theorem cell_set_other {w : World} {b j c k : Nat} (h : c ≠ b) (v : Value) : (w.setCell ⟨b, j, none⟩ v).cell? ⟨c, k, none⟩ = w.cell? ⟨c, k, none⟩ :=
  World.cell?_of_block (heap_setCell_other' h v)

/-- A maker's store into a row of its own. -/
theorem MkFr.setCell {base bm : Nat} {w w' : World} (h : MkFr base bm w w') {b : Nat} (hb : w.heap.size ≤ b) (k : Nat) (v : Value) : MkFr base bm w (w'.setCell ⟨b, k, none⟩ v) :=
  ⟨h.os, h.tape, h.output, by simpa using h.size, fun i hi h1 h2 => (heap_setCell_other' (by omega) v).trans (h.block i hi h1 h2)⟩
theorem MkAt.setCell {base bm : Nat} {w : World} {N : Nat} {gs : List Gate} (h : MkAt base bm w N gs) {b : Nat} {cs : Array Value} (hb : w.heap[b]? = some (.cells cs 171 (0, 0))) (k : Nat) (v : Value) :
    MkAt base bm (w.setCell ⟨b, k, none⟩ v) N gs := by
  obtain ⟨h1, h2, gv, hh, hown⟩ := h
  have hne : bm ≠ b := by intro e; subst e; rw [hb] at hh; simp at hh
  refine ⟨h1, by simpa using h2, gv, (heap_setCell_other' hne v).trans hh, ownsRow_setCell_other hown ?_ v⟩
  rcases hown.2 with ⟨rfl, _⟩ | ⟨g, cap, cur, rfl, _, hg, _⟩
  · simp [Value.ownBlock]
  · simp only [Value.ownBlock, ne_eq, Option.some.injEq]
    intro e; subst e; rw [hb] at hg; simp at hg
theorem MkFr.setRow {base bm : Nat} {w w' : World} (h : MkFr base bm w w') {b : Nat} (hb : w.heap.size ≤ b) (cs : Array Value) : MkFr base bm w (w'.setRow b cs) :=
  ⟨h.os, h.tape, h.output, by simpa using h.size, fun i hi h1 h2 => (setRow_other w' b i cs (by omega)).trans (h.block i hi h1 h2)⟩
theorem MkAt.setRow {base bm : Nat} {w : World} {N : Nat} {gs : List Gate} (h : MkAt base bm w N gs) {b : Nat} {cs : Array Value} (hb : w.heap[b]? = some (.cells cs 171 (0, 0))) (cs' : Array Value) :
    MkAt base bm (w.setRow b cs') N gs := by
  obtain ⟨h1, h2, gv, hh, hown⟩ := h
  have hne : bm ≠ b := by intro e; subst e; rw [hb] at hh; simp at hh
  refine ⟨h1, by simpa using h2, gv, (setRow_other w b bm cs' hne).trans hh, ?_⟩
  rcases hown.2 with h0 | ⟨g, cap, cur, hv, hbg, hg, hr⟩
  · exact ⟨hown.1, .inl h0⟩
  · refine ⟨hown.1, .inr ⟨g, cap, cur, hv, hbg, (setRow_other w b g cs' ?_).trans hg, hr⟩⟩
    intro e; subst e; rw [hb] at hg; simp at hg
theorem MkAt.below {base bm : Nat} {w w' : World} {N : Nat} {gs : List Gate} (h : MkAt base bm w N gs) (hb : Below w.heap.size w w') : MkAt base bm w' N gs := by
  obtain ⟨h1, h2, gv, hh, hown⟩ := h
  exact ⟨h1, Nat.le_trans h2 hb.size, gv, (hb.block bm (by omega)).trans hh, Below.owns hown hb⟩
theorem MkAt.ne {base bm : Nat} {w : World} {N : Nat} {gs : List Gate} (h : MkAt base bm w N gs) : bm < w.heap.size := by have := h.1; have := h.2.1; omega

theorem MkFr.drew {base bm : Nat} {w w' : World} (h : MkFr base bm w w') : MkFr base bm w w'.drew := ⟨h.os, h.tape, h.output, h.size, h.block⟩

theorem four (w : World) (o1 o2 o3 o4 : Obj) : ((((w.alloc o1).alloc o2).alloc o3).alloc o4).heap[w.heap.size]? = some o1 ∧ ((((w.alloc o1).alloc o2).alloc o3).alloc o4).heap[w.heap.size + 1]? = some o2 ∧
    ((((w.alloc o1).alloc o2).alloc o3).alloc o4).heap[w.heap.size + 1 + 1]? = some o3 ∧ ((((w.alloc o1).alloc o2).alloc o3).alloc o4).heap[w.heap.size + 1 + 1 + 1]? = some o4 ∧ Below w.heap.size w ((((w.alloc o1).alloc o2).alloc o3).alloc o4) := by
  have s1 : (w.alloc o1).heap.size = w.heap.size + 1 := World.size_alloc _ _
  have s2 : ((w.alloc o1).alloc o2).heap.size = w.heap.size + 1 + 1 := by rw [World.size_alloc, s1]
  have s3 : (((w.alloc o1).alloc o2).alloc o3).heap.size = w.heap.size + 1 + 1 + 1 := by rw [World.size_alloc, s2]
  have e1 := heap_alloc_new w o1
  have e2 := heap_alloc_new (w.alloc o1) o2
  have e3 := heap_alloc_new ((w.alloc o1).alloc o2) o3
  have e4 := heap_alloc_new (((w.alloc o1).alloc o2).alloc o3) o4
  rw [s1] at e2; rw [s2] at e3; rw [s3] at e4
  refine ⟨?_, ?_, ?_, e4, ((((Below.refl _ _).alloc (Nat.le_refl _) _).alloc (by omega) _).alloc (by omega) _).alloc (by omega) _⟩
  · rw [heap_alloc_old _ _ (by omega), heap_alloc_old _ _ (by omega), heap_alloc_old _ _ (by omega)]; exact e1
  · rw [heap_alloc_old _ _ (by omega), heap_alloc_old _ _ (by omega)]; exact e2
  · rw [heap_alloc_old _ _ (by omega)]; exact e3

theorem store_pad {w : World} {b : Nat} {r : List Int} {t : TypeId} {fr : Nat × Nat} (h : w.heap[b]? = some (.cells (ints (pad r)).toArray t fr)) (k : Nat) (hk : r.length = k) (hlt : k < 64) (x : Int) :
    (w.setCell ⟨b, k, none⟩ (.int .i64 x)).heap[b]? = some (.cells (ints (pad (r ++ [x]))).toArray t fr) := by
  subst hk; rw [heap_setCell h, pad_set _ _ hlt]

def xorTo (N : Nat) (a b : List Int) (gs : List Gate) : Nat → List Int × List Gate
  | 0 => ([], gs)
  | k + 1 => let s := xorTo N a b gs k; let p := gt N 1 (a.getD k 0) (b.getD k 0) s.2; (s.1 ++ [p.1], p.2)
theorem xorTo_len (N : Nat) (a b : List Int) (gs : List Gate) (k : Nat) : (xorTo N a b gs k).1.length = k ∧ (xorTo N a b gs k).2.length = gs.length + k := by
  induction k with
  | zero => simp [xorTo]
  | succ k ih => simp [xorTo, gt, ih]; omega

set_option maxHeartbeats 1000000 in
set_option maxRecDepth 100000 in
theorem xor_any (base bm N : Nat) (gs : List Gate) (a b : List Int) (w : World) (ha : a.length = 64) (hb : b.length = 64) (h : MkAt base bm w N gs) (hN : N ≤ 1000) (hg : gs.length ≤ 90000) :
    Calls Tryz.prog 99 #[.pointer (some ⟨bm, 0, none⟩), .agg (ints a).toArray, .agg (ints b).toArray] w fun e w' =>
      e = .returned (.agg (ints (xorTo N a b gs 64).1).toArray) ∧ MkAt base bm w' N (xorTo N a b gs 64).2 ∧ MkFr base bm w w' := by
  go_enter Tryz.func99, Tryz.ntmps99
  go_wp2_with fail
  go_loopw [9] (fun x wr => ∃ k : Nat, k ≤ 64 ∧ x = .int .i64 k ∧ MkAt base bm wr N (xorTo N a b gs k).2 ∧ wr.heap[w.heap.size]? = some (.cells (ints a).toArray 171 (0, 0)) ∧ wr.heap[w.heap.size + 1]? = some (.cells (ints b).toArray 171 (0, 0)) ∧
      wr.heap[w.heap.size + 1 + 1]? = some (.cells (ints (pad [])).toArray 171 (0, 0)) ∧ wr.heap[w.heap.size + 1 + 1 + 1]? = some (.cells (ints (pad (xorTo N a b gs k).1)).toArray 171 (0, 0)) ∧ MkFr base bm w wr) (fun x _ => 64 - (intOf x).toNat)
  case atStart =>
    have H := four w (.cells (ints a).toArray 171) (.cells (ints b).toArray 171) (.cells (ints (pad [])).toArray 171) (.cells (ints (pad [])).toArray 171)
    exact ⟨0, by omega, rfl, h.below H.2.2.2.2, H.1, H.2.1, H.2.2.1, H.2.2.2.1, MkFr.of_below H.2.2.2.2⟩
  case round =>
    obtain ⟨k, hk, rfl, hm, hA, hB, hZ, hR, hfr⟩ := hrel
    have hl := xorTo_len N a b gs k
    have HL := Lib.hid hl
    clear hl
    have hsz := lt_of_block hR
    have hbm : bm < w.heap.size := h.ne
    by_cases hkl : k < 64
    · have c1 := row_cell hA (k := k) (by omega)
      have c2 := row_cell hB (k := k) (by omega)
      have c3 := pad_cell hR HL.out.1 hkl
      have f3 := frozen_of_row wr (w.heap.size + 1 + 1 + 1) k _ _ hR
      have gA := Lib.hid hA
      have gB := Lib.hid hB
      have gZ := Lib.hid hZ
      have gR := Lib.hid hR
      have hgl : (xorTo N a b gs k).2.length ≤ 100000 := by have := HL.out.2; omega
      have hmd : MkAt base bm wr.drew N (xorTo N a b gs k).2 := hm
      clear hA hB hZ hR
      go_wp2_with fail
      go_region_held3 (fun W => W.cell? ⟨w.heap.size, k, none⟩ = some (.int .i64 a[k]) ∧ W.cell? ⟨w.heap.size + 1, k, none⟩ = some (.int .i64 b[k])) (first | exact ⟨c1, c2⟩ | exact ⟨e1, e2⟩ | exact ⟨(cell_set_other (by omega) _).trans e1, (cell_set_other (by omega) _).trans e2⟩)
        (first | (go_at_call 101; refine (gt_any base bm N _ _ _ _ _ hmd hN hgl).mono ?_; rintro e w1 ⟨rfl, h1, q1⟩; have d3 := pad_cell (q1.row gR.out (by omega)) HL.out.1 hkl; have e1 := row_cell (q1.row gA.out (by omega)) (k := k) (by omega); have e2 := row_cell (q1.row gB.out (by omega)) (k := k) (by omega); have d4 := frozen_of_row w1 (w.heap.size + 1 + 1 + 1) k _ _ (q1.row gR.out (by omega))))
      go_wp2_with fail
      go_roundw
      case rel =>
        have hx : xorTo N a b gs (k + 1) = ((xorTo N a b gs k).1 ++ [(gt N 1 a[k] b[k] (xorTo N a b gs k).2).1], (gt N 1 a[k] b[k] (xorTo N a b gs k).2).2) := by
          simp [xorTo, List.getD, ha, hb, hkl]
        have r3 := q1.row gR.out (by omega)
        refine ⟨k + 1, by omega, by go_num, ?_, ?_, ?_, ?_, ?_, (hfr.drew.trans q1).setCell (by omega) _ _⟩
        · rw [hx]; exact h1.setCell r3 _ _
        · rw [heap_setCell_other' (by omega)]; exact q1.row gA.out (by omega)
        · rw [heap_setCell_other' (by omega)]; exact q1.row gB.out (by omega)
        · rw [heap_setCell_other' (by omega)]; exact q1.row gZ.out (by omega)
        · rw [hx, heap_setCell r3, ← pad_set _ _ (by rw [HL.out.1]; exact hkl), HL.out.1]
      case measure => simp [intOf]; omega
    · obtain rfl : k = 64 := by omega
      have hl64 := (xorTo_len N a b gs 64).1
      rw [pad_full _ hl64] at hR
      go_wp2_with (first | (refine wpList_load_row rfl 171 _ rfl (w.heap.size + 1 + 1 + 1) rfl 171 _ _ _ hR Tryz.underlying171 rfl (info_rowOf _ hl64) ?_) | (refine wpList_store_row rfl 171 _ _ rfl (w.heap.size + 1 + 1) _ rfl rfl 171 _ hZ (info_rowOf _ hl64) (by simp [ints_length, hl64, pad_len]) (row_one _) ?_))
      exact bodyPost_ret (results_cell_row rfl _ _ (w.heap.size + 1 + 1) 171 _ _ _ rfl (setRow_heap _ _ _ _ _ _ hZ) Tryz.underlying171 rfl (info_rowOf _ hl64)) rfl ⟨rfl, hm.setRow hZ _, hfr.setRow (by omega) _⟩
end Go.Proofs.YtjbhgimhcjcpmaaGreatDoor
