/-
  THE CONTRACT of code.Encode, of what is a plan.
-/
import Derived.Test.YtjbhgimhcjcpmaaGreatDoorMPlanCheck
import Derived.Test.YtjbhgimhcjcpmaaGreatDoorMCut
import Derived.Deep.RegionHeld3
set_option linter.unusedSimpArgs false
set_option linter.unusedVariables false
namespace Go.Proofs.YtjbhgimhcjcpmaaGreatDoor
open Go.RowKit

theorem CSt.six {w : World} {p : MPlan} {v : PVals} {W : World} (h : CSt w p v W) :
    W.cell? ⟨w.heap.size, 0, none⟩ = some v.ops ∧ W.cell? ⟨w.heap.size, 1, none⟩ = some (.int .i64 p.e0) ∧ W.cell? ⟨w.heap.size, 2, none⟩ = some (.int .i64 p.e1) ∧ W.cell? ⟨w.heap.size, 13, none⟩ = some v.shapes ∧ W.cell? ⟨w.heap.size, 14, none⟩ = some v.in0 ∧ W.cell? ⟨w.heap.size, 15, none⟩ = some v.in1 := by
  obtain ⟨⟨c0, c1, c2, c3, c4⟩, _, c13, c14, c15⟩ := h.cells
  exact ⟨c0, c1, c2, c13, c14, c15⟩
/-- The plan's block, and what has been written so far. -/
structure ESt (w : World) (p : MPlan) (v : PVals) (vs : List Value) (bss : List (List Nat)) (W : World) : Prop where
  st : CSt w p v W
  got : Nest W.heap.size W vs (bss.map bts)
theorem ESt.add {w : World} {p : MPlan} {v : PVals} {vs : List Value} {bss : List (List Nat)} {W w1 : World} (h : ESt w p v vs bss W) {u : Value} {bs : List Nat}
    (hown : w1.ownsRow W.heap.size 5 1 u bs.length (bts bs)) (hb : Below W.heap.size W w1) : ESt w p v (vs ++ [u]) (bss ++ [bs]) w1 := by
  refine ⟨h.st.later hb, ?_⟩
  rw [List.map_append]
  refine (h.got.later hb hb.size).append ?_
  have := Arr.of_owns hown
  rw [← bts_length bs] at this
  exact ⟨this, trivial⟩
theorem ESt.drew {w : World} {p : MPlan} {v : PVals} {vs : List Value} {bss : List (List Nat)} {W : World} (h : ESt w p v vs bss W) : ESt w p v vs bss W.drew := ⟨h.st.drew, h.got.later (Below.refl _ _).drew (Nat.le_refl _)⟩
theorem ESt.alloc {w : World} {p : MPlan} {v : PVals} {vs : List Value} {bss : List (List Nat)} {W : World} (h : ESt w p v vs bss W) (o : Obj) : ESt w p v vs bss (W.alloc o) :=
  ⟨h.st.later ((Below.refl _ _).alloc (Nat.le_refl _) o), h.got.later ((Below.refl _ _).alloc (Nat.le_refl _) o) (by rw [World.size_alloc]; omega)⟩

theorem shapes_st (v : Value) (l : List (List Int)) (w : World) (h : ShAt w.heap.size w v l) (hlen : (shBytes l).length ≤ 3000000) {n : Int} (hl1 : (l.length : Int) ≤ n) (hn : n ≤ 4294967295) (hl2 : ∀ s ∈ l, s.length ≤ 2 ∧ ∀ d ∈ s, 1 ≤ d ∧ d ≤ 16) :
    Calls Tryz.prog 23 #[v] w fun e w' => ∃ r, e = .returned r ∧ w'.ownsRow w.heap.size 5 1 r (shBytes l).length (bts (shBytes l)) ∧ Below w.heap.size w w' := by
  obtain ⟨vs, h0, h1, h2⟩ := h
  exact codeShapes_any v vs l w h1 h2 (by omega) (by omega) fun s hs => ⟨by have := (hl2 s hs).1; omega, fun d hd => by have := (hl2 s hs).2 d hd; omega⟩
theorem own_form {w : World} {base : Nat} {e : TypeId} {k : Nat} {v : Value} {n : Nat} {xs : List Value} (h : w.ownsRow base e k v n xs) : ∃ a m c, v = .slice a m c := by
  obtain ⟨ao, c, hv, _⟩ := own_open h
  exact ⟨ao, n, c, hv⟩
theorem lit7 (w : World) (t : TypeId) (a b c d e f g : Value) : Arr (w.alloc (.cells #[a, b, c, d, e, f, g] t)).heap.size (w.alloc (.cells #[a, b, c, d, e, f, g] t)) 1 (.slice (some ⟨w.heap.size, 0, none⟩) 7 7) 7 [a, b, c, d, e, f, g] := by
  have h1 := World.ownsRow_lit w #[a, b, c, d, e, f, g] (e := t) (size := 1) 7 (Nat.le_refl _) (by unfold maxLen; omega) rfl
  exact Arr.of_owns h1

theorem lit6 (w : World) (t : TypeId) (a b c d e f : Value) : Arr (w.alloc (.cells #[a, b, c, d, e, f] t)).heap.size (w.alloc (.cells #[a, b, c, d, e, f] t)) 1 (.slice (some ⟨w.heap.size, 0, none⟩) 6 6) 6 [a, b, c, d, e, f] := by
  have h1 := World.ownsRow_lit w #[a, b, c, d, e, f] (e := t) (size := 1) 6 (Nat.le_refl _) (by unfold maxLen; omega) rfl
  exact Arr.of_owns h1
/-- Besides, an operation's block. -/
structure OSt (w : World) (p : MPlan) (v : PVals) (Bo : Nat) (o : MOp) (vs : List Value) (bss : List (List Nat)) (W : World) : Prop where
  es : ESt w p v vs bss W
  op : W.heap[Bo]? = some (.cells o.arr 44 (0, 0))
theorem OSt.add {w : World} {p : MPlan} {v : PVals} {Bo : Nat} {o : MOp} {vs : List Value} {bss : List (List Nat)} {W w1 : World} (h : OSt w p v Bo o vs bss W) {u : Value} {bs : List Nat}
    (hown : w1.ownsRow W.heap.size 5 1 u bs.length (bts bs)) (hb : Below W.heap.size W w1) : OSt w p v Bo o (vs ++ [u]) (bss ++ [bs]) w1 := ⟨h.es.add hown hb, (hb.block _ (lt_of_block' h.op)).trans h.op⟩
theorem OSt.later {w : World} {p : MPlan} {v : PVals} {Bo : Nat} {o : MOp} {vs : List Value} {bss : List (List Nat)} {W w1 : World} (h : OSt w p v Bo o vs bss W) (hb : Below W.heap.size W w1) : OSt w p v Bo o vs bss w1 := ⟨⟨h.es.st.later hb, h.es.got.later hb hb.size⟩, (hb.block _ (lt_of_block' h.op)).trans h.op⟩
theorem OSt.alloc {w : World} {p : MPlan} {v : PVals} {Bo : Nat} {o : MOp} {vs : List Value} {bss : List (List Nat)} {W : World} (h : OSt w p v Bo o vs bss W) (x : Obj) : OSt w p v Bo o vs bss (W.alloc x) := h.later ((Below.refl _ _).alloc (Nat.le_refl _) x)
theorem OSt.five {w : World} {p : MPlan} {v : PVals} {Bo : Nat} {o : MOp} {vs : List Value} {bss : List (List Nat)} {W : World} (h : OSt w p v Bo o vs bss W) :
    W.cell? ⟨Bo, 0, none⟩ = some (.int .i64 o.kind) ∧ W.cell? ⟨Bo, 1, none⟩ = some (.int .i64 o.a) ∧ W.cell? ⟨Bo, 2, none⟩ = some (.int .i64 o.b) ∧ W.cell? ⟨Bo, 3, none⟩ = some (.int .i64 o.k) ∧ W.cell? ⟨Bo, 5, none⟩ = some (.int .i64 o.party) := by
  have := h.op
  refine ⟨?_, ?_, ?_, ?_, ?_⟩ <;> simp [World.cell?, this, MOp.arr]
theorem OSt.start {w : World} {p : MPlan} {v : PVals} {wr : World} {x : Value} {pre : List Nat} (h : CSt w p v wr) (hown : wr.ownsRow w.heap.size 5 1 x pre.length (bts pre)) (o : MOp) :
    OSt w p v wr.heap.size o [x] [pre] (wr.alloc (.cells o.arr 44)).drew := by
  have hb := ((Below.refl wr.heap.size wr).alloc (Nat.le_refl _) (.cells o.arr 44)).drew
  have ha := (Arr.of_owns hown).later hb hb.size
  rw [← bts_length pre] at ha
  exact ⟨⟨h.later hb, ⟨ha, trivial⟩⟩, heap_alloc_new _ _⟩

set_option maxHeartbeats 4000000 in
set_option maxRecDepth 100000 in
theorem encode_yes (p : MPlan) (v : PVals) (w : World) (h : PlanAt w.heap.size w p v) (hE : ErrT w) (hg : mGood p = true) :
    Calls Tryz.prog 8 #[.agg (planArr p v)] w fun e w' => ∃ u, e = .returned (.tuple #[u, .nilIface]) ∧ w'.ownsRow w.heap.size 5 1 u (planBytes p).length (bts (planBytes p)) ∧ Below w.heap.size w w' := by
  have hg0 := hg
  simp only [mGood, Bool.and_eq_true, decide_eq_true_eq, beq_iff_eq] at hg0
  obtain ⟨⟨⟨⟨⟨⟨⟨⟨⟨g0, g1⟩, g2⟩, g3⟩, g4⟩, g5⟩, g6⟩, g7⟩, g8⟩, g9⟩ := hg0
  have HSM := Lib.hid (check_small g3)
  have hck := g3
  simp only [mCheck, Bool.and_eq_true, decide_eq_true_eq] at hck
  obtain ⟨⟨⟨⟨⟨b0, b1⟩, b2⟩, b3⟩, hl⟩, _⟩ := hck
  have hmo := mOuts_le p.ops
  have L0 := Lib.hid (shBytes_len p.in0 _ g1 b0 b1)
  have L1 := Lib.hid (shBytes_len p.in1 _ g2 b2 b3)
  have L2 := Lib.hid (shBytes_len p.shapes _ g9 (by omega) (by omega))
  have S0 := Lib.hid (mTotal_shapes p.in0 _ g1 b0)
  have S1 := Lib.hid (mTotal_shapes p.in1 _ g2 b2)
  have S2 := Lib.hid (mTotal_shapes p.shapes _ g9 (by omega))
  clear g0 g1 g2 g3 g4 g5 g6 g7 g8 g9
  obtain ⟨vo, vsl, vsh, v0, v1⟩ := v
  obtain ⟨ao, cc, hvo, hcc, hm, hx, hy⟩ := h.ops.open
  simp only at hvo
  subst hvo
  have HY := Lib.hid hy
  have HP := Lib.hid h
  have HE := Lib.hid hE
  have HG := Lib.hid hg
  have hS := (show CSt w p ⟨.slice ao p.ops.length cc, vsl, vsh, v0, v1⟩ (w.alloc (.cells (planArr p ⟨.slice ao p.ops.length cc, vsl, vsh, v0, v1⟩) 30)) from ⟨heap_alloc_new _ _, (Below.refl _ _).alloc (Nat.le_refl _) _⟩)
  obtain ⟨⟨c0, c1, c2, c3, c4⟩, ⟨c5, c6, c7, c8, c9, c10, c11, c12⟩, c13, c14, c15⟩ := hS.cells
  simp only at c0 c3 c13 c14 c15
  simp only [planArr] at hS c0 c1 c2 c3 c4 c5 c6 c7 c8 c9 c10 c11 c12 c13 c14 c15 ⊢
  have HS := Lib.hid hS
  clear h hE hS hx hm hcc hy hg
  go_enter Tryz.func8, Tryz.ntmps8
  go_upto_region 4 with (go_at_call 19; go_must (refine (planCheck_yes p ⟨.slice ao p.ops.length cc, vsl, vsh, v0, v1⟩ _ (HP.out.later HS.out.below HS.out.below.size) (HE.out.below HS.out.below) HG.out).mono ?_; unfold RetB; rintro e w1 ⟨rfl, hb1⟩; have hs1 := HS.out.later hb1; clear hb1 c0 c1 c2 c3 c4 c5 c6 c7 c8 c9 c10 c11 c12 c13 c14 c15; have HS1 := Lib.hid hs1; clear hs1))
  have HD0 := Lib.hid (show ESt w p ⟨.slice ao p.ops.length cc, vsl, vsh, v0, v1⟩ [] [] w1.drew from ⟨HS1.out.drew, trivial⟩)
  have c0 := HD0.out.st.six
  simp only at c0
  have HLN := Lib.hid (show flat ([] ++ [[84, 87, 78, 1]] ++ [num7 p.e0.toNat] ++ [num7 p.e1.toNat] ++ [shBytes p.in0] ++ [shBytes p.in1] ++ [shBytes p.shapes] ++ [num7 (p.ops.length : Int).toNat]) = headBytes p by simp [headBytes])
  have HLL := Lib.hid (show (headBytes p).length ≤ 20000000 by
    have a1 := (num7_len p.e0.toNat).2
    have a2 := (num7_len p.e1.toNat).2
    have a3 := (num7_len p.ops.length).2
    have a4 := L0.out
    have a5 := L1.out
    have a6 := L2.out
    simp only [headBytes, flat, List.length_append, List.length_cons, List.length_nil, List.flatten_cons, List.flatten_nil]
    omega)
  have HBD : ∀ (o : MOp) (k : Nat) (pre : List Nat), pre = headBytes p ++ (p.ops.take k).flatMap opBytes → (p.ops.take (k + 1)).flatMap opBytes = (p.ops.take k).flatMap opBytes ++ opBytes o → (pre ++ opNums o).length + 8 ≤ 10000000000 := by
    intro o k pre h1 h2
    have hh := HLL.out
    have h3 := flatMap_len_le opBytes 400000 (p.ops.take (k + 1)) fun x hx => opBytes_len x (HSM.out x (List.mem_of_mem_take hx))
    rw [h2, List.length_append] at h3
    rw [List.length_take] at h3
    have h4 : (opBytes o).length = (opNums o).length + 8 := by simp [opBytes, le8]
    rw [h1]
    simp only [List.length_append]
    have h5 : min (k + 1) p.ops.length * 400000 ≤ 16384 * 400000 := Nat.mul_le_mul_right _ (by omega)
    omega
  go_region_held3 (fun W => W.cell? ⟨w.heap.size, 0, none⟩ = some (.slice ao p.ops.length cc) ∧ W.cell? ⟨w.heap.size, 1, none⟩ = some (.int .i64 p.e0) ∧ W.cell? ⟨w.heap.size, 2, none⟩ = some (.int .i64 p.e1) ∧ W.cell? ⟨w.heap.size, 13, none⟩ = some vsh ∧ W.cell? ⟨w.heap.size, 14, none⟩ = some v0 ∧ W.cell? ⟨w.heap.size, 15, none⟩ = some v1) (first | with_reducible exact c0 | with_reducible exact c1 | with_reducible exact c2 | with_reducible exact c3 | with_reducible exact c4 | with_reducible exact c5 | with_reducible exact c6 | with_reducible exact c7 | with_reducible exact c8 | exact (HD7.out.st.later ((Below.refl _ _).alloc (Nat.le_refl _) _)).six) (first | (go_at_call 21; refine (head_any _).mono ?_; rintro e w2 ⟨u1, rfl, hown, hb⟩; obtain ⟨x1, y1, z1, rfl⟩ := own_form hown; have hd := HD0.out.add hown hb; have HD1 := Lib.hid hd; have c1 := hd.st.six; simp only at c1; clear hown hb hd) | ((with_reducible show Calls _ _ #[.int .i64 p.e0] _ _); go_at_call 22; refine (codeNumber_any p.e0 _ b0 (by omega)).mono ?_; rintro e w3 ⟨u2, rfl, hown, hb⟩; obtain ⟨x2, y2, z2, rfl⟩ := own_form hown; have hd := HD1.out.add hown hb; have HD2 := Lib.hid hd; have c2 := hd.st.six; simp only at c2; clear hown hb hd) | ((with_reducible show Calls _ _ #[.int .i64 p.e1] _ _); go_at_call 22; refine (codeNumber_any p.e1 _ b2 (by omega)).mono ?_; rintro e w4 ⟨u3, rfl, hown, hb⟩; obtain ⟨x3, y3, z3, rfl⟩ := own_form hown; have hd := HD2.out.add hown hb; have HD3 := Lib.hid hd; have c3 := hd.st.six; simp only at c3; clear hown hb hd) | ((with_reducible show Calls _ _ #[v0] _ _); go_at_call 23; refine (shapes_st _ p.in0 _ (HP.out.in0.later HD3.out.st.below HD3.out.st.below.size) L0.out S0.out.1 (by omega) S0.out.2).mono ?_; rintro e w5 ⟨u4, rfl, hown, hb⟩; obtain ⟨x4, y4, z4, rfl⟩ := own_form hown; have hd := HD3.out.add hown hb; have HD4 := Lib.hid hd; have c4 := hd.st.six; simp only at c4; clear hown hb hd) | ((with_reducible show Calls _ _ #[v1] _ _); go_at_call 23; refine (shapes_st _ p.in1 _ (HP.out.in1.later HD4.out.st.below HD4.out.st.below.size) L1.out S1.out.1 (by omega) S1.out.2).mono ?_; rintro e w6 ⟨u5, rfl, hown, hb⟩; obtain ⟨x5, y5, z5, rfl⟩ := own_form hown; have hd := HD4.out.add hown hb; have HD5 := Lib.hid hd; have c5 := hd.st.six; simp only at c5; clear hown hb hd) | ((with_reducible show Calls _ _ #[vsh] _ _); go_at_call 23; refine (shapes_st _ p.shapes _ (HP.out.shapes.later HD5.out.st.below HD5.out.st.below.size) L2.out S2.out.1 (by omega) S2.out.2).mono ?_; rintro e w7 ⟨u6, rfl, hown, hb⟩; obtain ⟨x6, y6, z6, rfl⟩ := own_form hown; have hd := HD5.out.add hown hb; have HD6 := Lib.hid hd; have c6 := hd.st.six; simp only at c6; clear hown hb hd) | ((with_reducible show Calls _ _ #[.int .i64 (p.ops.length : Int)] _ _); go_at_call 22; refine (codeNumber_any (p.ops.length : Int) _ (by omega) (by omega)).mono ?_; rintro e w8 ⟨u7, rfl, hown, hb⟩; obtain ⟨x7, y7, z7, rfl⟩ := own_form hown; have hd := HD6.out.add hown hb; have HD7 := Lib.hid hd; have c7 := hd.st.six; simp only at c7; clear hown hb hd) | (go_at_call 20; refine (concat_any _ (_ :: [_, _, _, _, _, _]) _ _ (lit7 _ _ _ _ _ _ _ _ _) (HD7.out.alloc _).got (by rw [HLN.out]; exact Nat.le_trans HLL.out (by omega))).mono ?_; rintro e w9 ⟨u8, rfl, hown, hb⟩; rw [HLN.out] at hown; have hd := (HD7.out.alloc _).st.later hb; have HD8 := Lib.hid hd; have HO8 := Lib.hid hown; have c8 := hd.six; simp only at c8; clear hown hb hd))
  have HO := Lib.hid (owns_base (base' := w.heap.size) HO8.out (by have := HD7.out.st.below.size; rw [World.size_alloc]; omega))
  have HC := HD8
  clear HD0 HD1 HD2 HD3 HD4 HD5 HD6 HD7 HD8 HO8 HS HS1 c0 c1 c2 c3 c4 c5 c6 c7
  obtain ⟨x9, y9, z9, rfl⟩ := own_form HO.out
  obtain ⟨e0, e1, e2, e13, e14, e15⟩ := c8
  go_wp2_with fail
  clear e0 e1 e2 e13 e14 e15
  go_loopg [5, 43] p.ops.length (fun g x i wr => ∃ (k : Nat) (pre : List Nat), k ≤ p.ops.length ∧ g = p.ops.length - k ∧ i = .int .i64 k ∧ Hid (pre = headBytes p ++ (p.ops.take k).flatMap opBytes) ∧ Hid (wr.ownsRow w.heap.size 5 1 x pre.length (bts pre)) ∧ Hid (CSt w p ⟨.slice ao p.ops.length cc, vsl, vsh, v0, v1⟩ wr))
  case atStart => exact ⟨0, headBytes p, Nat.zero_le _, rfl, rfl, (by unfold Hid; simp), HO, HC⟩
  case round =>
    obtain ⟨k, pre, hk, hg, rfl, HPR, HOW, HB⟩ := hrel
    clear HO HC
    by_cases hkl : k < p.ops.length
    · obtain ⟨b, off, rfl, hbl, hcells⟩ := HY.out (by omega)
      obtain ⟨c0, c1, c2, c3, c4, c5⟩ := op_cells hcells HB.out.below hbl rfl k hkl
      have hos := HSM.out p.ops[k] (List.getElem_mem _)
      have HT := Lib.hid (flatMap_take opBytes p.ops k hkl)
      generalize p.ops[k] = o at c0 c1 c2 c3 c4 c5 HT hos
      clear hcells
      go_upto_region 8 with fail
      obtain ⟨x0, y0, z0, rfl⟩ := own_form HOW.out
      have HD0 := Lib.hid (OSt.start HB.out HOW.out o)
      have d0 := HD0.out.five
      simp only [MOp.arr] at d0
      have HLN := Lib.hid (show flat ([pre] ++ [num7 o.kind.toNat] ++ [num7 o.a.toNat] ++ [num7 o.b.toNat] ++ [num7 o.k.toNat] ++ [num7 o.party.toNat]) = pre ++ opNums o by simp [opNums, flat])
      have HLL := Lib.hid (HBD o k pre HPR.out HT.out)
      go_region_held3 (fun W => W.cell? ⟨wr.heap.size, 0, none⟩ = some (.int .i64 o.kind) ∧ W.cell? ⟨wr.heap.size, 1, none⟩ = some (.int .i64 o.a) ∧ W.cell? ⟨wr.heap.size, 2, none⟩ = some (.int .i64 o.b) ∧ W.cell? ⟨wr.heap.size, 3, none⟩ = some (.int .i64 o.k) ∧ W.cell? ⟨wr.heap.size, 5, none⟩ = some (.int .i64 o.party)) (first | with_reducible exact d0 | with_reducible exact d1 | with_reducible exact d2 | with_reducible exact d3 | with_reducible exact d4 | with_reducible exact d5 | with_reducible exact d6 | exact (OSt.alloc HD5.out _).five) (first | ((with_reducible show Calls _ _ #[.int .i64 o.kind] _ _); go_at_call 22; refine (codeNumber_any o.kind _ hos.kind.1 (by have := hos.kind.2; omega)).mono ?_; rintro e w2 ⟨u1, rfl, hown, hb⟩; obtain ⟨x1, y1, z1, rfl⟩ := own_form hown; have hd := HD0.out.add hown hb; have HD1 := Lib.hid hd; have d1 := hd.five; clear hown hb hd) | ((with_reducible show Calls _ _ #[.int .i64 o.a] _ _); go_at_call 22; refine (codeNumber_any o.a _ hos.a.1 (by have := hos.a.2; omega)).mono ?_; rintro e w3 ⟨u2, rfl, hown, hb⟩; obtain ⟨x2, y2, z2, rfl⟩ := own_form hown; have hd := HD1.out.add hown hb; have HD2 := Lib.hid hd; have d2 := hd.five; clear hown hb hd) | ((with_reducible show Calls _ _ #[.int .i64 o.b] _ _); go_at_call 22; refine (codeNumber_any o.b _ hos.b.1 (by have := hos.b.2; omega)).mono ?_; rintro e w4 ⟨u3, rfl, hown, hb⟩; obtain ⟨x3, y3, z3, rfl⟩ := own_form hown; have hd := HD2.out.add hown hb; have HD3 := Lib.hid hd; have d3 := hd.five; clear hown hb hd) | ((with_reducible show Calls _ _ #[.int .i64 o.k] _ _); go_at_call 22; refine (codeNumber_any o.k _ hos.k.1 (by have := hos.k.2; omega)).mono ?_; rintro e w5 ⟨u4, rfl, hown, hb⟩; obtain ⟨x4, y4, z4, rfl⟩ := own_form hown; have hd := HD3.out.add hown hb; have HD4 := Lib.hid hd; have d4 := hd.five; clear hown hb hd) | ((with_reducible show Calls _ _ #[.int .i64 o.party] _ _); go_at_call 22; refine (codeNumber_any o.party _ hos.party.1 (by have := hos.party.2; omega)).mono ?_; rintro e w6 ⟨u5, rfl, hown, hb⟩; obtain ⟨x5, y5, z5, rfl⟩ := own_form hown; have hd := HD4.out.add hown hb; have HD5 := Lib.hid hd; have d5 := hd.five; clear hown hb hd) | (go_at_call 20; refine (concat_any _ (_ :: [_, _, _, _, _]) _ _ (lit6 _ _ _ _ _ _ _ _) (HD5.out.alloc _).es.got (by rw [HLN.out]; exact Nat.le_trans (Nat.le_add_right _ 8) (Nat.le_trans HLL.out (by decide)))).mono ?_; rintro e w7 ⟨u6, rfl, hown, hb⟩; rw [HLN.out] at hown; have hd := (HD5.out.alloc _).later hb; have HD6 := Lib.hid hd; have HO6 := Lib.hid hown; have d6 := hd.five; clear hown hb hd))
      have HO := Lib.hid (owns_base (base' := w.heap.size) HO6.out (by have := HD5.out.es.st.below.size; rw [World.size_alloc]; omega))
      have HB6 := Lib.hid HD6.out.es.st
      have hop := HD6.out.op
      have hc4 : w7.cell? ⟨wr.heap.size, 4, none⟩ = some (.int .u64 o.c) := by simp [World.cell?, hop, MOp.arr]
      have HOP := Lib.hid hop
      clear HD0 HD1 HD2 HD3 HD4 HD5 HD6 HO6 d0 d1 d2 d3 d4 d5 d6 hop c0 c1 c2 c3 c4 c5 HLN HBD
      obtain ⟨wo, rfl⟩ : ∃ wo : World, wo = wr := ⟨_, rfl⟩
      go_wp2_with fail
      clear hc4
      go_loopg [5, 65] 8 (fun g x i wq => ∃ (j : Nat) (pr2 : List Nat), j ≤ 8 ∧ g = 8 - j ∧ i = .int .i64 j ∧ Hid (pr2 = pre ++ opNums o ++ (le8 o.c).take j) ∧ Hid (wq.ownsRow w.heap.size 5 1 x pr2.length (bts pr2)) ∧ Hid (CSt w p ⟨.slice (some ⟨b, off, none⟩) p.ops.length cc, vsl, vsh, v0, v1⟩ wq) ∧ Hid (wq.heap[wo.heap.size]? = some (.cells o.arr 44 (0, 0))))
      case atStart => exact ⟨0, pre ++ opNums o, Nat.zero_le _, rfl, rfl, (by unfold Hid; simp), HO, HB6, HOP⟩
      case round =>
        obtain ⟨j, pr2, hj, hg2, rfl, HP2, HO2, HB2, HOP2⟩ := hrel
        clear HO HB6 HOP
        have hop := HOP2.out
        have hc4 : wr.cell? ⟨wo.heap.size, 4, none⟩ = some (.int .u64 o.c) := by simp [World.cell?, hop, MOp.arr]
        clear hop
        by_cases hj8 : j < 8
        · have hsz2 := HB2.out.below.size
          have hpl : pr2.length ≤ 20000000000 := by
            have h1 := HLL.out
            rw [HP2.out, List.length_append, List.length_take]; omega
          have hown2 := HO2.out
          go_wp2_with (at_builtin; refine app_k rfl _ _ 33 rfl 5 (.int .u8 0) 1 1 Tryz.underlying33 info_u8 rfl (by decide) #[_] _ _ _ _ hown2 rfl rfl rfl (by intro u hu; simp at hu; subst hu; rfl) hsz2 (by omega) (by unfold maxLen; omega) ?_; intro v1 w1 hown1 hg1 _)
          go_roundg (8 - (j + 1))
          case measure => omega
          case rel =>
            have hl8 : j < (le8 o.c).length := by unfold le8; simp; omega
            have e8 : (le8 o.c)[j]'hl8 = o.c / 2 ^ (8 * j) % 256 := by simp [le8]
            have ei : ((o.c / 2 ^ (8 * j) % 256 : Nat) : Int) = (o.c : Int) / 2 ^ (8 * j) % 256 := by norm_cast
            refine ⟨j + 1, pr2 ++ [o.c / 2 ^ (8 * j) % 256], by omega, rfl, by go_num, ?_, ?_, ?_, ?_⟩
            · unfold Hid
              rw [HP2.out, List.take_succ_eq_append_getElem hl8, e8]; simp only [List.append_assoc]
            · unfold Hid
              rw [bts_append, List.length_append, show bts [o.c / 2 ^ (8 * j) % 256] = [Value.int .u8 ((o.c : Int) / 2 ^ (8 * j) % 256)] by simp only [bts, List.map_cons, List.map_nil, ei]]; exact hown1
            · exact ⟨(hg1.block _ (lt_of_block HB2.out.box) (Ne.symm (own_ne hown2 HB2.out.box (by decide)))).trans HB2.out.box, HB2.out.below.grown hg1 hsz2 fun g hg => (hown2.lt g hg).1⟩
            · exact (hg1.block _ (lt_of_block HOP2.out) (Ne.symm (own_ne hown2 HOP2.out (by decide)))).trans HOP2.out
        · obtain rfl : j = 8 := by omega
          go_wp2_with fail
          go_roundg (p.ops.length - (k + 1))
          case measure => omega
          case rel =>
            refine ⟨k + 1, pr2, by omega, rfl, by go_num, ?_, HO2, HB2⟩
            unfold Hid
            rw [HP2.out, HPR.out, HT.out, opBytes, show (le8 o.c).take 8 = le8 o.c from List.take_of_length_le (by unfold le8; simp)]
            simp only [List.append_assoc]
    · obtain rfl : k = p.ops.length := by omega
      go_wp2_with fail
      go_ret2
      refine ⟨_, rfl, ?_, HB.out.below⟩
      have := HPR.out
      rw [List.take_length] at this
      have h2 := HOW.out
      rw [this] at h2
      exact h2
end Go.Proofs.YtjbhgimhcjcpmaaGreatDoor
