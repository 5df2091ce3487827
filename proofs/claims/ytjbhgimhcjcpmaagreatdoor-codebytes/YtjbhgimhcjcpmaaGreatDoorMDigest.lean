/-
  THE CONTRACTS of wire.Digest and twainref05.Digest: they are one.
-/
import Derived.Test.YtjbhgimhcjcpmaaGreatDoorMRefWire
import Derived.Test.YtjbhgimhcjcpmaaGreatDoorMCheckNo
import Derived.Test.YtjbhgimhcjcpmaaGreatDoorMCutOp
import Derived.Test.YtjbhgimhcjcpmaaGreatDoorMFaultFacts
import Derived.Test.YtjbhgimhcjcpmaaGreatDoorMCircTop
import Derived.Test.YtjbhgimhcjcpmaaGreatDoorMEncode
set_option linter.unusedSimpArgs false
set_option linter.unusedVariables false
namespace Go.Proofs.YtjbhgimhcjcpmaaGreatDoor
open Go.RowKit

def fnvStep (d : Int) (c : Nat) : Int := IntKind.u64.wrap (bits .xor .u64 d (c : Int) * 1099511628211)
def fnv (d : Int) (bs : List Nat) : Int := bs.foldl fnvStep d
theorem fnv_snoc (d : Int) (bs : List Nat) (c : Nat) : fnv d (bs ++ [c]) = fnvStep (fnv d bs) c := by simp [fnv]
def mDigest (bs : List Nat) : Value := .agg #[.int .u64 (fnv 14695981039346656037 bs), .int .u64 (fnv 14695981039346656038 bs)]

structure DgSt (w : World) (a b : Int) (W : World) : Prop where
  out : W.heap[w.heap.size]? = some (.cells #[.int .u64 0, .int .u64 0] 52 (0, 0))
  d : W.heap[w.heap.size + 1]? = some (.cells #[.int .u64 a, .int .u64 b] 52 (0, 0))
  below : Below w.heap.size w W
theorem DgSt.start (w : World) (a b : Int) : DgSt w a b ((w.alloc (.cells #[.int .u64 0, .int .u64 0] 52)).alloc (.cells #[.int .u64 a, .int .u64 b] 52)) := by
  have h := heap_alloc_new (w.alloc (.cells #[.int .u64 0, .int .u64 0] 52)) (.cells #[.int .u64 a, .int .u64 b] 52)
  rw [World.size_alloc] at h
  exact ⟨old1 _ (heap_alloc_new _ _), h, ((Below.refl _ _).alloc (Nat.le_refl _) _).alloc (by rw [World.size_alloc]; omega) _⟩

theorem DgSt.set0 {w : World} {a b : Int} {W : World} (h : DgSt w a b W) (a' : Int) : DgSt w a' b (W.setCell ⟨w.heap.size + 1, 0, none⟩ (.int .u64 a')) :=
  ⟨(heap_setCell_other' (by omega) _).trans h.out, heap_setCell h.d _, h.below.setCell (by show w.heap.size ≤ w.heap.size + 1; omega) _⟩
theorem DgSt.set1 {w : World} {a b : Int} {W : World} (h : DgSt w a b W) (b' : Int) : DgSt w a b' (W.setCell ⟨w.heap.size + 1, 1, none⟩ (.int .u64 b')) :=
  ⟨(heap_setCell_other' (by omega) _).trans h.out, heap_setCell h.d _, h.below.setCell (by show w.heap.size ≤ w.heap.size + 1; omega) _⟩
theorem DgSt.cell0 {w : World} {a b : Int} {W : World} (h : DgSt w a b W) : W.cell? ⟨w.heap.size + 1, 0, none⟩ = some (.int .u64 a) ∧ W.cell? ⟨w.heap.size + 1, 1, none⟩ = some (.int .u64 b) ∧ W.frozen? ⟨w.heap.size + 1, 0, none⟩ = false ∧ W.frozen? ⟨w.heap.size + 1, 1, none⟩ = false := by
  have := h.d
  refine ⟨?_, ?_, ?_, ?_⟩ <;> simp [World.cell?, World.frozen?, this]

theorem DgSt.cell1 {w : World} {a b : Int} {W : World} (h : DgSt w a b W) : W.cell? ⟨w.heap.size, 0, none⟩ = some (.int .u64 0) ∧ W.cell? ⟨w.heap.size, 1, none⟩ = some (.int .u64 0) ∧ W.frozen? ⟨w.heap.size, 0, none⟩ = false ∧ W.frozen? ⟨w.heap.size, 1, none⟩ = false := by
  have := h.out
  refine ⟨?_, ?_, ?_, ?_⟩ <;> simp [World.cell?, World.frozen?, this]

theorem info_two : (Tryz.prog.info? 52).map (·.size) = some 2 := by kernel_rfl
theorem DgSt.fin {w : World} {a b : Int} {W : World} (h : DgSt w a b W) : ((W.setCell ⟨w.heap.size, 0, none⟩ (.int .u64 a)).setCell ⟨w.heap.size, 1, none⟩ (.int .u64 b)).heap[w.heap.size]? = some (.cells #[.int .u64 a, .int .u64 b] 52 (0, 0)) ∧ Below w.heap.size w ((W.setCell ⟨w.heap.size, 0, none⟩ (.int .u64 a)).setCell ⟨w.heap.size, 1, none⟩ (.int .u64 b)) :=
  ⟨heap_setCell (heap_setCell h.out _) _, (h.below.setCell (Nat.le_refl _) _).setCell (Nat.le_refl _) _⟩

set_option maxHeartbeats 1000000 in
set_option maxRecDepth 100000 in
theorem digest_any (v : Value) (bs : List Nat) (w : World) (hv : Arr w.heap.size w 1 v bs.length (bts bs)) (h8 : ∀ x ∈ bs, x < 256) :
    Calls Tryz.prog 45 #[v] w (RetB (mDigest bs) w) := by
  obtain ⟨ao, c, rfl, hc, hm, hl, hcell⟩ := hv.open
  have HC := Lib.hid hcell
  have H8 := Lib.hid h8
  have HD := Lib.hid (DgSt.start w 14695981039346656037 14695981039346656038)
  clear hcell h8 hv hl
  unfold maxLen at hm
  go_enter Tryz.func45, Tryz.ntmps45
  go_wp2_with fail
  go_loopg [10] bs.length (fun g i wr => ∃ (k : Nat), k ≤ bs.length ∧ g = bs.length - k ∧ i = .int .i64 k ∧ Hid (DgSt w (fnv 14695981039346656037 (bs.take k)) (fnv 14695981039346656038 (bs.take k)) wr))
  case atStart => exact ⟨0, Nat.zero_le _, rfl, rfl, HD⟩
  case round =>
    obtain ⟨k, hk, hg, rfl, HD2⟩ := hrel
    clear HD
    by_cases hkl : k < bs.length
    · obtain ⟨b, off, rfl, hb, hcells⟩ := HC.out (by omega)
      have hcx : wr.cell? ⟨b, off + k, none⟩ = some (.int .u8 (bs[k] : Nat)) := by rw [HD2.out.below.cell hb, hcells k (by omega)]; simp [bts, hkl]
      have hx := H8.out _ (List.getElem_mem hkl)
      have HT := Lib.hid (show bs.take (k + 1) = bs.take k ++ [bs[k]] from List.take_succ_eq_append_getElem hkl)
      generalize bs[k] = x at hcx hx HT
      generalize hA : fnv 14695981039346656037 (bs.take k) = A at HD2
      generalize hB : fnv 14695981039346656038 (bs.take k) = B at HD2
      clear hcells
      go_wp2_with fail
      have HI := Lib.hid (show DgSt w (if 1 ≤ 0 then fnvStep A x else A) (if 2 ≤ 0 then fnvStep B x else B) wr from HD2.out)
      obtain ⟨wo, rfl⟩ : ∃ wo : World, wo = wr := ⟨_, rfl⟩
      clear HD2 hcx
      go_loopg [14] 2 (fun g i wq => ∃ (j : Nat), j ≤ 2 ∧ g = 2 - j ∧ i = .int .i64 j ∧ Hid (DgSt w (if 1 ≤ j then fnvStep A x else A) (if 2 ≤ j then fnvStep B x else B) wq))
      case atStart => exact ⟨0, by omega, rfl, rfl, HI⟩
      case round =>
        obtain ⟨j, hj, hg2, rfl, HI2⟩ := hrel
        clear HI
        rcases (show j = 0 ∨ j = 1 ∨ j = 2 by omega) with rfl | rfl | rfl
        · have HI3 := Lib.hid (show DgSt w A B wr from HI2.out)
          obtain ⟨e0, e1, f0, f1⟩ := HI3.out.cell0
          go_wp2_with fail
          go_roundg 1
          case measure => omega
          case rel => exact ⟨1, by omega, rfl, by go_num, HI3.out.set0 _⟩
        · have HI3 := Lib.hid (show DgSt w (fnvStep A x) B wr from HI2.out)
          obtain ⟨e0, e1, f0, f1⟩ := HI3.out.cell0
          go_wp2_with fail
          go_roundg 0
          case measure => omega
          case rel => exact ⟨2, by omega, rfl, by go_num, HI3.out.set1 _⟩
        · go_wp2_with fail
          go_roundg (bs.length - (k + 1))
          case measure => omega
          case rel => exact ⟨k + 1, by omega, rfl, by go_num, by rw [HT.out, fnv_snoc, fnv_snoc, hA, hB]; exact HI2⟩
    · obtain rfl : k = bs.length := by omega
      rw [List.take_length] at HD2
      obtain ⟨e0, e1, f0, f1⟩ := HD2.out.cell0
      obtain ⟨e2, e3, f2, f3⟩ := HD2.out.cell1
      go_wp2_with fail
      exact bodyPost_ret (results_cell_row rfl _ _ w.heap.size 52 _ _ _ rfl HD2.out.fin.1 Tryz.underlying52 rfl info_two) rfl ⟨rfl, HD2.out.fin.2⟩

def seed (k : Nat) : Int := 14695981039346656037 + k
set_option maxHeartbeats 1000000 in
set_option maxRecDepth 100000 in
theorem refDigest_any (v : Value) (bs : List Nat) (w : World) (hv : Arr w.heap.size w 1 v bs.length (bts bs)) (h8 : ∀ x ∈ bs, x < 256) :
    Calls Tryz.prog 16 #[v] w (RetB (mDigest bs) w) := by
  obtain ⟨ao, c, rfl, hc, hm, hl, hcell⟩ := hv.open
  have HC := Lib.hid hcell
  have H8 := Lib.hid h8
  have HD := Lib.hid (DgSt.start w 0 0)
  clear hcell h8 hv hl
  unfold maxLen at hm
  go_enter Tryz.func16, Tryz.ntmps16
  go_wp2_with fail
  go_loopg [4] 2 (fun g i wr => ∃ (j : Nat), j ≤ 2 ∧ g = 2 - j ∧ i = .int .i64 j ∧ Hid (DgSt w (if 1 ≤ j then fnv (seed 0) bs else 0) (if 2 ≤ j then fnv (seed 1) bs else 0) wr))
  case atStart => exact ⟨0, by omega, rfl, rfl, HD⟩
  case round =>
    obtain ⟨j, hj, hg, rfl, HD2⟩ := hrel
    clear HD
    obtain ⟨wo, rfl⟩ : ∃ wo : World, wo = wr := ⟨_, rfl⟩
    by_cases hj2 : j < 2
    · have hs0 : 0 ≤ (j : Int) := by omega
      have hs2 : (j : Int) < 2 := by omega
      have hsd : IntKind.u64.wrap (14695981039346656037 + IntKind.u64.wrap (j : Int)) = seed j := by
        unfold seed; rw [IntKind.wrap_u64, IntKind.wrap_u64]; omega
      have hsd2 : IntKind.u64.wrap (14695981039346656037 + (j : Int)) = seed j := by
        unfold seed; rw [IntKind.wrap_u64]; omega
      go_wp2_with fail
      go_loopg [5, 6] bs.length (fun g x i wr => ∃ (k : Nat), k ≤ bs.length ∧ g = bs.length - k ∧ x = .int .u64 (fnv (seed j) (bs.take k)) ∧ i = .int .i64 k ∧ wr = wo)
      case atStart => exact ⟨0, Nat.zero_le _, rfl, (by first | rfl | (simp [fnv, seed]) | (rw [List.take_zero]; simp [fnv, ← hsd2])), rfl, rfl⟩
      case round =>
        obtain ⟨k, hk, hg2, rfl, rfl, rfl⟩ := hrel
        by_cases hkl : k < bs.length
        · obtain ⟨b, off, rfl, hb, hcells⟩ := HC.out (by omega)
          have hcx : wr.cell? ⟨b, off + k, none⟩ = some (.int .u8 (bs[k] : Nat)) := by rw [HD2.out.below.cell hb, hcells k (by omega)]; simp [bts, hkl]
          have hx := H8.out _ (List.getElem_mem hkl)
          have HT := Lib.hid (show bs.take (k + 1) = bs.take k ++ [bs[k]] from List.take_succ_eq_append_getElem hkl)
          generalize bs[k] = x at hcx hx HT
          generalize hA : fnv (seed j) (bs.take k) = A
          clear hcells
          go_wp2_with fail
          go_roundg (bs.length - (k + 1))
          case measure => omega
          case rel => exact ⟨k + 1, by omega, rfl, by rw [HT.out, fnv_snoc, hA]; rfl, by go_num, rfl⟩
        · obtain rfl : k = bs.length := by omega
          rw [List.take_length]
          rcases (show j = 0 ∨ j = 1 by omega) with rfl | rfl
          · have HI3 := Lib.hid (show DgSt w 0 0 wr from HD2.out)
            obtain ⟨e0, e1, f0, f1⟩ := HI3.out.cell0
            go_wp2_with fail
            go_roundg 1
            case measure => omega
            case rel => exact ⟨1, by omega, rfl, by go_num, HI3.out.set0 _⟩
          · have HI3 := Lib.hid (show DgSt w (fnv (seed 0) bs) 0 wr from HD2.out)
            obtain ⟨e0, e1, f0, f1⟩ := HI3.out.cell0
            go_wp2_with fail
            go_roundg 0
            case measure => omega
            case rel => exact ⟨2, by omega, rfl, by go_num, HI3.out.set1 _⟩
    · obtain rfl : j = 2 := by omega
      have HI3 := Lib.hid (show DgSt w (fnv (seed 0) bs) (fnv (seed 1) bs) wo from HD2.out)
      obtain ⟨e0, e1, f0, f1⟩ := HI3.out.cell0
      obtain ⟨e2, e3, f2, f3⟩ := HI3.out.cell1
      go_wp2_with fail
      exact bodyPost_ret (results_cell_row rfl _ _ w.heap.size 52 _ _ _ rfl HI3.out.fin.1 Tryz.underlying52 rfl info_two) rfl ⟨rfl, HI3.out.fin.2⟩
end Go.Proofs.YtjbhgimhcjcpmaaGreatDoor

/-
  THE CONTRACT of code.Digest.
-/
namespace Go.Proofs.YtjbhgimhcjcpmaaGreatDoor
open Go.RowKit

structure CDg (w : World) (p : MPlan) (v : PVals) (W : World) : Prop where
  st : CSt w p v W
  out : W.heap[w.heap.size + 1]? = some (.cells #[.int .u64 0, .int .u64 0] 52 (0, 0))
theorem CDg.start (w : World) (p : MPlan) (v : PVals) : CDg w p v ((w.alloc (.cells (planArr p v) 30)).alloc (.cells #[.int .u64 0, .int .u64 0] 52)) := by
  have hS := (show CSt w p v (w.alloc (.cells (planArr p v) 30)) from ⟨heap_alloc_new _ _, (Below.refl _ _).alloc (Nat.le_refl _) _⟩)
  have h := heap_alloc_new (w.alloc (.cells (planArr p v) 30)) (.cells #[.int .u64 0, .int .u64 0] 52)
  rw [World.size_alloc] at h
  exact ⟨hS.later ((Below.refl _ _).alloc (Nat.le_refl _) _), h⟩
theorem CDg.later {w : World} {p : MPlan} {v : PVals} {W W' : World} (h : CDg w p v W) (hb : Below W.heap.size W W') : CDg w p v W' := ⟨h.st.later hb, (hb.block _ (lt_of_block' h.out)).trans h.out⟩
theorem CDg.two {w : World} {p : MPlan} {v : PVals} {W : World} (h : CDg w p v W) : W.cell? ⟨w.heap.size + 1, 0, none⟩ = some (.int .u64 0) ∧ W.cell? ⟨w.heap.size + 1, 1, none⟩ = some (.int .u64 0) ∧ W.frozen? ⟨w.heap.size + 1, 0, none⟩ = false ∧ W.frozen? ⟨w.heap.size + 1, 1, none⟩ = false := by
  have := h.out
  refine ⟨?_, ?_, ?_, ?_⟩ <;> simp [World.cell?, World.frozen?, this]
theorem CDg.fin {w : World} {p : MPlan} {v : PVals} {W : World} (h : CDg w p v W) (a b : Value) : ((W.setCell ⟨w.heap.size + 1, 0, none⟩ a).setCell ⟨w.heap.size + 1, 1, none⟩ b).heap[w.heap.size + 1]? = some (.cells #[a, b] 52 (0, 0)) ∧ Below w.heap.size w ((W.setCell ⟨w.heap.size + 1, 0, none⟩ a).setCell ⟨w.heap.size + 1, 1, none⟩ b) :=
  ⟨heap_setCell (heap_setCell h.out _) _, (h.st.below.setCell (by show w.heap.size ≤ w.heap.size + 1; omega) _).setCell (by show w.heap.size ≤ w.heap.size + 1; omega) _⟩

theorem IsErr.set {B : Nat} {w : World} {g : Nat} {cs : Array Value} {t : TypeId} {fr : Nat × Nat} (hg : w.heap[g]? = some (.cells cs t fr)) (ht : t ≠ 104) (j : Nat) (x : Value) : ∀ {l : List (ByteArray × Int)} {c : Int} {v : Value}, IsErr B w l c v → IsErr B (w.setCell ⟨g, j, none⟩ x) l c v
  | [], _, _, h => h
  | (_, _) :: _, _, _, ⟨b, e, hv, hlt, hh, hr⟩ => ⟨b, e, hv, hlt, (heap_setCell_other' (fun hbg => by
      subst hbg
      rw [hh] at hg
      exact ht (by injection (Option.some.inj hg) with _ h2; exact h2.symm)) x).trans hh, IsErr.set hg ht j x hr⟩

set_option maxHeartbeats 1000000 in
set_option maxRecDepth 100000 in
theorem codeDigest_yes (p : MPlan) (v : PVals) (w : World) (h : PlanAt w.heap.size w p v) (hE : ErrT w) (hg : mGood p = true) :
    Calls Tryz.prog 14 #[.agg (planArr p v)] w (RetB (.tuple #[mDigest (planBytes p), .nilIface]) w) := by
  have hS := CDg.start w p v
  obtain ⟨⟨c0, c1, c2, c3, c4⟩, ⟨c5, c6, c7, c8, c9, c10, c11, c12⟩, c13, c14, c15⟩ := hS.st.cells
  have HP := Lib.hid h
  have HE := Lib.hid hE
  have HG := Lib.hid hg
  have HS := Lib.hid hS
  have h8 := Lib.hid (planBytes_bytes p)
  simp only [planArr] at HS c0 c1 c2 c3 c4 c5 c6 c7 c8 c9 c10 c11 c12 c13 c14 c15 ⊢
  clear h hE hg hS
  go_enter Tryz.func14, Tryz.ntmps14
  go_wp2_with (first | (go_at_call 8; go_must (refine (encode_yes p v _ (HP.out.later HS.out.st.below HS.out.st.below.size) (HE.out.below HS.out.st.below) HG.out).mono ?_; rintro e w1 ⟨u, rfl, ho, hb⟩; have HS1 := Lib.hid (HS.out.later hb); have HA := Lib.hid (Arr.of_owns ho); clear hb ho c0 c1 c2 c3 c4 c5 c6 c7 c8 c9 c10 c11 c12 c13 c14 c15)) | (go_at_call 45; go_must (refine (digest_any _ (planBytes p) _ HA.out h8.out).mono ?_; unfold RetB mDigest; rintro e w2 ⟨rfl, hb⟩; have HS2 := Lib.hid (HS1.out.later hb); obtain ⟨e0, e1, f0, f1⟩ := HS2.out.two; clear hb)))
  exact bodyPost_ret (results_cell_tmp rfl _ _ (w.heap.size + 1) 52 _ _ _ rfl (HS2.out.fin _ _).1 Tryz.underlying52 rfl info_two) rfl ⟨rfl, (HS2.out.fin _ _).2⟩

set_option maxHeartbeats 1000000 in
set_option maxRecDepth 100000 in
theorem codeDigest_no (p : MPlan) (v : PVals) (w : World) (h : PlanAt w.heap.size w p v) (hE : ErrT w) (hg : mGood p = false) :
    Calls Tryz.prog 14 #[.agg (planArr p v)] w fun e w' => ∃ u, e = .returned (.tuple #[.agg #[.int .u64 0, .int .u64 0], u]) ∧ (∃ l, IsErr w'.heap.size w' l 180 u) ∧ Below w.heap.size w w' := by
  have hS := CDg.start w p v
  obtain ⟨⟨c0, c1, c2, c3, c4⟩, ⟨c5, c6, c7, c8, c9, c10, c11, c12⟩, c13, c14, c15⟩ := hS.st.cells
  have HP := Lib.hid h
  have HE := Lib.hid hE
  have HG := Lib.hid hg
  have HS := Lib.hid hS
  simp only [planArr] at HS c0 c1 c2 c3 c4 c5 c6 c7 c8 c9 c10 c11 c12 c13 c14 c15 ⊢
  clear h hE hg hS
  go_enter Tryz.func14, Tryz.ntmps14
  go_wp2_with (go_at_call 8; go_must (refine (encode_no p v _ (HP.out.later HS.out.st.below HS.out.st.below.size) (HE.out.below HS.out.st.below) HG.out).mono ?_; rintro e w1 ⟨u, rfl, ⟨l, hu⟩, hb⟩; obtain ⟨TT, xx, rfl⟩ := hu.form; have HU := Lib.hid hu; have HS1 := Lib.hid (HS.out.later hb); obtain ⟨e0, e1, f0, f1⟩ := HS1.out.two; clear hb hu c0 c1 c2 c3 c4 c5 c6 c7 c8 c9 c10 c11 c12 c13 c14 c15))
  have HU2 := Lib.hid (show ∃ l, IsErr ((w1.setCell ⟨w.heap.size + 1, 0, none⟩ (.int .u64 0)).setCell ⟨w.heap.size + 1, 1, none⟩ (.int .u64 0)).heap.size ((w1.setCell ⟨w.heap.size + 1, 0, none⟩ (.int .u64 0)).setCell ⟨w.heap.size + 1, 1, none⟩ (.int .u64 0)) l 180 (.iface TT xx) from
    ⟨l, by rw [World.size_setCell, World.size_setCell]; exact IsErr.set (heap_setCell HS1.out.out _) (by decide) 1 _ (IsErr.set HS1.out.out (by decide) 0 _ HU.out)⟩)
  first | (go_quiet (fail)) | skip
  go_wp2
  exact bodyPost_ret (results_cell_tmp rfl _ _ (w.heap.size + 1) 52 _ _ _ rfl (HS1.out.fin _ _).1 Tryz.underlying52 rfl info_two) rfl ⟨.iface TT xx, rfl, HU2.out, (HS1.out.fin _ _).2⟩
end Go.Proofs.YtjbhgimhcjcpmaaGreatDoor

/-
  THE CONTRACT of fault.Code over an Errno in places: Go's own errors.As is walked.
-/
namespace Go.Proofs.YtjbhgimhcjcpmaaGreatDoor
open Go.RowKit Go.Extern.Stop Go.Stop Go.Extern

theorem cell_a' {W : World} {a : Addr} {v : Value} {o : Obj} (h : W.cell? a = some v) : (W.alloc o).cell? a = some v := cell_later ((Below.refl _ _).alloc (Nat.le_refl _) o) h
theorem partsN (a : Addr) (w : World) : (ReflectliteValue.parts (.agg #[.pointer (some ⟨1, 48, none⟩), .pointer (some a), .int .u64 130])).run Tryz.prog w = .ok (some (48, a, 130)) w := by kernel_rfl
theorem partsNA (a : Addr) (w : World) : (ReflectliteValue.parts (.agg #[.pointer (some ⟨1, 48, none⟩), .pointer (some a), .int .u64 386])).run Tryz.prog w = .ok (some (48, a, 386)) w := by kernel_rfl
@[go_sem] theorem valueOfN (c : Int) (w : World) : (ReflectliteValue.unpack (.iface 48 (.int .i64 c))).run Tryz.prog w
    = .ok (.agg #[.pointer (some ⟨1, 48, none⟩), .pointer (some ⟨w.heap.size, 0, none⟩), .int .u64 130]) (w.alloc (.cells #[.int .i64 c] 48)) := by kernel_rfl
theorem mkN (p : Addr) (w : World) : (ReflectliteValue.mk 48 p ReflectliteValue.flagAddr).run Tryz.prog w = .ok (.agg #[.pointer (some ⟨1, 48, none⟩), .pointer (some p), .int .u64 386]) w := by kernel_rfl
theorem elemTN (w : World) : (Rtype.elem? 88).run Tryz.prog w = .ok (some 48) w := by kernel_rfl
@[go_sem] theorem elemNP (a p : Addr) (W : World) (ha : W.cell? a = some (.pointer (some p))) :
    (ReflectliteValue.method (ReflectliteValue.valueError "reflectlite.Value.Elem" 0) ReflectliteValue.elem #[.agg #[.pointer (some ⟨1, 88, none⟩), .pointer (some a), .int .u64 150]]).run Tryz.prog W
      = .ok (.agg #[.pointer (some ⟨1, 48, none⟩), .pointer (some p), .int .u64 386]) W := by
  rw [rlm]
  simp only [Sem.run_bind, partsNP, Result.andThen]
  simp [ReflectliteValue.elem, loadVar, isAgg, underlying, Tryz.underlying88, ha, Result.andThen, elemTN, mkN]
theorem dirN (w : World) : (Rtype.directlyAssignable 48 48).run Tryz.prog w = .ok true w := by kernel_rfl
theorem rls (v x : Value) : ReflectliteValue.set #[v, x] = (do
    let (some (dst, a, fl), some (src, b, _)) := (← ReflectliteValue.parts v, ← ReflectliteValue.parts x)
      | unsupported (.noEntry "extern/(internal/reflectlite.Value).Set.zeroValue")
    if fl / ReflectliteValue.flagAddr % 2 == 0 then unsupported (.noEntry "extern/(internal/reflectlite.Value).Set.unaddressable")
    let val ← loadVar src b
    if ← Rtype.directlyAssignable dst src then storeVar dst a val
    else if ← Rtype.implements dst src then
      if (← Rtype.kind src) == 20 then
        match val with
        | .nilIface => unsupported (.noEntry "extern/reflectlite: a nil value of one interface type handed on as a value of another")
        | _ => storeVar dst a val
      else storeVar dst a (.iface src val)
    else panicString ("reflectlite.Set: value of type " ++ (← Rtype.spelt src) ++ " is not assignable to type " ++ (← Rtype.spelt dst))
    pure (.tuple #[])) := rfl
@[go_sem] theorem setN (a t : Addr) (c : Int) (y : Value) (W : World) (ha : W.cell? a = some (.int .i64 c)) (ht : W.cell? t = some y) (hf : W.frozen? t = false) :
    (ReflectliteValue.set #[.agg #[.pointer (some ⟨1, 48, none⟩), .pointer (some t), .int .u64 386], .agg #[.pointer (some ⟨1, 48, none⟩), .pointer (some a), .int .u64 130]]).run Tryz.prog W
      = .ok (.tuple #[]) (W.setCell t (.int .i64 c)) := by
  rw [rls]
  simp only [Sem.run_bind, partsN, partsNA, Result.andThen]
  simp [ReflectliteValue.flagAddr, loadVar, isAgg, underlying, Tryz.underlying48, ha, Result.andThen, dirN, storeVar, Value.cells, storeCells, Addr.add]
  rw [run_store Tryz.prog W t _ _ (by rfl)]
  simp [ht, hf]

set_option maxHeartbeats 1000000 in
set_option maxRecDepth 100000 in
theorem as_errno_go (l : List (ByteArray × Int)) (code : Int) (v : Value) (w : World) (B b t q : Nat) (hv : IsErr B w l code v) (ht : w.heap[t]? = some (.cells #[.int .i64 0] 48 (0, 0))) (hq : w.cell? ⟨q, 0, none⟩ = some (.pointer (some ⟨t, 0, none⟩))) (hb : b ≤ t) :
    Calls Tryz.prog 82 #[v, .iface 88 (.pointer (some ⟨t, 0, none⟩)), .agg #[.pointer (some ⟨1, 88, none⟩), .pointer (some ⟨q, 0, none⟩), .int .u64 150], .iface 187 (.agg #[.pointer (some ⟨1, 48, none⟩)])] w
      fun e w' => e = .returned (.bool true) ∧ Below b w w' ∧ w'.cell? ⟨t, 0, none⟩ = some (.int .i64 code) := by
  have htl := lt_of_block' ht
  have hql : q < w.heap.size := lt_of_cell hq
  have hq1 : ∀ o, (w.alloc o).cell? ⟨q, 0, none⟩ = some (.pointer (some ⟨t, 0, none⟩)) := fun o => (cell_a' hq)
  have ht1 : ∀ o o', ((w.alloc o).alloc o').cell? ⟨t, 0, none⟩ = some (.int .i64 0) := fun o o' => by have := old2 o o' ht; simp [World.cell?, this]
  have hf1 : ∀ o o', ((w.alloc o).alloc o').frozen? ⟨t, 0, none⟩ = false := fun o o' => by have := old2 o o' ht; simp [World.frozen?, this]
  have HB := Lib.hid (show ∀ o o' x, Below b w (((w.setCell ⟨t, 0, none⟩ x).alloc o).alloc o') from fun o o' x => (((Below.refl b w).setCell hb x).alloc (by rw [World.size_setCell]; omega) o).alloc (by rw [World.size_alloc, World.size_setCell]; omega) o')
  have HT := Lib.hid (show ∀ o o', (((w.setCell ⟨t, 0, none⟩ (.int .i64 code)).alloc o).alloc o').cell? ⟨t, 0, none⟩ = some (.int .i64 code) from fun o o' => by
    have h := old2 o o' (heap_setCell (j := 0) ht (.int .i64 code))
    simp [World.cell?, h])
  clear ht
  go_enter Tryz.func82, Tryz.ntmps82
  go_wp2
  go_loopg [0] l.length (fun g x wr => wr = w.alloc (.cells #[.pointer (some ⟨1, 88, none⟩), .pointer (some ⟨q, 0, none⟩), .int .u64 150] 132) ∧ ∃ l', l'.length = g ∧ IsErr B w l' code x)
  case atStart => exact ⟨rfl, l, rfl, hv⟩
  case round =>
    obtain ⟨rfl, l', hl, he⟩ := hrel
    match l', he with
    | [], he =>
      unfold IsErr at he
      subst he
      go_wp2
      go_ret
      exact ⟨rfl, HB.out _ _ _, HT.out _ _⟩
    | (name, at_) :: l', he =>
      obtain ⟨b', e, rfl, hlt, hh, hr⟩ := he
      obtain ⟨T, x, rfl⟩ := hr.form
      have hc3 : ∀ o, (w.alloc o).cell? ⟨b', 3, none⟩ = some (.iface T x) := fun o => cell_a' (by simp [World.cell?, hh])
      have HR := Lib.hid hr
      simp only [List.length_cons] at hl
      have HL := Lib.hid hl
      clear hh hr hl
      go_wp2
      go_roundg l'.length
      case measure => have := HL.out; omega
      case rel => exact ⟨rfl, l', rfl, HR.out⟩

set_option maxHeartbeats 1000000 in
set_option maxRecDepth 100000 in
theorem as_errno (l : List (ByteArray × Int)) (code : Int) (v : Value) (w : World) (B b t : Nat) (hv : IsErr B w l code v) (hB : B ≤ w.heap.size) (hE : ErrT w) (ht : w.heap[t]? = some (.cells #[.int .i64 0] 48 (0, 0))) (hb : b ≤ t) :
    Calls Tryz.prog 41 #[v, .iface 88 (.pointer (some ⟨t, 0, none⟩))] w fun e w' => e = .returned (.bool true) ∧ Below b w w' ∧ w'.cell? ⟨t, 0, none⟩ = some (.int .i64 code) := by
  obtain ⟨T, x, rfl⟩ := hv.form
  have htl := lt_of_block' ht
  have HV := Lib.hid hv
  have HT := Lib.hid ht
  have hlt : 0 < w.heap.size := lt_of_cell hE
  unfold ErrT at hE
  clear hv ht
  go_enter Tryz.func41, Tryz.ntmps41
  have HQ := Lib.hid (show ∀ o o', o = (.cells #[.pointer (some ⟨t, 0, none⟩)] 88) → ((w.alloc o).alloc o').cell? ⟨w.heap.size, 0, none⟩ = some (.pointer (some ⟨t, 0, none⟩)) from fun o o' e => by
    subst e
    have h := old1 o' (heap_alloc_new w (.cells #[.pointer (some ⟨t, 0, none⟩)] 88))
    simp [World.cell?, h])
  have HB := Lib.hid (show ∀ o o', Below b w ((w.alloc o).alloc o') from fun o o' => ((Below.refl b w).alloc (by omega) o).alloc (by rw [World.size_alloc]; omega) o')
  have HW := Lib.hid (show ∀ o o', Below w.heap.size w ((w.alloc o).alloc o') from fun o o' => ((Below.refl _ w).alloc (Nat.le_refl _) o).alloc (by rw [World.size_alloc]; omega) o')
  go_wp2_with (first | (go_at_call 82; refine (as_errno_go l code _ _ w.heap.size b t w.heap.size (HV.out.later ((HW.out _ _).mono hB) hB) (old2 _ _ HT.out) (HQ.out _ _ rfl) hb).mono ?_; rintro e w' ⟨rfl, hbb, hc⟩; have hbw := (HB.out _ _).trans hbb) | go_in)
  go_ret
  exact ⟨rfl, hbw, hc⟩

set_option maxHeartbeats 1000000 in
set_option maxRecDepth 100000 in
theorem Code_any (l : List (ByteArray × Int)) (code : Int) (v : Value) (w : World) (B : Nat) (hv : IsErr B w l code v) (hB : B ≤ w.heap.size) (hE : ErrT w) :
    Calls Tryz.prog 12 #[v] w (RetB (.int .i64 code) w) := by
  obtain ⟨T, x, rfl⟩ := hv.form
  have HV := Lib.hid hv
  have hE1 := Lib.hid hE
  clear hv hE
  go_enter Tryz.func12, Tryz.ntmps12
  go_wp2_with (go_at_call 41; refine (as_errno l code _ _ B w.heap.size w.heap.size (HV.out.later ((Below.refl _ _).alloc hB _) (Nat.le_refl _)) (by rw [World.size_alloc]; omega) (hE1.out.below ((Below.refl _ _).alloc (Nat.le_refl _) _)) (heap_alloc_new _ _) (Nat.le_refl _)).mono ?_; rintro e w' ⟨rfl, hb, hc⟩)
  go_ret
  exact ⟨rfl, ((Below.refl _ _).alloc (Nat.le_refl _) _).trans hb⟩
end Go.Proofs.YtjbhgimhcjcpmaaGreatDoor

/-
  THE CONTRACT of twainref19.shapes.
-/
namespace Go.Proofs.YtjbhgimhcjcpmaaGreatDoor
open Go.RowKit

theorem refNum_any (n : Int) (w : World) (h0 : 0 ≤ n) (h1 : n ≤ 4294967295) :
    Calls Tryz.prog 42 #[.int .i64 n] w fun e w' => ∃ v, e = .returned v ∧ w'.ownsRow w.heap.size 5 1 v (num7 n.toNat).length (bts (num7 n.toNat)) ∧ Below w.heap.size w w' := by
  obtain ⟨m, rfl⟩ := Int.eq_ofNat_of_zero_le h0
  rw [Int.toNat_natCast]
  exact refNumber_any m w (by omega)

set_option maxHeartbeats 1000000 in
set_option maxRecDepth 100000 in
theorem refShapes_any (v : Value) (vs : List Value) (l : List (List Int)) (w : World) (hv : Arr w.heap.size w 1 v vs.length vs) (hvs : Nest w.heap.size w vs (l.map ints))
    (hlen : (shBytes l).length ≤ 1099511627776) (hl1 : l.length ≤ 4294967295) (hl2 : ∀ s ∈ l, s.length ≤ 4294967295 ∧ ∀ d ∈ s, 0 ≤ d ∧ d ≤ 4294967295) :
    Calls Tryz.prog 43 #[v] w fun e w' => ∃ r, e = .returned r ∧ w'.ownsRow w.heap.size 5 1 r (shBytes l).length (bts (shBytes l)) ∧ Below w.heap.size w w' := by
  have hl := hvs.length
  simp only [List.length_map] at hl
  obtain ⟨ao, c, rfl, hc, hm, hl', hcell⟩ := hv.open
  have HV := Lib.hid hvs
  have HC := Lib.hid hcell
  have hl3 : vs.length ≤ 4294967295 := by omega
  have HL := Lib.hid hl
  unfold maxLen at hm
  clear hvs hv hl' hcell hl
  go_enter Tryz.func43, Tryz.ntmps43
  go_wp2_with (go_at_call 42; refine (refNum_any _ _ (by omega) (by omega)).mono ?_; rintro e w1 ⟨v1, rfl, hown, hb⟩)
  rw [Int.toNat_natCast, HL.out] at hown
  have hsz := hb.size
  go_loopw [3, 11] (fun x i wr => ∃ (k : Nat) (pre : List Nat), k ≤ vs.length ∧ i = .int .i64 k ∧ Hid (pre = num7 l.length ++ (l.take k).flatMap oneShape) ∧ wr.ownsRow w.heap.size 5 1 x pre.length (bts pre) ∧ Below w.heap.size w wr) (fun _ i _ => vs.length - (intOf i).toNat)
  case atStart => exact ⟨0, _, Nat.zero_le _, rfl, rfl, by simpa using hown, hb⟩
  case round =>
    obtain ⟨k, pre, hk, rfl, HP, hownr, hbr⟩ := hrel
    have hszr := hbr.size
    by_cases hkl : k < vs.length
    · obtain ⟨b, off, rfl, hbl, hcells⟩ := HC.out (by omega)
      have hkb : k < l.length := by have := HL.out; omega
      have ha := HV.out.get k hkl (by simpa using hkb)
      simp only [List.getElem_map] at ha
      obtain ⟨ao2, c2, hv2, hc2, hm2, _, hcell2⟩ := ha.open
      rw [ints_length] at hv2 hc2
      have hcw : w.cell? ⟨b, off + k, none⟩ = some (.slice ao2 l[k].length c2) := by rw [hcells k (by omega)]; simp [hkl, hv2]
      have hcx : wr.cell? ⟨b, off + k, none⟩ = some (.slice ao2 l[k].length c2) := by rw [hbr.cell hbl, hcw]
      have hk0 : (0 : Int) ≤ (k : Int) := by omega
      have hk1 : (k : Int) < (vs.length : Int) := by omega
      have hmem := hl2 l[k] (List.getElem_mem _)
      have hle : pre.length + (num7 l[k].length).length + (dimBytes l[k]).length ≤ 1099511627776 := by
        have h1 := flatMap_take_le oneShape l (k + 1)
        rw [flatMap_take oneShape l k hkb, List.length_append] at h1
        rw [HP.out]
        unfold shBytes at hlen
        have h2 : (oneShape l[k]).length = (num7 l[k].length).length + (dimBytes l[k]).length := by simp [oneShape]
        simp only [List.length_append] at hlen ⊢
        omega
      have HF : Hid (num7 l.length ++ (l.take (k + 1)).flatMap oneShape = pre ++ (num7 l[k].length ++ dimBytes l[k])) := by
        unfold Hid; rw [flatMap_take oneShape l k hkb, HP.out]; simp [oneShape]
      generalize l[k] = s0 at hcx hcw hmem hle HF hcell2 hc2
      obtain ⟨hm5, hdims⟩ := hmem
      have HD := Lib.hid hdims
      have HC2 := Lib.hid hcell2
      unfold maxLen at hm2
      clear hcells ha hv2 hdims hcell2
      go_wp2_with (first | (go_at_call 42; refine (refNum_any _ _ (by omega) (by omega)).mono ?_; rintro e w2 ⟨v2, rfl, hown2, hb2⟩; rw [Int.toNat_natCast] at hown2; have hownr2 := Below.owns hownr hb2; have harr2 := Arr.of_owns hown2; have hsz2 := hb2.size) | (at_builtin; refine app_arr rfl _ _ 33 rfl 5 (.int .u8 0) 1 1 Tryz.underlying33 info_u8 rfl (by decide) _ _ _ _ _ _ _ _ hownr2 harr2 rfl rfl (bts_one _) (by omega) (by omega) (by unfold maxLen; omega) ?_; intro v3 w3 hown3 hg3 _; have hcx3 : w3.cell? ⟨b, off + k, none⟩ = some (.slice ao2 s0.length c2) := (((hbr.trans (hb2.mono hszr)).grown hg3 (by omega) (fun j hj => (hownr2.lt j hj).1)).cell hbl).trans hcw))
      have hb3 : Below w.heap.size w w3 := (hbr.trans (hb2.mono hszr)).grown hg3 (by omega) (fun j hj => (hownr2.lt j hj).1)
      have hsz3 := hb3.size
      rw [← bts_append, ← List.length_append] at hown3
      clear hg3 harr2 hownr2 hown2 hb2 hownr hbr hcx hszr hsz2
      go_loopw [3, 27] (fun x i wq => ∃ (j : Nat) (pr2 : List Nat), j ≤ s0.length ∧ i = .int .i64 j ∧ Hid (pr2 = pre ++ num7 s0.length ++ dimBytes (s0.take j)) ∧ wq.ownsRow w.heap.size 5 1 x pr2.length (bts pr2) ∧ Below w.heap.size w wq) (fun _ i _ => s0.length - (intOf i).toNat)
      case atStart => exact ⟨0, _, Nat.zero_le _, rfl, by unfold Hid; simp [dimBytes], hown3, hb3⟩
      case round =>
        obtain ⟨j, pr2, hj, rfl, HP2, hownq, hbq⟩ := hrel
        have hszq := hbq.size
        by_cases hjl : j < s0.length
        · obtain ⟨b2, off2, rfl, hbl2, hcells2⟩ := HC2.out (by rw [ints_length]; omega)
          have hcz : wr.cell? ⟨b, off + k, none⟩ = some (.slice (some ⟨b2, off2, none⟩) s0.length c2) := by rw [hbq.cell hbl, hcw]
          have hj0 : (0 : Int) ≤ (j : Int) := by omega
          have hj1 : (j : Int) < (s0.length : Int) := by omega
          have hcy : wr.cell? ⟨b2, off2 + j, none⟩ = some (.int .i64 s0[j]) := by rw [hbq.cell hbl2, hcells2 j (by rw [ints_length]; omega), ints_get]
          have hd := HD.out s0[j] (List.getElem_mem _)
          have hle2 : pr2.length + (num7 s0[j].toNat).length ≤ 1099511627776 := by
            have h1 := flatMap_take_le (fun d : Int => num7 d.toNat) s0 (j + 1)
            rw [flatMap_take _ s0 j hjl, List.length_append] at h1
            rw [HP2.out]; unfold dimBytes at *; simp only [List.length_append]; omega
          have HF2 : Hid (pre ++ num7 s0.length ++ dimBytes (s0.take (j + 1)) = pr2 ++ num7 s0[j].toNat) := by
            unfold Hid; rw [HP2.out]; unfold dimBytes; rw [flatMap_take _ s0 j hjl]; simp
          generalize s0[j] = d0 at hcy hd hle2 HF2
          obtain ⟨hd0, hd1⟩ := hd
          clear hcells2
          go_wp2_with (first | (go_at_call 42; refine (refNum_any _ _ hd0 hd1).mono ?_; rintro e w2 ⟨v2, rfl, hown2, hb2⟩; have hownr2 := Below.owns hownq hb2; have harr2 := Arr.of_owns hown2; have hsz2 := hb2.size) | (at_builtin; refine app_arr rfl _ _ 33 rfl 5 (.int .u8 0) 1 1 Tryz.underlying33 info_u8 rfl (by decide) _ _ _ _ _ _ _ _ hownr2 harr2 rfl rfl (bts_one _) (by omega) (by omega) (by unfold maxLen; omega) ?_; intro v4 w4 hown4 hg4 _))
          go_roundw
          case rel =>
            refine ⟨j + 1, _, by omega, by go_num, rfl, ?_, (hbq.trans (hb2.mono hszq)).grown hg4 (by omega) (fun j hj => (hownr2.lt j hj).1)⟩
            rw [HF2.out, bts_append, List.length_append]; exact hown4
          case measure => simp [intOf]; omega
        · obtain rfl : j = s0.length := by omega
          go_wp2_with fail
          go_roundw
          case rel => 
            refine ⟨k + 1, _, by omega, by go_num, rfl, ?_, hbq⟩
            rw [HF.out]; rw [HP2.out, List.take_length] at hownq; simpa using hownq
          case measure => simp [intOf]; omega
    · obtain rfl : k = vs.length := by omega
      go_wp2_with fail
      go_ret
      refine ⟨_, rfl, ?_, hbr⟩
      rw [HP.out, List.take_of_length_le (by have := HL.out; omega)] at hownr
      exact hownr
end Go.Proofs.YtjbhgimhcjcpmaaGreatDoor

/-
  THE CONTRACT of twainref19.Encode, of what is a plan.
-/
namespace Go.Proofs.YtjbhgimhcjcpmaaGreatDoor
open Go.RowKit

theorem opNums_flat (o : MOp) : opNums o = [o.kind, o.a, o.b, o.k, o.party].flatMap fun n => num7 n.toNat := by simp [opNums]
/-- The plan's block, and the bytes so far. -/
structure REnc (w : World) (p : MPlan) (v : PVals) (pre : List Nat) (x : Value) (W : World) : Prop where
  st : CSt w p v W
  own : W.ownsRow (w.heap.size + 1) 5 1 x pre.length (bts pre)
theorem REnc.start (w : World) (p : MPlan) (v : PVals) : REnc w p v [84, 87, 78, 1] (.slice (some ⟨w.heap.size + 1, 0, none⟩) 4 4) ((w.alloc (.cells (planArr p v) 30)).alloc (.cells #[.int .u8 84, .int .u8 87, .int .u8 78, .int .u8 1] 5)) := by
  have hS := (show CSt w p v (w.alloc (.cells (planArr p v) 30)) from ⟨heap_alloc_new _ _, (Below.refl _ _).alloc (Nat.le_refl _) _⟩)
  refine ⟨hS.later ((Below.refl _ _).alloc (Nat.le_refl _) _), ?_⟩
  have h := World.ownsRow_lit (w.alloc (.cells (planArr p v) 30)) #[.int .u8 84, .int .u8 87, .int .u8 78, .int .u8 1] (e := 5) (size := 1) 4 (Nat.le_refl _) (by unfold maxLen; omega) rfl
  rw [World.size_alloc] at h
  exact h
theorem REnc.add {w : World} {p : MPlan} {v : PVals} {pre ys : List Nat} {x y : Value} {W w2 w3 : World} (h : REnc w p v pre x W) (hb : Below W.heap.size W w2) (hg : w2.grownBy w3 x.ownBlock)
    (ho : w3.ownsRow (w.heap.size + 1) 5 1 y (pre.length + ys.length) (bts pre ++ bts ys)) : REnc w p v (pre ++ ys) y w3 := by
  have hlt := lt_of_block' h.st.box
  have h1 := h.st.later hb
  refine ⟨⟨(hg.block _ (lt_of_block' h1.box) fun e => ?_).trans h1.box, h1.below.grown hg h1.below.size fun k hk => ?_⟩, by rw [bts_append, List.length_append]; exact ho⟩
  · have := (h.own.lt _ e.symm).1; omega
  · have := (h.own.lt k hk).1; omega

/-- Besides, an operation's block. -/
structure QEnc (w : World) (p : MPlan) (v : PVals) (Bo : Nat) (o : MOp) (pre : List Nat) (x : Value) (W : World) : Prop where
  enc : REnc w p v pre x W
  op : W.heap[Bo]? = some (.cells o.arr 44 (0, 0))
  ne : ∀ k, x.ownBlock = some k → k ≠ Bo
theorem QEnc.add {w : World} {p : MPlan} {v : PVals} {Bo : Nat} {o : MOp} {pre ys : List Nat} {x y : Value} {W w2 w3 : World} (h : QEnc w p v Bo o pre x W) (hb : Below W.heap.size W w2) (hg : w2.grownBy w3 x.ownBlock)
    (ho : w3.ownsRow (w.heap.size + 1) 5 1 y (pre.length + ys.length) (bts pre ++ bts ys)) (hy : y.ownBlock = x.ownBlock ∨ y.ownBlock = some w2.heap.size) : QEnc w p v Bo o (pre ++ ys) y w3 := by
  have h1 := lt_of_block' h.op
  have h2 := (hb.block _ h1).trans h.op
  refine ⟨h.enc.add hb hg ho, (hg.block _ (lt_of_block' h2) fun e => h.ne _ e.symm rfl).trans h2, fun k hk => ?_⟩
  rcases hy with e | e
  · exact h.ne k (e ▸ hk)
  · have := hb.size
    rw [hk] at e
    obtain rfl := Option.some.inj e
    omega

theorem QEnc.start {w : World} {p : MPlan} {v : PVals} {pre : List Nat} {x : Value} {W : World} (h : REnc w p v pre x W) (o : MOp) : QEnc w p v W.heap.size o pre x (W.alloc (.cells o.arr 44)) := by
  have hb := (Below.refl W.heap.size W).alloc (Nat.le_refl _) (.cells o.arr 44)
  refine ⟨⟨h.st.later hb, Below.owns h.own hb⟩, heap_alloc_new _ _, fun k hk => ?_⟩
  have := (h.own.lt k hk).2
  omega
theorem QEnc.six {w : World} {p : MPlan} {v : PVals} {Bo : Nat} {o : MOp} {pre : List Nat} {x : Value} {W : World} (h : QEnc w p v Bo o pre x W) :
    W.cell? ⟨Bo, 0, none⟩ = some (.int .i64 o.kind) ∧ W.cell? ⟨Bo, 1, none⟩ = some (.int .i64 o.a) ∧ W.cell? ⟨Bo, 2, none⟩ = some (.int .i64 o.b) ∧ W.cell? ⟨Bo, 3, none⟩ = some (.int .i64 o.k) ∧ W.cell? ⟨Bo, 4, none⟩ = some (.int .u64 o.c) ∧ W.cell? ⟨Bo, 5, none⟩ = some (.int .i64 o.party) := by
  have := h.op
  refine ⟨?_, ?_, ?_, ?_, ?_, ?_⟩ <;> simp [World.cell?, this, MOp.arr]

theorem refShapes_st (v : Value) (l : List (List Int)) (w : World) (h : ShAt w.heap.size w v l) (hlen : (shBytes l).length ≤ 3000000) {n : Int} (hl1 : (l.length : Int) ≤ n) (hn : n ≤ 4294967295) (hl2 : ∀ s ∈ l, s.length ≤ 2 ∧ ∀ d ∈ s, 1 ≤ d ∧ d ≤ 16) :
    Calls Tryz.prog 43 #[v] w fun e w' => ∃ r, e = .returned r ∧ w'.ownsRow w.heap.size 5 1 r (shBytes l).length (bts (shBytes l)) ∧ Below w.heap.size w w' := by
  obtain ⟨vs, h0, h1, h2⟩ := h
  exact refShapes_any v vs l w h1 h2 (by omega) (by omega) fun s hs => ⟨by have := (hl2 s hs).1; omega, fun d hd => by have := (hl2 s hs).2 d hd; omega⟩

theorem index5 (a b c d e : Int) (w : World) : ∀ (j : Nat) (z : Int), [a, b, c, d, e][j]? = some z → (Instr.index 83 (.agg #[.int .i64 a, .int .i64 b, .int .i64 c, .int .i64 d, .int .i64 e]) (.int .i64 j)).run Tryz.prog w = .ok (.int .i64 z) w
  | 0, z, h => by obtain rfl : a = z := (by simpa using h); kernel_rfl
  | 1, z, h => by obtain rfl : b = z := (by simpa using h); kernel_rfl
  | 2, z, h => by obtain rfl : c = z := (by simpa using h); kernel_rfl
  | 3, z, h => by obtain rfl : d = z := (by simpa using h); kernel_rfl
  | 4, z, h => by obtain rfl : e = z := (by simpa using h); kernel_rfl
  | n + 5, z, h => by simp at h

set_option maxHeartbeats 4000000 in
set_option maxRecDepth 100000 in
theorem refEncode_any (p : MPlan) (v : PVals) (w : World) (h : PlanAt w.heap.size w p v) (hg : mGood p = true) :
    Calls Tryz.prog 13 #[.agg (planArr p v)] w fun e w' => ∃ u, e = .returned u ∧ w'.ownsRow w.heap.size 5 1 u (planBytes p).length (bts (planBytes p)) ∧ Below w.heap.size w w' := by
  have hg0 := hg
  simp only [mGood, Bool.and_eq_true, decide_eq_true_eq, beq_iff_eq] at hg0
  obtain ⟨⟨⟨⟨⟨⟨⟨⟨⟨g0, g1⟩, g2⟩, g3⟩, g4⟩, g5⟩, g6⟩, g7⟩, g8⟩, g9⟩ := hg0
  have HSM := Lib.hid (check_small g3)
  have hck := g3
  simp only [mCheck, Bool.and_eq_true, decide_eq_true_eq] at hck
  obtain ⟨⟨⟨⟨⟨b0, b1⟩, b2⟩, b3⟩, hl⟩, _⟩ := hck
  have hmo := mOuts_le p.ops
  have L0 := Lib.hid (shBytes_len p.in0 _ g1 b0 b1)
  have L1 := Lib.hid (shBytes_len p.in1 _ g2 b2 b3)
  have L2 := Lib.hid (shBytes_len p.shapes _ g9 (by omega) (by omega))
  have S0 := Lib.hid (mTotal_shapes p.in0 _ g1 b0)
  have S1 := Lib.hid (mTotal_shapes p.in1 _ g2 b2)
  have S2 := Lib.hid (mTotal_shapes p.shapes _ g9 (by omega))
  have HLL := Lib.hid (show (num7 p.e0.toNat).length ≤ 100000 ∧ (num7 p.e1.toNat).length ≤ 100000 ∧ (num7 p.ops.length).length ≤ 100000 by
    have a1 := (num7_len p.e0.toNat).2
    have a2 := (num7_len p.e1.toNat).2
    have a3 := (num7_len p.ops.length).2
    omega)
  clear g0 g1 g2 g3 g4 g5 g6 g7 g8 g9 hg
  obtain ⟨vo, vsl, vsh, v0, v1⟩ := v
  obtain ⟨ao, cc, hvo, hcc, hm, hx, hy⟩ := h.ops.open
  simp only at hvo
  subst hvo
  have HY := Lib.hid hy
  have HP := Lib.hid h
  have HS := Lib.hid (REnc.start w p ⟨.slice ao p.ops.length cc, vsl, vsh, v0, v1⟩)
  have c := HS.out.st.six
  simp only at c
  obtain ⟨c0, c1, c2, c13, c14, c15⟩ := c
  simp only [planArr] at c0 c1 c2 c13 c14 c15 ⊢
  have hl0 : (4 : Nat) ≤ 4 := Nat.le_refl _
  clear h hx hm hcc hy
  go_enter Tryz.func13, Tryz.ntmps13
  go_upto_region 2 with fail
  go_wp2_with (first
    | (go_at_call 42; refine (refNum_any _ _ (by omega) (by omega)).mono ?_; rintro e w2 ⟨v2, rfl, hown2, hb2⟩; have ho2 := Below.owns HS.out.own hb2; have ha2 := Arr.of_owns hown2)
    | ((with_reducible show Calls _ _ #[v0] _ _); go_at_call 43; refine (refShapes_st _ p.in0 _ (HP.out.in0.later HS.out.st.below HS.out.st.below.size) L0.out S0.out.1 (by omega) S0.out.2).mono ?_; rintro e w2 ⟨v2, rfl, hown2, hb2⟩; have ho2 := Below.owns HS.out.own hb2; have ha2 := Arr.of_owns hown2)
    | ((with_reducible show Calls _ _ #[v1] _ _); go_at_call 43; refine (refShapes_st _ p.in1 _ (HP.out.in1.later HS.out.st.below HS.out.st.below.size) L1.out S1.out.1 (by omega) S1.out.2).mono ?_; rintro e w2 ⟨v2, rfl, hown2, hb2⟩; have ho2 := Below.owns HS.out.own hb2; have ha2 := Arr.of_owns hown2)
    | ((with_reducible show Calls _ _ #[vsh] _ _); go_at_call 43; refine (refShapes_st _ p.shapes _ (HP.out.shapes.later HS.out.st.below HS.out.st.below.size) L2.out S2.out.1 (by omega) S2.out.2).mono ?_; rintro e w2 ⟨v2, rfl, hown2, hb2⟩; have ho2 := Below.owns HS.out.own hb2; have ha2 := Arr.of_owns hown2)
    | (at_builtin; go_must (refine app_arr rfl _ _ 33 rfl 5 (.int .u8 0) 1 1 Tryz.underlying33 info_u8 rfl (by decide) _ _ _ _ _ _ _ _ ho2 ha2 rfl rfl (bts_one _) (Nat.le_trans (Nat.succ_le_of_lt HS.out.st.lt) hb2.size) (by have := HLL.out; have := L0.out; have := L1.out; have := L2.out; simp only [List.length_append, List.length_cons, List.length_nil, Int.toNat_natCast]; omega) (by have := HLL.out; have := L0.out; have := L1.out; have := L2.out; unfold maxLen; simp only [List.length_append, List.length_cons, List.length_nil, Int.toNat_natCast]; omega) ?_; intro v3 w3 hown3 hg3 _; have HS := Lib.hid (HS.out.add hb2 hg3 hown3); have c := HS.out.st.six; simp only at c; obtain ⟨c0, c1, c2, c13, c14, c15⟩ := c; clear ho2 ha2 hown2 hb2 hown3 hg3)))
  have HPR := Lib.hid (show [84, 87, 78, 1] ++ num7 p.e0.toNat ++ num7 p.e1.toNat ++ shBytes p.in0 ++ shBytes p.in1 ++ shBytes p.shapes ++ num7 (p.ops.length : Int).toNat = headBytes p by simp [headBytes, flat])
  rw [HPR.out] at HS
  clear HPR
  have HBD := Lib.hid (show ∀ k, (headBytes p ++ (p.ops.take k).flatMap opBytes).length ≤ 10000000000 by
    intro k
    have h3 := flatMap_len_le opBytes 400000 (p.ops.take k) fun x hx => opBytes_len x (HSM.out x (List.mem_of_mem_take hx))
    rw [List.length_take] at h3
    have := HLL.out; have := L0.out; have := L1.out; have := L2.out
    simp only [headBytes, flat, List.length_append, List.length_cons, List.length_nil, List.flatten_cons, List.flatten_nil]
    have h5 : min k p.ops.length * 400000 ≤ 16384 * 400000 := Nat.mul_le_mul_right _ (by omega)
    omega)
  clear c0 c1 c2 c13 c14 c15
  go_loopg [3, 47] p.ops.length (fun g x i wr => ∃ (k : Nat) (pre : List Nat), k ≤ p.ops.length ∧ g = p.ops.length - k ∧ i = .int .i64 k ∧ Hid (pre = headBytes p ++ (p.ops.take k).flatMap opBytes) ∧ Hid (REnc w p ⟨.slice ao p.ops.length cc, vsl, vsh, v0, v1⟩ pre x wr))
  case atStart => exact ⟨0, headBytes p, Nat.zero_le _, rfl, rfl, (by unfold Hid; simp), HS⟩
  case round =>
    obtain ⟨k, pre, hk, hg, rfl, HPR, HR⟩ := hrel
    clear HS
    by_cases hkl : k < p.ops.length
    · obtain ⟨b, off, rfl, hbl, hcells⟩ := HY.out (by omega)
      obtain ⟨c0, c1, c2, c3, c4, c5⟩ := op_cells hcells HR.out.st.below hbl rfl k hkl
      have hos := HSM.out p.ops[k] (List.getElem_mem _)
      have hoc64 := Lib.hid (HP.out.hc p.ops[k] (List.getElem_mem _))
      have HT := Lib.hid (flatMap_take opBytes p.ops k hkl)
      generalize p.ops[k] = o at c0 c1 c2 c3 c4 c5 HT hos hoc64
      obtain ⟨d0, _⟩ := HR.out.st.six
      simp only at d0
      clear hcells
      go_upto_region 12 with fail
      have HQ := Lib.hid (QEnc.start HR.out o)
      have hop8 := hoc64
      have d := HQ.out.six
      simp only [MOp.arr] at d
      obtain ⟨d0, d1, d2, d3, d4, d5⟩ := d
      have HBO := Lib.hid (show pre.length + (opNums o).length + 8 ≤ 10000000000 by
        have h1 := HBD.out (k + 1)
        rw [HT.out] at h1
        have h2 := congrArg List.length HPR.out
        have h8 : (le8 o.c).length = 8 := by simp [le8]
        simp only [List.length_append, opBytes, h8] at h1 h2
        omega)
      obtain ⟨wo, rfl⟩ : ∃ wo : World, wo = wr := ⟨_, rfl⟩
      clear c0 c1 c2 c3 c4 c5 HBD HR
      go_wp2_with fail
      clear d0 d1 d2 d3 d4 d5
      go_loopg [3, 66] 5 (fun g x i wq => ∃ (j : Nat) (pr2 : List Nat), j ≤ 5 ∧ g = 5 - j ∧ i = .int .i64 j ∧ Hid (pr2 = pre ++ ([o.kind, o.a, o.b, o.k, o.party].take j).flatMap fun n => num7 n.toNat) ∧ Hid (QEnc w p ⟨.slice (some ⟨b, off, none⟩) p.ops.length cc, vsl, vsh, v0, v1⟩ wo.heap.size o pr2 x wq))
      case atStart => exact ⟨0, pre, Nat.zero_le _, rfl, rfl, (by unfold Hid; simp), HQ⟩
      case round =>
        obtain ⟨j, pr2, hj, hg2, rfl, HP2, HQ2⟩ := hrel
        clear HQ
        by_cases hj5 : j < 5
        · have hz : ∃ z : Int, [o.kind, o.a, o.b, o.k, o.party][j]? = some z ∧ 0 ≤ z ∧ z ≤ 4294967295 := by
            obtain ⟨h1, h2, h3, h4, h5⟩ := hos
            rcases (show j = 0 ∨ j = 1 ∨ j = 2 ∨ j = 3 ∨ j = 4 by omega) with rfl | rfl | rfl | rfl | rfl
            · exact ⟨o.kind, rfl, by omega, by omega⟩
            · exact ⟨o.a, rfl, by omega, by omega⟩
            · exact ⟨o.b, rfl, by omega, by omega⟩
            · exact ⟨o.k, rfl, by omega, by omega⟩
            · exact ⟨o.party, rfl, by omega, by omega⟩
          obtain ⟨z, hz1, hz2, hz3⟩ := hz
          have HT2 := Lib.hid (show pre ++ (([o.kind, o.a, o.b, o.k, o.party].take (j + 1)).flatMap fun n => num7 n.toNat) = pr2 ++ num7 z.toNat by
            rw [HP2.out, List.take_add_one, hz1, List.flatMap_append]; simp)
          have HL2 := Lib.hid (show pr2.length + (num7 z.toNat).length ≤ 10000000000 by
            have h1 := congrArg List.length HT2.out
            have h2 := HBO.out
            rw [opNums_flat] at h2
            have h3 : ((([o.kind, o.a, o.b, o.k, o.party].take (j + 1)).flatMap fun n => num7 n.toNat)).length ≤ (([o.kind, o.a, o.b, o.k, o.party]).flatMap fun n => num7 n.toNat).length := flatMap_take_le _ _ _
            simp only [List.length_append] at h1
            omega)
          have hix := index5 o.kind o.a o.b o.k o.party wr j z hz1
          go_wp2_with (first
            | (go_at_call 42; refine (refNum_any z _ hz2 hz3).mono ?_; rintro e w2 ⟨v2, rfl, hown2, hb2⟩; have ho2 := Below.owns HQ2.out.enc.own hb2; have ha2 := Arr.of_owns hown2)
            | (at_builtin; go_must (refine app_arr rfl _ _ 33 rfl 5 (.int .u8 0) 1 1 Tryz.underlying33 info_u8 rfl (by decide) _ _ _ _ _ _ _ _ ho2 ha2 rfl rfl (bts_one _) (Nat.le_trans (Nat.succ_le_of_lt HQ2.out.enc.st.lt) hb2.size) (by have := HL2.out; omega) (by have := HL2.out; unfold maxLen; omega) ?_; intro v3 w3 hown3 hg3 hy3)))
          go_roundg (5 - (j + 1))
          case measure => omega
          case rel => exact ⟨j + 1, _, by omega, rfl, by go_num, HT2.out.symm ▸ rfl, HQ2.out.add hb2 hg3 hown3 hy3⟩
        · obtain rfl : j = 5 := by omega
          have HQ3 := Lib.hid (show QEnc w p ⟨.slice (some ⟨b, off, none⟩) p.ops.length cc, vsl, vsh, v0, v1⟩ wo.heap.size o (pre ++ opNums o) u3 wr by
            have h := HQ2.out
            rw [HP2.out] at h
            rw [opNums_flat]
            exact h)
          obtain ⟨_, _, _, _, d4, _⟩ := HQ3.out.six
          have hoc := hop8.out
          have h8 : (le8 o.c).length = 8 := by simp [le8]
          go_wp2_with (first
            | (go_at_call 44; refine (eight_any o.c _ hoc).mono ?_; rintro e w2 ⟨v2, rfl, hown2, hb2⟩; have ho2 := Below.owns HQ3.out.enc.own hb2; have ha2 := Arr.of_owns hown2)
            | (at_builtin; go_must (refine app_arr rfl _ _ 33 rfl 5 (.int .u8 0) 1 1 Tryz.underlying33 info_u8 rfl (by decide) _ _ _ _ _ _ _ _ ho2 ha2 rfl rfl (bts_one _) (Nat.le_trans (Nat.succ_le_of_lt HQ3.out.enc.st.lt) hb2.size) (by have := HBO.out; rw [List.length_append]; omega) (by have := HBO.out; unfold maxLen; rw [List.length_append]; omega) ?_; intro v3 w3 hown3 hg3 hy3)))
          go_roundg (p.ops.length - (k + 1))
          case measure => omega
          case rel =>
            refine ⟨k + 1, pre ++ opNums o ++ le8 o.c, by omega, rfl, by go_num, ?_, HQ3.out.enc.add hb2 hg3 hown3⟩
            unfold Hid; rw [HT.out, HPR.out]; simp [opBytes]
    · obtain rfl : k = p.ops.length := by omega
      go_wp2_with fail
      go_ret
      refine ⟨_, rfl, ?_, HR.out.st.below⟩
      have h := owns_base (base' := w.heap.size) HR.out.own (by omega)
      rw [HPR.out, List.take_length] at h
      exact h
end Go.Proofs.YtjbhgimhcjcpmaaGreatDoor
