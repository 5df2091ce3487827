/-
  THE CONTRACT of twainref18.Last, of what is a program.
-/
import Derived.Test.YtjbhgimhcjcpmaaGreatDoorMRefRounds
import Derived.Test.YtjbhgimhcjcpmaaGreatDoorMRefTotal
import Derived.Test.YtjbhgimhcjcpmaaGreatDoorMSlots
import Derived.Test.YtjbhgimhcjcpmaaGreatDoorMSort2
set_option linter.unusedSimpArgs false
set_option linter.unusedVariables false
namespace Go.Proofs.YtjbhgimhcjcpmaaGreatDoor
open Go.RowKit

theorem wantsL_rule {o : MOp} {e0 e1 : Int} (h : (mRule o e0 e1).2 = true) : mWantsL o = (if (mRule o e0 e1).1.a = 0 then [] else [o.a]) ++ (if (mRule o e0 e1).1.b = 0 then [] else [o.b]) := by
  obtain ⟨kind, a, b, k, c, party⟩ := o
  by_cases h1 : kind = 1
  · subst h1
    have hr : mRule ⟨1, a, b, k, c, party⟩ e0 e1 = mInRule party e0 e1 := rfl
    have ha : (mInRule party e0 e1).1.a = 0 := by unfold mInRule; repeat' split
                                                  all_goals rfl
    have hb : (mInRule party e0 e1).1.b = 0 := by unfold mInRule; repeat' split
                                                  all_goals rfl
    rw [hr, ha, hb]; rfl
  by_cases h17 : kind = 17
  · subst h17
    have hr : mRule ⟨17, a, b, k, c, party⟩ e0 e1 = mGarbRule k c := rfl
    rw [hr] at h ⊢
    have hf : ∀ c, mFormOf c ≠ 0 := by intro c; unfold mFormOf; split <;> decide
    unfold mGarbRule at h ⊢
    split at h
    · rename_i hc
      rw [if_pos hc]
      by_cases hk : k = 1 <;> simp [mWantsL, hk, hf]
    · simp at h
  · have hr : mRule ⟨kind, a, b, k, c, party⟩ e0 e1 = tabRule kind := by simp [mRule, h1, h17]
    rw [hr] at h ⊢
    rcases tabRule_known _ h with h | h | h | h | h | h | h | h | h | h | h | h | h | h | h | h | h <;> subst h <;> rfl
theorem rWanted_sub {o : MOp} (h : (mRule o 65536 65536).2 = true) (x : Int) (hx : x ∈ rWanted o) : x ∈ mWantsL o := by
  rw [wantsL_rule h]
  unfold rWanted at hx
  rw [wants_rule h] at hx
  simp only [List.mem_append] at hx ⊢
  rcases hx with hx | hx
  · exact .inl hx
  · refine .inr ?_
    split at hx
    · rename_i hc; rw [if_neg hc.1]; exact hx
    · cases hx
theorem rWanted_len (o : MOp) : (rWanted o).length ≤ 2 := by unfold rWanted; split <;> split <;> simp
theorem rWanted_fold {o : MOp} (h : (mRule o 65536 65536).2 = true) (k : Int) (L : List Int) : (rWanted o).foldl (fun L a => L.set a.toNat k) L = (mWantsL o).foldl (fun L a => L.set a.toNat k) L := by
  rw [wantsL_rule h]
  unfold rWanted
  rw [wants_rule h]
  have hab := rule_ab o 65536 65536
  generalize (mRule o 65536 65536).1 = r at hab ⊢
  simp only
  by_cases ha : r.a = 0
  · have hb : r.b = 0 := Classical.byContradiction fun hh => hab hh ha
    simp [ha, hb]
  · by_cases hb : r.b = 0
    · simp [ha, hb]
    · by_cases he : o.a = o.b
      · simp [ha, hb, he]
      · simp [ha, hb, he]

set_option maxHeartbeats 8000000 in
set_option maxRecDepth 100000 in
theorem refLast_any (v : Value) (ops : List MOp) (w : World) (h : mCheck ops 65536 65536 = true) (hv : Arr w.heap.size w 6 v ops.length (ocells ops)) :
    Calls Tryz.prog 75 #[v] w fun e w' => ∃ u, e = .returned u ∧ w'.ownsRow w.heap.size 3 1 u ops.length (ints (mLast ops)) ∧ Below w.heap.size w w' := by
  have hl : ops.length ≤ 16384 := by simp only [mCheck, Bool.and_eq_true, decide_eq_true_eq] at h; exact h.1.2
  have hpl := fun k (hk : k < ops.length) x hx => places_ahead h k hk x (rWanted_sub (check_rules h k hk) x hx)
  have hfd := fun k (hk : k < ops.length) z L => rWanted_fold (check_rules h k hk) z L
  obtain ⟨ao, cc, rfl, hcc, hm, hx, hy⟩ := hv.open
  obtain ⟨i0, hi0, hz0, hs0, hb0⟩ := info_parts info_int
  have HY := Lib.hid hy
  have HPL := Lib.hid hpl
  have HFD := Lib.hid hfd
  have hmk0 := fun (w : World) => run_make (P := Tryz.prog) w 24 3 i0 (.int .i64 0) Tryz.underlying24 hi0 hz0 .i64 .i64 ops.length ops.length (by omega) (by omega) (by rw [hb0]; omega) (by omega)
  have hmk : ∀ (w : World), (Instr.makeSlice 24 (.int .i64 ops.length) (.int .i64 ops.length)).run Tryz.prog w = .ok (.slice (some ⟨w.heap.size, 0, none⟩) ops.length ops.length) (w.alloc (.cells (ints (List.replicate ops.length 0)).toArray 3)) := by
    intro w
    have := hmk0 w
    rw [hs0, Int.toNat_natCast, Nat.mul_one, made_zero] at this
    exact this
  clear hv h hx hy hm hpl hmk0 hi0 hz0 hs0 hb0 hfd
  go_enter Tryz.func75, Tryz.ntmps75
  go_wp2_with fail
  have hbl0 : w.heap.size ≤ w.heap.size := Nat.le_refl _
  have HL0 := Lib.hid (heap_alloc_new w (.cells (ints (List.replicate ops.length 0)).toArray 3))
  have HB2 := Lib.hid ((Below.refl w.heap.size w).alloc hbl0 (.cells (ints (List.replicate ops.length 0)).toArray 3))
  obtain ⟨bl, hbl⟩ : ∃ bl, w.heap.size = bl := ⟨_, rfl⟩
  generalize w.alloc (.cells (ints (List.replicate ops.length 0)).toArray 3) = W1 at HL0 HB2 ⊢
  rw [hbl] at HL0 hbl0 ⊢
  have hbl1 : w.heap.size ≤ bl := by omega
  go_loopg [12] ops.length (fun g i wr => ∃ (k : Nat) (L : List Int), k ≤ ops.length ∧ g = ops.length - k ∧ i = .int .i64 k ∧ Hid (L.length = ops.length) ∧ Hid (lastGo (ops.drop k) k L = mLast ops) ∧ Hid (wr.heap[bl]? = some (.cells (ints L).toArray 3 (0, 0))) ∧ Hid (Below w.heap.size w wr))
  case atStart => exact ⟨0, _, Nat.zero_le _, rfl, rfl, by simp [Hid], rfl, HL0.out, HB2.out⟩
  case round =>
    obtain ⟨k, L, hk, hg, rfl, HLL, HLG, HLB, HB⟩ := hrel
    clear HL0 HB2
    by_cases hkl : k < ops.length
    · obtain ⟨b, off, rfl, hbl2, hcells⟩ := HY.out (by omega)
      obtain ⟨c0, c1, c2, c3, c4, c5⟩ := op_cells hcells HB.out hbl2 rfl k hkl
      have HD := Lib.hid (List.drop_eq_getElem_cons hkl)
      have HP := Lib.hid (HPL.out k hkl)
      have HF := Lib.hid (HFD.out k hkl)
      have hcs := fun (W : World) (hb : Below w.heap.size w W) => op_cells hcells hb hbl2 rfl k hkl
      generalize ops[k] = o at c0 c1 c2 c3 c4 c5 HD HP HF hcs
      have HCS := Lib.hid hcs
      obtain ⟨x1, x2⟩ := row_at HLB.out k (by have := HLL.out; omega)
      have hlt := lt_of_block' HLB.out
      clear hcells hcs
      have h3 : (0 : Int) ≤ (k : Int) := by omega
      have h4 : (k : Int) < (ops.length : Int) := by omega
      go_upto_region 6 with fail
      have HBS := Lib.hid (HB.out.setCell (p := ⟨bl, k, none⟩) hbl1 (.int .i64 k))
      have HLS := Lib.hid (row_set HLB.out k k)
      have hsx : (wr.setCell ⟨bl, k, none⟩ (.int .i64 k)).heap.size = wr.heap.size := by simp
      clear x1 x2 c0 c1 c2 c3 c4 c5
      generalize wr.setCell ⟨bl, k, none⟩ (.int .i64 k) = W3 at HBS HLS hsx ⊢
      obtain ⟨c0, c1, c2, c3, c4, c5⟩ := HCS.out W3 HBS.out
      go_wp2_with (go_at_call 104; go_must (refine (refWanted_any o _).mono ?_; unfold RetInts; rintro e w2 ⟨v2, rfl, hown2, hb2⟩; obtain ⟨ao2, cc2, rfl, hcc2, hy2⟩ := own_open hown2; have HY2 := Lib.hid hy2; have HB2 := Lib.hid hb2; clear hy2 hown2 hb2))
      have HL2 := Lib.hid ((HB2.out.block bl (by rw [hsx]; exact hlt)).trans HLS.out)
      have HBW2 := Lib.hid (HBS.out.trans (HB2.out.mono HBS.out.size))
      have hge : ∀ (g : Nat), W3.heap.size ≤ g → bl < g := fun g hg => by rw [hsx] at hg; omega
      have HGE := Lib.hid hge
      have hLk : (L.set k (k : Int)).length = ops.length := by simp; exact HLL.out
      have HLK := Lib.hid hLk
      obtain ⟨L1, hL1⟩ : ∃ L1, L.set k (k : Int) = L1 := ⟨_, rfl⟩
      rw [hL1] at HL2 HLK
      have HL1 := Lib.hid hL1
      obtain ⟨q, hq⟩ : ∃ q, rWanted o = q := ⟨_, rfl⟩
      rw [hq] at HY2 hcc2 HP ⊢
      have HQ := Lib.hid hq
      have hq2 : q.length ≤ 2 := by rw [← hq]; exact rWanted_len o
      clear hge hLk hL1 hq c0 c1 c2 c3 c4 c5 HLS hsx
      go_loopg [26] q.length (fun g i wq => ∃ (j : Nat) (M : List Int), j ≤ q.length ∧ g = q.length - j ∧ i = .int .i64 j ∧ Hid (M = (q.take j).foldl (fun L a => L.set a.toNat k) L1) ∧ Hid (M.length = ops.length) ∧ Hid (wq.heap[bl]? = some (.cells (ints M).toArray 3 (0, 0))) ∧ Hid (∀ b, b ≠ bl → wq.heap[b]? = w2.heap[b]?) ∧ Hid (Below w.heap.size w wq))
      case atStart => exact ⟨0, L1, Nat.zero_le _, rfl, rfl, rfl, HLK.out, HL2.out, fun _ _ => rfl, HBW2.out⟩
      case round =>
        obtain ⟨j, M, hj, hgj, rfl, HM, HML, HMB, HFR, HBQ⟩ := hrel
        by_cases hjl : j < q.length
        · obtain ⟨g2, rfl, hg2, hg3, hc2⟩ := HY2.out (by omega)
          have hgl := HGE.out g2 hg2
          have hpj := HP.out q[j] (List.getElem_mem _)
          have hcx : wr.cell? ⟨g2, j, none⟩ = some (.int .i64 q[j]) := by
            have h1 := hc2 j (by omega)
            rw [ints_get q j hjl] at h1
            simp only [World.cell?] at h1 ⊢
            rw [HFR.out g2 (by omega)]; exact h1
          have HT := Lib.hid (show (q.take (j + 1)).foldl (fun L a => L.set a.toNat (k : Int)) L1 = M.set q[j].toNat k by rw [List.take_succ_eq_append_getElem hjl, List.foldl_append, ← HM.out]; rfl)
          generalize q[j] = a at hcx hpj HT
          obtain ⟨hp0, hp1⟩ := hpj
          obtain ⟨ja, rfl⟩ := Int.eq_ofNat_of_zero_le hp0
          have hjM : ja < M.length := by have := HML.out; omega
          obtain ⟨y1, y2⟩ := row_at HMB.out ja hjM
          have hjn : ja < ops.length := by have := HML.out; omega
          rw [Int.toNat_natCast] at HT
          clear hc2 hg2 hg3 hp0
          as_aux_lemma =>
            go_wp2_with fail
            go_roundg (q.length - (j + 1))
            case measure => omega
            case rel =>
              refine ⟨j + 1, _, by omega, rfl, by go_num, HT.out.symm, by simp [Hid]; exact HML.out, row_set HMB.out ja k, fun b hb => (heap_setCell_other' hb _).trans (HFR.out b hb), HBQ.out.setCell (p := ⟨bl, ja, none⟩) hbl1 _⟩
        · obtain rfl : j = q.length := by omega
          have HMM := Lib.hid (show M = lastStep L k o by rw [HM.out, List.take_length, lastStep, ← HF.out, HQ.out, HL1.out])
          as_aux_lemma =>
            go_wp2_with fail
            go_roundg (ops.length - (k + 1))
            case measure => omega
            case rel =>
              refine ⟨k + 1, M, by omega, rfl, by go_num, HML.out, ?_, HMB.out, HBQ.out⟩
              unfold Hid
              rw [← HLG.out, HD.out, lastGo, HMM.out]
    · obtain rfl : k = ops.length := by omega
      have HLA := Lib.hid (show L = mLast ops by rw [← HLG.out, List.drop_length, lastGo])
      have HLE := Lib.hid (mLast_len ops)
      rw [HLA.out] at HLB
      go_wp2_with fail
      go_ret
      refine ⟨_, rfl, ?_, HB.out⟩
      exact ⟨by simp [ints]; exact HLE.out, .inr ⟨bl, _, _, rfl, hbl1, HLB.out, Nat.le_refl _, by unfold maxLen; omega, by simp [ints]; exact HLE.out, List.take_of_length_le (by have := HLE.out; simp [ints]; omega)⟩⟩
end Go.Proofs.YtjbhgimhcjcpmaaGreatDoor

/-
  THE CONTRACT of twainref18.Slots, of what is a program.
-/
namespace Go.Proofs.YtjbhgimhcjcpmaaGreatDoor
open Go.RowKit

/-- The slots of the first k words that are wanted behind place i. -/
def takenTo (last slots : List Int) (i : Nat) : Nat → List Int
  | 0 => []
  | k + 1 => takenTo last slots i k ++ (if (i : Int) < last.getD k 0 then [slots.getD k 0] else [])
theorem takenTo_len (last slots : List Int) (i k : Nat) : (takenTo last slots i k).length ≤ k := by
  induction k with
  | zero => simp [takenTo]
  | succ k ih => simp only [takenTo, List.length_append]; split <;> simp <;> omega
theorem takenTo_app (last slots : List Int) (x : Int) (i : Nat) : ∀ k, k ≤ slots.length → takenTo last (slots ++ [x]) i k = takenTo last slots i k
  | 0, _ => rfl
  | k + 1, h => by
    have e : (slots ++ [x]).getD k 0 = slots.getD k 0 := by simp only [List.getD]; rw [List.getElem?_append_left (by omega)]
    rw [takenTo, takenTo, takenTo_app last slots x i k (by omega), e]
/-- The lowest number that isn't in the list. -/
def IsLow (l : List Int) (s : Nat) : Prop := (∀ j, j < s → (j : Int) ∈ l) ∧ (s : Int) ∉ l
theorem all_in_len (l : List Int) (n : Nat) (h : ∀ j, j < n → (j : Int) ∈ l) : n ≤ l.length := by
  have h1 : ∀ m, m ≤ n → m ≤ sumTo (fun j => l.count (j : Int)) m := by
    intro m hm
    induction m with
    | zero => exact Nat.zero_le _
    | succ m ih =>
      have := ih (by omega)
      have := List.count_pos_iff.2 (h m (by omega))
      simp only [sumTo]; omega
  have h2 := h1 n (Nat.le_refl _)
  rw [count_sum] at h2
  exact Nat.le_trans h2 (List.length_filter_le _ _)
def snoc1 (l : List Int) : List Int := l.map (· + 1)
/-- The slots of the first n words, by definition; the arena. -/
def RSl (last : List Int) (n : Nat) (slots : List Int) (arena : Int) : Prop :=
  slots.length = n ∧ (∀ i, i < n → ∃ s : Nat, slots.getD i 0 = (s : Int) ∧ s ≤ i ∧ IsLow (takenTo last slots i i) s) ∧ arena = maxOf (snoc1 slots) ∧ 0 ≤ arena ∧ arena ≤ n
theorem RSl.next {last : List Int} {n : Nat} {slots : List Int} {arena : Int} (h : RSl last n slots arena) (s : Nat) (hs : IsLow (takenTo last slots n n) s) (hsn : s ≤ n) : RSl last (n + 1) (slots ++ [(s : Int)]) (max arena ((s : Int) + 1)) := by
  obtain ⟨h1, h2, h3, h4, h5⟩ := h
  refine ⟨by simp [h1], fun i hi => ?_, by rw [h3]; simp [snoc1, maxOf], by omega, by omega⟩
  by_cases hin : i < n
  · obtain ⟨s', a, b, c⟩ := h2 i hin
    refine ⟨s', ?_, b, by rw [takenTo_app _ _ _ _ _ (by omega)]; exact c⟩
    rw [← a]; simp only [List.getD]; rw [List.getElem?_append_left (by omega)]
  · obtain rfl : i = n := by omega
    refine ⟨s, ?_, hsn, by rw [takenTo_app _ _ _ _ _ (by omega)]; exact hs⟩
    simp only [List.getD]
    rw [← h1, List.getElem?_append_right (Nat.le_refl _), Nat.sub_self]; rfl

/-- The last wants, the slots so far. -/
structure TSt (w : World) (B1 : Nat) (last : List Int) (u : Value) (slots : List Int) (x : Value) (W : World) : Prop where
  last : W.ownsRow w.heap.size 3 1 u last.length (ints last)
  lt : ∀ j, u.ownBlock = some j → j < B1
  slots : W.ownsRow B1 3 1 x slots.length (ints slots)
  ge : w.heap.size ≤ B1
  below : Below w.heap.size w W
theorem TSt.addS {w : World} {B1 : Nat} {last : List Int} {u : Value} {slots : List Int} {x y : Value} {W W1 : World} {z : Int} (h : TSt w B1 last u slots x W) (hg : W.grownBy W1 x.ownBlock) (ho : W1.ownsRow B1 3 1 y (slots.length + 1) (ints slots ++ [.int .i64 z])) : TSt w B1 last u (slots ++ [z]) y W1 :=
  ⟨own_keep9 h.last fun j hj => hg.block j (h.last.lt j hj).2 fun e => by have := h.lt j hj; have := (h.slots.lt j e.symm).1; omega, h.lt, by rw [List.length_append]; simpa [ints] using ho, h.ge, h.below.grown hg h.below.size fun j hj => by have := (h.slots.lt j hj).1; have := h.ge; omega⟩
theorem TSt.later {w : World} {B1 : Nat} {last : List Int} {u : Value} {slots : List Int} {x : Value} {W W1 : World} (h : TSt w B1 last u slots x W) (hb : Below W.heap.size W W1) : TSt w B1 last u slots x W1 :=
  ⟨Below.owns h.last hb, h.lt, Below.owns h.slots hb, h.ge, h.below.trans (hb.mono h.below.size)⟩
/-- Besides, what is taken. -/
structure USt (w : World) (B1 : Nat) (last : List Int) (u : Value) (slots : List Int) (x : Value) (B2 : Nat) (taken : List Int) (t : Value) (W : World) : Prop where
  st : TSt w B1 last u slots x W
  lt : ∀ j, x.ownBlock = some j → j < B2
  taken : W.ownsRow B2 3 1 t taken.length (ints taken)
  ge : B1 ≤ B2
theorem USt.start {w : World} {B1 : Nat} {last : List Int} {u : Value} {slots : List Int} {x : Value} {W : World} (h : TSt w B1 last u slots x W) (hB : B1 ≤ W.heap.size) : USt w B1 last u slots x W.heap.size [] (.slice none 0 0) W := ⟨h, fun j hj => (h.slots.lt j hj).2, World.ownsRow_nil _ _ _ _, hB⟩
theorem USt.add {w : World} {B1 : Nat} {last : List Int} {u : Value} {slots : List Int} {x : Value} {B2 : Nat} {taken : List Int} {t y : Value} {W W1 : World} {z : Int} (h : USt w B1 last u slots x B2 taken t W) (hg : W.grownBy W1 t.ownBlock) (ho : W1.ownsRow B2 3 1 y (taken.length + 1) (ints taken ++ [.int .i64 z])) : USt w B1 last u slots x B2 (taken ++ [z]) y W1 :=
  ⟨⟨own_keep9 h.st.last fun j hj => hg.block j (h.st.last.lt j hj).2 fun e => by have := h.st.lt j hj; have := (h.taken.lt j e.symm).1; have := h.ge; omega, h.st.lt, own_keep9 h.st.slots fun j hj => hg.block j (h.st.slots.lt j hj).2 fun e => by have := h.lt j hj; have := (h.taken.lt j e.symm).1; omega, h.st.ge,
    h.st.below.grown hg h.st.below.size fun j hj => by have := (h.taken.lt j hj).1; have := h.ge; have := h.st.ge; omega⟩, h.lt, by rw [List.length_append]; simpa [ints] using ho, h.ge⟩

set_option maxHeartbeats 8000000 in
set_option maxRecDepth 100000 in
theorem refSlots_any (v : Value) (ops : List MOp) (w : World) (h : mCheck ops 65536 65536 = true) (hv : Arr w.heap.size w 6 v ops.length (ocells ops)) :
    Calls Tryz.prog 39 #[v] w fun e w' => ∃ (u : Value) (slots : List Int) (arena : Int), e = .returned (.tuple #[u, .int .i64 arena]) ∧ RSl (mLast ops) ops.length slots arena ∧ w'.ownsRow w.heap.size 3 1 u slots.length (ints slots) ∧ Below w.heap.size w w' := by
  have hl : ops.length ≤ 16384 := by simp only [mCheck, Bool.and_eq_true, decide_eq_true_eq] at h; exact h.1.2
  obtain ⟨ao, cc, rfl, hcc, hm, hx, hy⟩ := hv.open
  have HV := Lib.hid hv
  have HH := Lib.hid h
  obtain ⟨last, hlast⟩ : ∃ last, mLast ops = last := ⟨_, rfl⟩
  have hll : last.length = ops.length := by rw [← hlast]; exact mLast_len ops
  rw [hlast]
  have HLL := Lib.hid hll
  clear hll
  have HLA := Lib.hid hlast
  clear hv h hx hy hm hlast
  go_enter Tryz.func39, Tryz.ntmps39
  go_upto_region 2 with (go_at_call 75; go_must (refine (refLast_any _ ops _ HH.out HV.out).mono ?_; rw [HLA.out]; rintro e w1 ⟨u, rfl, hown1, hb1⟩; replace hown1 : w1.ownsRow w.heap.size 3 1 u last.length (ints last) := (by rw [HLL.out]; exact hown1); have HS0 := Lib.hid (show TSt w w1.heap.size last u [] (.slice none 0 0) w1 from ⟨hown1, fun j hj => (hown1.lt j hj).2, World.ownsRow_nil _ _ _ _, hb1.size, hb1⟩); have hsz := hb1.size; clear hb1 hown1))
  generalize hB1 : w1.heap.size = B1 at HS0
  have HB1 := Lib.hid (show B1 ≤ w1.heap.size by omega)
  clear hB1
  go_wp2_with fail
  go_loopg [5, 6, 15] ops.length (fun g x av iv wr => ∃ (i : Nat) (slots : List Int) (arena : Int), i ≤ ops.length ∧ g = ops.length - i ∧ iv = .int .i64 i ∧ av = .int .i64 arena ∧ Hid (RSl last i slots arena) ∧ Hid (TSt w B1 last u slots x wr) ∧ Hid (B1 ≤ wr.heap.size))
  case atStart => exact ⟨0, [], 0, Nat.zero_le _, rfl, rfl, rfl, Lib.hid ⟨rfl, fun i hi => absurd hi (Nat.not_lt_zero _), rfl, by omega, by omega⟩, HS0, HB1⟩
  case round =>
    clear HS0 HB1
    obtain ⟨i, slots, arena, hi, hg, rfl, rfl, HR, HS, HB⟩ := hrel
    by_cases hil : i < ops.length
    · have hsl : slots.length = i := HR.out.1
      have HSL := Lib.hid hsl
      have HU0 := Lib.hid (USt.start HS.out HB.out)
      generalize hB2 : wr.heap.size = B2 at HU0
      have HB2 := Lib.hid (show B2 ≤ wr.heap.size by omega)
      clear hB2 hsl
      obtain ⟨gl, cl, rfl, hgl1, hgl2⟩ := HS.out.last.form (by have := HLL.out; omega)
      have h30 : (0 : Int) ≤ (i : Int) := by omega
      go_wp2_with fail
      go_loopg [8, 9] i (fun g t kv w2 => ∃ k : Nat, k ≤ i ∧ g = i - k ∧ kv = .int .i64 k ∧ Hid (USt w B1 last (.slice (some ⟨gl, 0, none⟩) last.length cl) slots u5 B2 (takenTo last slots i k) t w2) ∧ Hid (B2 ≤ w2.heap.size))
      case atStart => exact ⟨0, Nat.zero_le _, rfl, rfl, HU0, HB2⟩
      case round =>
        clear HU0 HB2 HS
        obtain ⟨k, hk, hg2, rfl, HU, HB2⟩ := hrel
        by_cases hki : k < i
        · have hlk : k < last.length := by have := HLL.out; omega
          have h3 : (0 : Int) ≤ (k : Int) := by omega
          have h4 : (k : Int) < (last.length : Int) := by omega
          have h5 : (k : Int) < (slots.length : Int) := by have := HSL.out; omega
          have cl1 := ints_getD HU.out.st.last k hlk
          obtain ⟨z, hz⟩ : ∃ z, last.getD k 0 = z := ⟨_, rfl⟩
          rw [hz] at cl1
          have HZ := Lib.hid hz
          clear hz
          by_cases hlt : (i : Int) < z
          · have hd : decide ((i : Int) < z) = true := by simpa using hlt
            obtain ⟨gx, cx, rfl, hgx1, hgx2⟩ := HU.out.st.slots.form (by have := HSL.out; omega)
            have cs1 := ints_getD HU.out.st.slots k (by have := HSL.out; omega)
            obtain ⟨y, hy⟩ : ∃ y, slots.getD k 0 = y := ⟨_, rfl⟩
            rw [hy] at cs1
            have HTK := Lib.hid (show takenTo last slots i (k + 1) = takenTo last slots i k ++ [y] by rw [takenTo, HZ.out, hy, if_pos hlt])
            have htl := takenTo_len last slots i k
            clear hy hlt
            go_wp2_with (at_builtin; refine app_k rfl _ _ 24 rfl 3 _ 1 8 Tryz.underlying24 info_int rfl (by decide) #[_] _ _ _ _ HU.out.taken rfl rfl rfl (by intro u hu; simp at hu; subst hu; rfl) HB2.out (by omega) (by unfold maxLen; omega) ?_; intro y9 w9 hown9 hg9 _; go_must (have HU9 := Lib.hid (HU.out.add hg9 hown9); have HB9 := Lib.hid (Nat.le_trans HB2.out hg9.size); clear hown9 hg9))
            go_roundg (i - (k + 1))
            case measure => omega
            case rel => exact ⟨k + 1, by omega, rfl, by go_num, by rw [HTK.out]; exact HU9, HB9⟩
          · have hd : decide ((i : Int) < z) = false := by simpa using hlt
            have HTK := Lib.hid (show takenTo last slots i (k + 1) = takenTo last slots i k by rw [takenTo, HZ.out, if_neg hlt, List.append_nil])
            clear hlt
            go_wp2_with fail
            go_roundg (i - (k + 1))
            case measure => omega
            case rel => exact ⟨k + 1, by omega, rfl, by go_num, by rw [HTK.out]; exact HU, HB2⟩
        · obtain rfl : k = i := by omega
          have htl := takenTo_len last slots k k
          obtain ⟨T, hT⟩ : ∃ T, takenTo last slots k k = T := ⟨_, rfl⟩
          rw [hT] at HU htl
          have HT := Lib.hid hT
          clear hT
          go_wp2_with fail
          obtain ⟨wo, hwo⟩ : ∃ wo : World, wo = wr := ⟨_, rfl⟩
          go_loopg [10] T.length (fun g sv w3 => ∃ s : Nat, s ≤ T.length ∧ g = T.length - s ∧ sv = .int .i64 s ∧ Hid (∀ j, j < s → (j : Int) ∈ T) ∧ w3 = wo)
          case atStart => exact ⟨0, Nat.zero_le _, rfl, rfl, Lib.hid (fun j hj => absurd hj (Nat.not_lt_zero _)), hwo.symm⟩
          case round =>
            obtain ⟨q, hq, hg3, rfl, HQ, hw3⟩ := hrel
            obtain rfl := hw3.trans hwo
            have HWO := Lib.hid hwo
            clear hw3 hwo
            by_cases hin : (q : Int) ∈ T
            · have HD := Lib.hid (show decide ((q : Int) ∈ T) = true by simpa using hin)
              have HQ2 := Lib.hid (show ∀ j, j < q + 1 → (j : Int) ∈ T from fun j hj => by rcases Nat.lt_succ_iff_lt_or_eq.1 hj with h | rfl; exact HQ.out j h; exact hin)
              have hle := all_in_len T (q + 1) HQ2.out
              clear hin
              go_wp2_with (go_at_call 76; go_must (refine (has_any _ T _ _ (Arr.of_owns HU.out.taken)).mono ?_; rw [HD.out]; rintro e w' ⟨rfl, rfl⟩))
              go_roundg (T.length - (q + 1))
              case measure => omega
              case rel => exact ⟨q + 1, by omega, rfl, by go_num, HQ2, by first | rfl | exact HWO.out | exact HWO.out.symm⟩
            · have HD := Lib.hid (show decide ((q : Int) ∈ T) = false by simpa using hin)
              have HLOW := Lib.hid (show IsLow T q from ⟨HQ.out, hin⟩)
              clear hin
              have hRa := HR.out.2.2.2
              go_wp2_with (first | (go_at_call 76; go_must (refine (has_any _ T _ _ (Arr.of_owns HU.out.taken)).mono ?_; rw [HD.out]; rintro e w' ⟨rfl, rfl⟩)) | (at_builtin; refine app_k rfl _ _ 24 rfl 3 _ 1 8 Tryz.underlying24 info_int rfl (by decide) #[_] _ _ _ _ HU.out.st.slots rfl rfl rfl (by intro u hu; simp at hu; subst hu; rfl) (by have := HB2.out; have := HU.out.ge; omega) (by have := HSL.out; omega) (by have := HSL.out; unfold maxLen; omega) ?_; intro y9 w9 hown9 hg9 _; go_must (have HS9 := Lib.hid (HU.out.st.addS hg9 hown9); have HB9 := Lib.hid (Nat.le_trans (Nat.le_trans HU.out.ge HB2.out) hg9.size); clear hown9 hg9)))
              all_goals
                go_roundg (ops.length - (k + 1))
                case measure => omega
                case rel =>
                  refine ⟨k + 1, slots ++ [(q : Int)], max arena ((q : Int) + 1), by omega, rfl, by go_num, ?_, Lib.hid (HR.out.next q (by rw [HT.out]; exact HLOW.out) (by omega)), HS9, HB9⟩
                  exact congrArg (Value.int IntKind.i64) (by omega)
    · obtain rfl : i = ops.length := by omega
      go_wp2_with fail
      go_ret2
      exact ⟨_, slots, arena, rfl, HR.out, owns_base HS.out.slots HS.out.ge, HS.out.below⟩
end Go.Proofs.YtjbhgimhcjcpmaaGreatDoor

/-
  PLAIN LAWS of the free slots' heap: what is pushed and popped, and that the root is least.
-/
namespace Go.Proofs.YtjbhgimhcjcpmaaGreatDoor

theorem swap_get {l : List Int} {i j : Nat} (hi : i < l.length) (hj : j < l.length) (k : Nat) : (fSwap l i j).getD k 0 = if k = j then l.getD i 0 else if k = i then l.getD j 0 else l.getD k 0 := by
  simp only [fSwap, List.getD, List.getElem?_set, List.length_set]
  by_cases h1 : k = j
  · subst h1; simp [hj]
  · rw [if_neg (Ne.symm h1), if_neg h1]
    by_cases h2 : k = i
    · subst h2; simp [hi]
    · rw [if_neg (Ne.symm h2), if_neg h2]
theorem count_set' : ∀ (l : List Int) (i : Nat) (v x : Int), i < l.length → (l.set i v).count x + (if l.getD i 0 = x then 1 else 0) = l.count x + (if v = x then 1 else 0)
  | [], i, v, x, h => by simp at h
  | a :: l, 0, v, x, _ => by
    simp only [List.set_cons_zero, List.count_cons, List.getD_cons_zero, beq_iff_eq]; omega
  | a :: l, i + 1, v, x, h => by
    have := count_set' l i v x (by simpa using h)
    simp only [List.set_cons_succ, List.count_cons, List.getD_cons_succ, beq_iff_eq]; omega
theorem swap_count {l : List Int} {i j : Nat} (hi : i < l.length) (hj : j < l.length) (x : Int) : (fSwap l i j).count x = l.count x := by
  have h1 := count_set' l i (l.getD j 0) x hi
  have h2 := count_set' (l.set i (l.getD j 0)) j (l.getD i 0) x (by simpa using hj)
  have h3 : (l.set i (l.getD j 0)).getD j 0 = l.getD j 0 := by
    simp only [List.getD, List.getElem?_set]
    split
    · rename_i h; subst h; simp [hi]
    · rfl
  rw [h3] at h2
  unfold fSwap; omega
/-- The first n of the list are a heap. -/
def Heap (l : List Int) (n : Nat) : Prop := ∀ i, 0 < i → i < n → l.getD ((i - 1) / 2) 0 ≤ l.getD i 0
theorem heap_root {l : List Int} {n : Nat} (h : Heap l n) (k : Nat) (hk : k < n) : l.getD 0 0 ≤ l.getD k 0 := by
  induction k using Nat.strongRecOn with
  | _ k ih =>
    rcases Nat.eq_zero_or_pos k with rfl | h0
    · exact Int.le_refl _
    · exact Int.le_trans (ih ((k - 1) / 2) (by omega) (by omega)) (h k h0 hk)
theorem up_len (l : List Int) (j : Nat) : (fUp l j).length = l.length := by
  induction j using Nat.strongRecOn generalizing l with
  | _ j ih =>
    rw [fUp]
    split
    · rfl
    · split
      · rw [ih _ (by omega), fSwap_len]
      · rfl
theorem up_count (l : List Int) (j : Nat) (hj : j < l.length) (x : Int) : (fUp l j).count x = l.count x := by
  induction j using Nat.strongRecOn generalizing l with
  | _ j ih =>
    rw [fUp]
    split
    · rfl
    · split
      · rw [ih _ (by omega) _ (by rw [fSwap_len]; omega), swap_count (by omega) hj]
      · rfl
theorem up_heap (n : Nat) (l : List Int) (j : Nat) (hj : j < n) (hn : n ≤ l.length) (h1 : ∀ i, 0 < i → i < n → i ≠ j → l.getD ((i - 1) / 2) 0 ≤ l.getD i 0)
    (h2 : 0 < j → ∀ i, 0 < i → i < n → (i - 1) / 2 = j → l.getD ((j - 1) / 2) 0 ≤ l.getD i 0) : Heap (fUp l j) n := by
  induction j using Nat.strongRecOn generalizing l with
  | _ j ih =>
    rw [fUp]
    split
    · rename_i h0; subst h0
      exact fun i hi hin => h1 i hi hin (by omega)
    · rename_i h0
      split
      · rename_i hlt
        have hg := fun k => swap_get (l := l) (i := (j - 1) / 2) (j := j) (by omega) (by omega) k
        refine ih _ (by omega) _ (by omega) (by rw [fSwap_len]; exact hn) ?_ ?_
        · intro i hi hin hne
          rw [hg, hg]
          by_cases hij : i = j
          · subst hij
            rw [if_pos rfl, if_neg (by omega), if_pos rfl]; omega
          · rw [if_neg hij, if_neg hne]
            by_cases hq : (i - 1) / 2 = j
            · rw [if_pos hq]; exact h2 (by omega) i hi hin hq
            · rw [if_neg hq]
              by_cases hp : (i - 1) / 2 = (j - 1) / 2
              · rw [if_pos hp]
                have := h1 i hi hin hij
                rw [hp] at this; omega
              · rw [if_neg hp]; exact h1 i hi hin hij
        · intro hp i hi hin hq
          rw [hg, hg, if_neg (by omega), if_neg (by omega)]
          have hpp := h1 ((j - 1) / 2) hp (by omega) (by omega)
          by_cases hij : i = j
          · rw [if_pos hij]; exact hpp
          · rw [if_neg hij, if_neg (by omega)]
            have := h1 i hi hin hij
            rw [hq] at this; omega
      · rename_i hge
        intro i hi hin
        by_cases hij : i = j
        · subst hij; omega
        · exact h1 i hi hin hij
theorem push_count (l : List Int) (v x : Int) : (fPush l v).count x = l.count x + if v = x then 1 else 0 := by
  unfold fPush
  rw [up_count _ _ (by simp)]
  simp [List.count_append, List.count_cons]
theorem push_heap {l : List Int} (v : Int) (h : Heap l l.length) : Heap (fPush l v) (fPush l v).length := by
  have e : (fPush l v).length = l.length + 1 := by unfold fPush; rw [up_len]; simp
  rw [e]
  have hg : ∀ k, k < l.length → (l ++ [v]).getD k 0 = l.getD k 0 := fun k hk => by simp only [List.getD]; rw [List.getElem?_append_left hk]
  refine up_heap _ _ _ (by omega) (by simp) ?_ ?_
  · intro i hi hin hne
    rw [hg _ (by omega), hg _ (by omega)]
    exact h i hi (by omega)
  · intro _ i hi hin hq; omega

theorem child_or (l : List Int) (i n : Nat) : fChild l i n = 2 * i + 1 ∨ fChild l i n = 2 * i + 2 := by unfold fChild; split <;> simp
theorem child_lt (l : List Int) (i n : Nat) (h : 2 * i + 1 < n) : fChild l i n < n := by unfold fChild; split <;> omega
theorem child_le (l : List Int) (i n k : Nat) (hk : 0 < k) (hkn : k < n) (hp : (k - 1) / 2 = i) : l.getD (fChild l i n) 0 ≤ l.getD k 0 := by
  have hk2 : k = 2 * i + 1 ∨ k = 2 * i + 2 := by omega
  unfold fChild
  split
  · rename_i h
    rcases hk2 with rfl | rfl <;> omega
  · rename_i h
    rcases hk2 with rfl | rfl
    · exact Int.le_refl _
    · rw [not_and] at h; have := h hkn; omega
theorem down_len (l : List Int) (i n : Nat) : (fDown l i n).length = l.length := by
  obtain ⟨m, hm⟩ : ∃ m, n - i = m := ⟨_, rfl⟩
  induction m using Nat.strongRecOn generalizing l i with
  | _ m ih =>
    rw [fDown]
    split
    · split
      · have := fChild_gt l i n
        rw [ih (n - fChild l i n) (by omega) _ _ rfl, fSwap_len]
      · rfl
    · rfl
theorem down_count (l : List Int) (i n : Nat) (hn : n ≤ l.length) (x : Int) : (fDown l i n).count x = l.count x := by
  obtain ⟨m, hm⟩ : ∃ m, n - i = m := ⟨_, rfl⟩
  induction m using Nat.strongRecOn generalizing l i with
  | _ m ih =>
    rw [fDown]
    split
    · rename_i h
      split
      · have h1 := fChild_gt l i n
        have h2 := child_lt l i n h
        rw [ih (n - fChild l i n) (by omega) _ _ (by rw [fSwap_len]; exact hn) rfl, swap_count (by omega) (by omega)]
      · rfl
    · rfl
theorem down_tail (l : List Int) (i n : Nat) (hn : n ≤ l.length) (k : Nat) (hk : n ≤ k) : (fDown l i n).getD k 0 = l.getD k 0 := by
  obtain ⟨m, hm⟩ : ∃ m, n - i = m := ⟨_, rfl⟩
  induction m using Nat.strongRecOn generalizing l i with
  | _ m ih =>
    rw [fDown]
    split
    · rename_i h
      split
      · have h1 := fChild_gt l i n
        have h2 := child_lt l i n h
        rw [ih (n - fChild l i n) (by omega) _ _ (by rw [fSwap_len]; exact hn) rfl, swap_get (by omega) (by omega), if_neg (by omega), if_neg (by omega)]
      · rfl
    · rfl
theorem down_heap (l : List Int) (i n : Nat) (hn : n ≤ l.length) (h1 : ∀ k, 0 < k → k < n → (k - 1) / 2 ≠ i → l.getD ((k - 1) / 2) 0 ≤ l.getD k 0)
    (h2 : 0 < i → ∀ k, 0 < k → k < n → (k - 1) / 2 = i → l.getD ((i - 1) / 2) 0 ≤ l.getD k 0) : Heap (fDown l i n) n := by
  obtain ⟨m, hm⟩ : ∃ m, n - i = m := ⟨_, rfl⟩
  induction m using Nat.strongRecOn generalizing l i with
  | _ m ih =>
    rw [fDown]
    split
    · rename_i hc
      have g1 := fChild_gt l i n
      have g2 := child_lt l i n hc
      have g3 := child_or l i n
      have g4 := fun k a b c => child_le l i n k a b c
      generalize fChild l i n = c at g1 g2 g3 g4 ⊢
      split
      · rename_i hlt
        have hg := fun k => swap_get (l := l) (i := i) (j := c) (by omega) (by omega) k
        refine ih (n - c) (by omega) _ _ (by rw [fSwap_len]; exact hn) ?_ ?_ rfl
        · intro k hk hkn hne
          rw [hg, hg, if_neg hne]
          by_cases hkc : k = c
          · rw [if_pos hkc, if_pos (by omega)]; omega
          · rw [if_neg hkc]
            by_cases hq : (k - 1) / 2 = i
            · rw [if_pos hq, if_neg (by omega)]; exact g4 k hk hkn hq
            · rw [if_neg hq]
              by_cases hki : k = i
              · rw [if_pos hki]
                have := h2 (by omega) c (by omega) g2 (by omega)
                rw [hki]; exact this
              · rw [if_neg hki]; exact h1 k hk hkn hq
        · intro _ k hk hkn hq
          rw [hg, hg, if_neg (by omega), if_pos (by omega), if_neg (by omega), if_neg (by omega)]
          have := h1 k hk hkn (by omega)
          rw [hq] at this; exact this
      · rename_i hge
        intro k hk hkn
        by_cases hq : (k - 1) / 2 = i
        · have := g4 k hk hkn hq
          rw [hq]; omega
        · exact h1 k hk hkn hq
    · rename_i hc
      intro k hk hkn
      exact h1 k hk hkn (by omega)
theorem take_count : ∀ (l : List Int) (n : Nat) (x : Int), l.length = n + 1 → (l.take n).count x + (if l.getD n 0 = x then 1 else 0) = l.count x
  | [], n, x, h => by simp at h
  | [a], 0, x, _ => by simp [List.count_cons]
  | a :: b :: l, 0, x, h => by simp at h
  | a :: l, n + 1, x, h => by
    have := take_count l n x (by simpa using h)
    simp only [List.take_succ_cons, List.count_cons, List.getD_cons_succ, beq_iff_eq]; omega
theorem pop_count (l : List Int) (x : Int) (h : 0 < l.length) : (fPop l).count x + (if l.getD 0 0 = x then 1 else 0) = l.count x := by
  unfold fPop
  have hlen : (fDown (fSwap l 0 (l.length - 1)) 0 (l.length - 1)).length = l.length := by rw [down_len, fSwap_len]
  have h1 := take_count (fDown (fSwap l 0 (l.length - 1)) 0 (l.length - 1)) (l.length - 1) x (by rw [hlen]; omega)
  rw [down_tail _ _ _ (by rw [fSwap_len]; omega) _ (Nat.le_refl _), swap_get (by omega) (by omega), if_pos rfl, down_count _ _ _ (by rw [fSwap_len]; omega), swap_count (by omega) (by omega)] at h1
  exact h1
theorem pop_heap {l : List Int} (h : Heap l l.length) (h0 : 0 < l.length) : Heap (fPop l) (fPop l).length := by
  have hlen : (fDown (fSwap l 0 (l.length - 1)) 0 (l.length - 1)).length = l.length := by rw [down_len, fSwap_len]
  have e : (fPop l).length = l.length - 1 := by unfold fPop; rw [List.length_take, hlen]; omega
  rw [e]
  have hd : Heap (fDown (fSwap l 0 (l.length - 1)) 0 (l.length - 1)) (l.length - 1) := by
    refine down_heap _ _ _ (by rw [fSwap_len]; omega) ?_ (fun hh => by omega)
    intro k hk hkn hne
    rw [swap_get (by omega) (by omega), swap_get (by omega) (by omega), if_neg (by omega), if_neg hne, if_neg (by omega), if_neg (by omega)]
    exact h k hk (by omega)
  intro k hk hkn
  have hg : ∀ j, j < l.length - 1 → (fPop l).getD j 0 = (fDown (fSwap l 0 (l.length - 1)) 0 (l.length - 1)).getD j 0 := fun j hj => by
    unfold fPop; simp only [List.getD]; rw [List.getElem?_take_of_lt hj]
  rw [hg _ (by omega), hg _ hkn]
  exact hd k hk hkn
end Go.Proofs.YtjbhgimhcjcpmaaGreatDoor

/-
  THE PLAIN LAW: the slots that the heap gives are the lowest that are free (mSlots is what RSl says).
-/
namespace Go.Proofs.YtjbhgimhcjcpmaaGreatDoor

theorem fold_get (k : Int) : ∀ (l : List Int) (L : List Int) (j : Nat), ((l.foldl (fun L a => L.set a.toNat k) L).getD j 0 = k ∧ ∃ a ∈ l, a.toNat = j) ∨ (l.foldl (fun L a => L.set a.toNat k) L).getD j 0 = L.getD j 0
  | [], L, j => .inr rfl
  | a :: l, L, j => by
    rw [List.foldl_cons]
    rcases fold_get k l (L.set a.toNat k) j with ⟨h1, x, hx, hj⟩ | h
    · exact .inl ⟨h1, x, by simp [hx], hj⟩
    · by_cases hj : a.toNat = j
      · by_cases hl : j < L.length
        · refine .inl ⟨?_, a, by simp, hj⟩
          rw [h]; subst hj; simp [List.getD, hl]
        · refine .inr ?_
          rw [h]; simp [List.getD, List.getElem?_set, hl, hj, List.getElem?_eq_none (Nat.le_of_not_lt hl)]
      · refine .inr ?_
        rw [h]; simp [List.getD, List.getElem?_set, hj]
theorem lastStep_get (L : List Int) (k : Nat) (o : MOp) (j : Nat) (hj : j < L.length) : ((lastStep L k o).getD j 0 = k ∧ (j = k ∨ ∃ a ∈ mWantsL o, a.toNat = j)) ∨ ((lastStep L k o).getD j 0 = L.getD j 0 ∧ j ≠ k) := by
  unfold lastStep
  rcases fold_get k (mWantsL o) (L.set k k) j with ⟨h1, h2⟩ | h
  · exact .inl ⟨h1, .inr h2⟩
  · rw [h]
    by_cases hk : k = j
    · subst hk; exact .inl ⟨by simp [List.getD, hj], .inl rfl⟩
    · exact .inr ⟨by simp [List.getD, List.getElem?_set, hk], Ne.symm hk⟩
theorem lastGo_who : ∀ (l : List MOp) (k : Nat) (L : List Int) (j : Nat), j < L.length → (lastGo l k L).getD j 0 = L.getD j 0 ∨ ∃ (i : Nat) (h : i < l.length), (lastGo l k L).getD j 0 = ((k + i : Nat) : Int) ∧ (j = k + i ∨ ∃ a ∈ mWantsL l[i], a.toNat = j)
  | [], k, L, j, _ => .inl rfl
  | o :: l, k, L, j, hj => by
    rw [lastGo]
    rcases lastGo_who l (k + 1) (lastStep L k o) j (by rw [lastStep_len]; exact hj) with h | ⟨i, hi, h1, h2⟩
    · rw [h]
      rcases lastStep_get L k o j hj with ⟨h3, h4⟩ | ⟨h3, _⟩
      · exact .inr ⟨0, by simp, by rw [h3]; rfl, by simpa using h4⟩
      · exact .inl h3
    · exact .inr ⟨i + 1, by simpa using hi, by rw [h1]; congr 1; omega, by rcases h2 with h2 | h2; exact .inl (by omega); exact .inr (by simpa using h2)⟩
theorem lastGo_ge : ∀ (l : List MOp) (k : Nat) (L : List Int) (j : Nat), j < L.length → (k ≤ j → j < k + l.length) → (j < k → (j : Int) ≤ L.getD j 0) → (j : Int) ≤ (lastGo l k L).getD j 0
  | [], k, L, j, hj, h1, h2 => by
    rw [lastGo]
    by_cases hk : j < k
    · exact h2 hk
    · have := h1 (by omega); simp at this; omega
  | o :: l, k, L, j, hj, h1, h2 => by
    rw [lastGo]
    refine lastGo_ge l (k + 1) _ j (by rw [lastStep_len]; exact hj) (fun h => by have := h1 (by omega); simp at this; omega) fun h => ?_
    rcases lastStep_get L k o j hj with ⟨h3, _⟩ | ⟨h3, h4⟩
    · rw [h3]; omega
    · rw [h3]; exact h2 (by omega)
theorem last_ge (ops : List MOp) (j : Nat) (hj : j < ops.length) : (j : Int) ≤ (mLast ops).getD j 0 := lastGo_ge ops 0 _ j (by simpa using hj) (fun _ => by omega) (fun h => by omega)
theorem last_who {ops : List MOp} (hc : mCheck ops 65536 65536 = true) (j k : Nat) (hjk : j < k) (hk : k < ops.length) (h : (mLast ops).getD j 0 = (k : Int)) : (j : Int) ∈ mWantsL ops[k] := by
  rcases lastGo_who ops 0 (List.replicate ops.length 0) j (by simp; omega) with h1 | ⟨i, hi, h1, h2⟩
  · exfalso
    have h3 : (List.replicate ops.length (0 : Int)).getD j 0 = 0 := by simp [List.getD, List.getElem?_replicate]; split <;> rfl
    have h4 : (mLast ops).getD j 0 = 0 := (show (mLast ops).getD j 0 = (List.replicate ops.length (0 : Int)).getD j 0 from h1).trans h3
    omega
  · have h3 : (mLast ops).getD j 0 = ((0 + i : Nat) : Int) := h1
    obtain rfl : i = k := by omega
    rcases h2 with h2 | ⟨a, ha, haj⟩
    · omega
    · have := places_ahead hc i hi a ha
      have : a = (j : Int) := by omega
      rw [← this]; exact ha

/-! The words that are freed, and those that stay. -/
def eqTo (last slots : List Int) (k : Nat) (x : Int) (m : Nat) : Nat := sumTo (fun j => if last.getD j 0 = (k : Int) ∧ slots.getD j 0 = x then 1 else 0) m
def busyTo (last slots : List Int) (k : Nat) (x : Int) (m : Nat) : Nat := sumTo (fun j => if (k : Int) ≤ last.getD j 0 ∧ slots.getD j 0 = x then 1 else 0) m
theorem taken_count (last slots : List Int) (i : Nat) (x : Int) : ∀ m, (takenTo last slots i m).count x = sumTo (fun j => if (i : Int) < last.getD j 0 ∧ slots.getD j 0 = x then 1 else 0) m
  | 0 => rfl
  | m + 1 => by
    rw [takenTo, List.count_append, taken_count last slots i x m, sumTo]
    congr 1
    generalize last.getD m 0 = a
    generalize slots.getD m 0 = b
    by_cases h1 : (i : Int) < a
    · by_cases h2 : b = x <;> simp [h1, h2]
    · simp [h1]
theorem busy_split (last slots : List Int) (k : Nat) (x : Int) (m : Nat) : busyTo last slots k x m = (takenTo last slots k m).count x + eqTo last slots k x m := by
  rw [taken_count, busyTo, eqTo, ← sumTo_add]
  refine sumTo_congr m fun j _ => ?_
  by_cases h1 : (k : Int) < last.getD j 0
  · by_cases h2 : slots.getD j 0 = x
    · rw [if_pos ⟨by omega, h2⟩, if_pos ⟨h1, h2⟩, if_neg (by omega)]
    · rw [if_neg (fun h => h2 h.2), if_neg (fun h => h2 h.2), if_neg (fun h => h2 h.2)]
  · by_cases h2 : last.getD j 0 = (k : Int)
    · by_cases h3 : slots.getD j 0 = x
      · rw [if_pos ⟨by omega, h3⟩, if_neg (by omega), if_pos ⟨h2, h3⟩]
      · rw [if_neg (fun h => h3 h.2), if_neg (fun h => h3 h.2), if_neg (fun h => h3 h.2)]
    · rw [if_neg (by omega), if_neg (by omega), if_neg (fun h => h2 h.1)]
theorem busy_next (last slots : List Int) (k : Nat) (t x : Int) (hk : k < slots.length) : busyTo last (slots.set k t) (k + 1) x (k + 1) = (takenTo last slots k k).count x + if (k : Int) < last.getD k 0 ∧ t = x then 1 else 0 := by
  rw [taken_count, busyTo, sumTo]
  congr 1
  · refine sumTo_congr k fun j hj => ?_
    have : (slots.set k t).getD j 0 = slots.getD j 0 := by simp [List.getD, List.getElem?_set, show k ≠ j by omega]
    rw [this]
    by_cases h1 : (k : Int) < last.getD j 0 ∧ slots.getD j 0 = x
    · rw [if_pos h1, if_pos ⟨by omega, h1.2⟩]
    · rw [if_neg h1, if_neg (fun h => h1 ⟨by omega, h.2⟩)]
  · have : (slots.set k t).getD k 0 = t := by simp [List.getD, hk]
    rw [this]
    by_cases h1 : (k : Int) < last.getD k 0 ∧ t = x
    · rw [if_pos h1, if_pos ⟨by omega, h1.2⟩]
    · rw [if_neg h1, if_neg (fun h => h1 ⟨by omega, h.2⟩)]
theorem sumTo_at (a c : Nat) : ∀ n, sumTo (fun j => if j = a then c else 0) n = if a < n then c else 0
  | 0 => rfl
  | n + 1 => by
    rw [sumTo, sumTo_at a c n]
    repeat' split
    all_goals omega
def placeSum (f : Nat → Nat) (l : List Int) : Nat := (l.map fun a => f a.toNat).foldl (· + ·) 0
theorem places_sum (f : Nat → Nat) (k : Nat) (l : List Int) (hp : ∀ a ∈ l, 0 ≤ a ∧ a < k) (hs : ∀ j, j < k → f j ≠ 0 → (j : Int) ∈ l) (hl : l = [] ∨ (∃ a, l = [a]) ∨ ∃ a b, l = [a, b] ∧ a ≠ b) : sumTo f k = placeSum f l := by
  rcases hl with rfl | ⟨a, rfl⟩ | ⟨a, b, rfl, hab⟩
  · rw [sumTo_congr (g := fun _ => 0) k fun j hj => Classical.byContradiction fun h => by simpa using hs j hj h, sumTo_zero]; rfl
  · have ha := hp a (by simp)
    rw [sumTo_congr (g := fun j => if j = a.toNat then f a.toNat else 0) k fun j hj => ?_, sumTo_at, if_pos (by omega)]
    · simp [placeSum]
    · by_cases h : j = a.toNat
      · rw [if_pos h, h]
      · rw [if_neg h]
        refine Classical.byContradiction fun h0 => ?_
        have := hs j hj h0
        simp at this; omega
  · have ha := hp a (by simp)
    have hb := hp b (by simp)
    rw [sumTo_congr (g := fun j => (if j = a.toNat then f a.toNat else 0) + (if j = b.toNat then f b.toNat else 0)) k fun j hj => ?_, sumTo_add, sumTo_at, sumTo_at, if_pos (by omega), if_pos (by omega)]
    · simp [placeSum]
    · by_cases h : j = a.toNat
      · rw [if_pos h, if_neg (by omega), h]; rfl
      · rw [if_neg h]
        by_cases h' : j = b.toNat
        · rw [if_pos h', h']; omega
        · rw [if_neg h']
          refine Classical.byContradiction fun h0 => ?_
          have := hs j hj (by omega)
          simp at this; omega
theorem mPlaces_form (o : MOp) : mPlaces o = [] ∨ (∃ a, mPlaces o = [a]) ∨ ∃ a b, mPlaces o = [a, b] ∧ a ≠ b := by
  have h := mWantsL_len o
  unfold mPlaces
  match hw : mWantsL o with
  | [] => exact .inl rfl
  | [a] => exact .inr (.inl ⟨a, rfl⟩)
  | [a, b] =>
    simp only [srt]
    split
    · simp only [cmp2]; split
      · exact .inr (.inl ⟨_, rfl⟩)
      · exact .inr (.inr ⟨_, _, rfl, by assumption⟩)
    · simp only [cmp2]; split
      · exact .inr (.inl ⟨_, rfl⟩)
      · exact .inr (.inr ⟨_, _, rfl, by assumption⟩)
  | _ :: _ :: _ :: _ => rw [hw] at h; simp at h
theorem mPlaces_sup (o : MOp) (x : Int) (hx : x ∈ mWantsL o) : x ∈ mPlaces o := by
  have h := mWantsL_len o
  have hm := (srt_mem (mWantsL o) x).2 hx
  unfold mPlaces
  have hl := srt_len (mWantsL o)
  match hw : srt (mWantsL o) with
  | [] => rw [hw] at hm; exact hm
  | [a] => rw [hw] at hm; exact hm
  | [a, b] =>
    rw [hw] at hm
    simp only [cmp2]; split
    · rename_i e; simp only [List.mem_cons, List.not_mem_nil, or_false] at hm ⊢
      rcases hm with hm | hm
      · exact hm
      · rw [hm]; exact e.symm
    · exact hm
  | _ :: _ :: _ :: _ => rw [hw] at hl; simp at hl; omega

/-- One place given back. -/
theorem freed_count (last slots : List Int) (k : Nat) (f : List Int) (a x : Int) : (freed last slots k f a).count x = f.count x + if last.getD a.toNat 0 = (k : Int) ∧ slots.getD a.toNat 0 = x then 1 else 0 := by
  unfold freed
  by_cases h : last.getD a.toNat 0 = (k : Int)
  · rw [if_pos h, push_count]
    by_cases h2 : slots.getD a.toNat 0 = x
    · rw [if_pos h2, if_pos ⟨h, h2⟩]
    · rw [if_neg h2, if_neg (fun hh => h2 hh.2)]
  · rw [if_neg h, if_neg (fun hh => h hh.1), Nat.add_zero]
theorem freed_heap {last slots : List Int} {k : Nat} {f : List Int} (a : Int) (h : Heap f f.length) : Heap (freed last slots k f a) (freed last slots k f a).length := by
  unfold freed
  split
  · exact push_heap _ h
  · exact h
theorem freed_fold (last slots : List Int) (k : Nat) (x : Int) : ∀ (l f : List Int) , (l.foldl (freed last slots k) f).count x = f.count x + placeSum (fun j => if last.getD j 0 = (k : Int) ∧ slots.getD j 0 = x then 1 else 0) l
  | [], f => rfl
  | a :: l, f => by
    have hps : ∀ (g : Nat → Nat) (l : List Int) (z : Nat), (l.map fun a => g a.toNat).foldl (· + ·) z = z + placeSum g l := by
      intro g l
      induction l with
      | nil => intro z; rfl
      | cons b l ih =>
        intro z
        simp only [placeSum, List.map_cons, List.foldl_cons]
        rw [ih, ih]; omega
    rw [List.foldl_cons, freed_fold last slots k x l, freed_count]
    have e := hps (fun j => if last.getD j 0 = (k : Int) ∧ slots.getD j 0 = x then 1 else 0) l (0 + if last.getD a.toNat 0 = (k : Int) ∧ slots.getD a.toNat 0 = x then 1 else 0)
    simp only [placeSum, List.map_cons, List.foldl_cons] at e ⊢
    omega
theorem freed_fold_heap (last slots : List Int) (k : Nat) : ∀ (l f : List Int), Heap f f.length → Heap (l.foldl (freed last slots k) f) (l.foldl (freed last slots k) f).length
  | [], f, h => h
  | a :: l, f, h => by rw [List.foldl_cons]; exact freed_fold_heap last slots k l _ (freed_heap a h)

def inR (x a : Int) : Nat := if 0 ≤ x ∧ x < a then 1 else 0
/-- The state ahead of operation k. -/
structure SInv (last : List Int) (n k : Nat) (s : SlotSt) : Prop where
  len : s.slots.length = n
  heap : Heap s.free s.free.length
  pos : 0 ≤ s.arena
  cnt : ∀ x, s.free.count x + busyTo last s.slots k x k = inR x s.arena
  done : ∀ i, i < k → ∃ t : Nat, s.slots.getD i 0 = (t : Int) ∧ IsLow (takenTo last s.slots i i) t
  top : s.arena = maxOf (snoc1 (s.slots.take k))
theorem taken_set (last slots : List Int) (k : Nat) (z : Int) (i : Nat) : ∀ m, m ≤ k → takenTo last (slots.set k z) i m = takenTo last slots i m
  | 0, _ => rfl
  | m + 1, h => by
    have e : (slots.set k z).getD m 0 = slots.getD m 0 := by simp [List.getD, List.getElem?_set, show k ≠ m by omega]
    rw [takenTo, takenTo, taken_set last slots k z i m (by omega), e]
theorem mem_count {l : List Int} {x : Int} : x ∈ l ↔ 0 < l.count x := List.count_pos_iff.symm
theorem get_mem {l : List Int} {x : Int} (h : x ∈ l) : ∃ k, k < l.length ∧ l.getD k 0 = x := by
  obtain ⟨k, hk, he⟩ := List.mem_iff_getElem.1 h
  exact ⟨k, hk, by simp [List.getD, hk, he]⟩
theorem slot_step {ops : List MOp} (hc : mCheck ops 65536 65536 = true) {k : Nat} (hk : k < ops.length) {s : SlotSt} (h : SInv (mLast ops) ops.length k s) : SInv (mLast ops) ops.length (k + 1) (slotStep (mLast ops) k ops[k] s) := by
  obtain ⟨hlen, hheap, hpos, hcnt, hdone, htop⟩ := h
  have hge := last_ge ops k hk
  have hwho := fun j hj => last_who hc j k hj hk
  have hpa := places_ahead hc k hk
  generalize ops[k] = o at hwho hpa ⊢
  obtain ⟨last, hlast⟩ : ∃ last, mLast ops = last := ⟨_, rfl⟩
  rw [hlast] at hge hwho hcnt hdone ⊢
  -- what is freed
  have hf1 : ∀ x, (slotTake last k o s).count x + (takenTo last s.slots k k).count x = inR x s.arena := by
    intro x
    have e1 := freed_fold last s.slots k x (mPlaces o) s.free
    have e2 := places_sum (fun j => if last.getD j 0 = (k : Int) ∧ s.slots.getD j 0 = x then 1 else 0) k (mPlaces o) (fun a ha => hpa a (mPlaces_sub o a ha)) (fun j hj hne => mPlaces_sup o _ (hwho j hj (by
      refine Classical.byContradiction fun hn => hne ?_
      exact if_neg fun hh => hn hh.1))) (mPlaces_form o)
    have e3 := busy_split last s.slots k x k
    have e4 := hcnt x
    unfold eqTo at e3
    unfold slotTake
    omega
  have hf2 : Heap (slotTake last k o s) (slotTake last k o s).length := freed_fold_heap _ _ _ _ _ hheap
  unfold slotStep
  generalize slotTake last k o s = f at hf1 hf2 ⊢
  -- the slot that is given
  have key : ∃ (t : Nat) (f' : List Int) (ar : Int), slotGive k s f = ⟨s.slots.set k t, ar, f'⟩ ∧ IsLow (takenTo last s.slots k k) t ∧ Heap f' f'.length ∧ ar = max s.arena ((t : Int) + 1) ∧ (∀ x, f'.count x + (takenTo last s.slots k k).count x + (if (t : Int) = x then 1 else 0) = inR x ar) := by
    unfold slotGive
    by_cases h0 : 0 < f.length
    · rw [if_pos h0]
      have hmem : f.getD 0 0 ∈ f := by simp [List.getD, h0]
      have hroot := hf1 (f.getD 0 0)
      have hpc := mem_count.1 hmem
      have hin : 0 ≤ f.getD 0 0 ∧ f.getD 0 0 < s.arena := by
        refine Classical.byContradiction fun hn => ?_
        unfold inR at hroot; rw [if_neg hn] at hroot; omega
      obtain ⟨t, ht⟩ := Int.eq_ofNat_of_zero_le hin.1
      rw [ht] at hroot hpc hin ⊢
      have hone : inR (t : Int) s.arena = 1 := if_pos hin
      refine ⟨t, fPop f, s.arena, rfl, ⟨fun j hj => ?_, fun hm => ?_⟩, pop_heap hf2 h0, by omega, fun x => ?_⟩
      · refine mem_count.2 ?_
        have h1 := hf1 (j : Int)
        have h2 : inR (j : Int) s.arena = 1 := if_pos ⟨by omega, by omega⟩
        have h3 : f.count (j : Int) = 0 := by
          refine Classical.byContradiction fun hn => ?_
          obtain ⟨q, hq, he⟩ := get_mem (mem_count.2 (Nat.pos_of_ne_zero hn))
          have := heap_root hf2 q hq
          omega
        omega
      · have := mem_count.1 hm; omega
      · have h1 := pop_count f x h0
        have h2 := hf1 x
        rw [ht] at h1
        omega
    · rw [if_neg h0]
      have hf0 : f = [] := List.length_eq_zero_iff.1 (by omega)
      subst hf0
      obtain ⟨t, ht⟩ := Int.eq_ofNat_of_zero_le hpos
      rw [ht] at hf1 ⊢
      refine ⟨t, [], (t : Int) + 1, rfl, ⟨fun j hj => ?_, fun hm => ?_⟩, fun i _ hi => absurd hi (Nat.not_lt_zero _), by omega, fun x => ?_⟩
      · refine mem_count.2 ?_
        have h1 := hf1 (j : Int)
        have h2 : inR (j : Int) (t : Int) = 1 := if_pos ⟨by omega, by omega⟩
        simp only [List.count_nil] at h1; omega
      · have h1 := hf1 (t : Int)
        have h2 : inR (t : Int) (t : Int) = 0 := if_neg (by omega)
        have := mem_count.1 hm
        simp only [List.count_nil] at h1; omega
      · have h1 := hf1 x
        simp only [List.count_nil, Nat.zero_add] at h1 ⊢
        rw [h1]
        unfold inR
        repeat' split
        all_goals omega
  obtain ⟨t, f', ar, hg, hlow, hfh, har, hfc⟩ := key
  rw [hg]
  have hkl : k < s.slots.length := by omega
  have hgk : (s.slots.set k (t : Int)).getD k 0 = (t : Int) := by simp [List.getD, hkl]
  have hgo : ∀ i, i < k → (s.slots.set k (t : Int)).getD i 0 = s.slots.getD i 0 := fun i hi => by simp [List.getD, List.getElem?_set, show k ≠ i by omega]
  have hdone' : ∀ i, i < k + 1 → ∃ u : Nat, (s.slots.set k (t : Int)).getD i 0 = (u : Int) ∧ IsLow (takenTo last (s.slots.set k (t : Int)) i i) u := by
    intro i hi
    by_cases hik : i < k
    · obtain ⟨u, h1, h2⟩ := hdone i hik
      exact ⟨u, by rw [hgo i hik]; exact h1, by rw [taken_set _ _ _ _ _ _ (by omega)]; exact h2⟩
    · obtain rfl : i = k := by omega
      exact ⟨t, hgk, by rw [taken_set _ _ _ _ _ _ (Nat.le_refl _)]; exact hlow⟩
  have htop' : ar = maxOf (snoc1 ((s.slots.set k (t : Int)).take (k + 1))) := by
    have e : (s.slots.set k (t : Int)).take (k + 1) = s.slots.take k ++ [(t : Int)] := by
      rw [List.take_succ_eq_append_getElem (by simpa using hkl)]
      congr 1
      · rw [List.take_set]; rw [List.set_eq_of_length_le (by simp; omega)]
      · simp
    rw [e, har, htop]
    simp [snoc1, maxOf]
  unfold slotDone
  simp only
  by_cases hd : last.getD k 0 = (k : Int)
  · rw [if_pos hd, hgk]
    refine ⟨by simpa using hlen, push_heap _ hfh, by simp only; omega, fun x => ?_, hdone', htop'⟩
    simp only
    rw [push_count, busy_next last s.slots k t x hkl, if_neg (show ¬ ((k : Int) < last.getD k 0 ∧ (t : Int) = x) from fun hh => by omega)]
    have := hfc x
    omega
  · have hlt : (k : Int) < last.getD k 0 := by omega
    rw [if_neg hd]
    refine ⟨by simpa using hlen, hfh, by simp only; omega, fun x => ?_, hdone', htop'⟩
    simp only
    rw [busy_next last s.slots k t x hkl]
    have h1 := hfc x
    by_cases hx : (t : Int) = x
    · rw [if_pos ⟨hlt, hx⟩]; rw [if_pos hx] at h1; omega
    · rw [if_neg (fun hh => hx hh.2)]; rw [if_neg hx] at h1; omega
theorem slotGo_inv {ops : List MOp} (hc : mCheck ops 65536 65536 = true) : ∀ (m k : Nat) (s : SlotSt), k + m = ops.length → SInv (mLast ops) ops.length k s → SInv (mLast ops) ops.length ops.length (slotGo (mLast ops) (ops.drop k) k s)
  | 0, k, s, he, h => by
    obtain rfl : k = ops.length := by omega
    rw [List.drop_length, slotGo]; exact h
  | m + 1, k, s, he, h => by
    have hk : k < ops.length := by omega
    rw [List.drop_eq_getElem_cons hk, slotGo]
    exact slotGo_inv hc m (k + 1) _ (by omega) (slot_step hc hk h)
theorem slots0_inv (ops : List MOp) : SInv (mLast ops) ops.length 0 (slots0 ops.length) :=
  ⟨by simp [slots0], fun i _ hi => absurd hi (Nat.not_lt_zero _), Int.le_refl _, fun x => (by show (0 : Nat) = if 0 ≤ x ∧ x < (0 : Int) then 1 else 0; rw [if_neg (by omega)]), fun i hi => absurd hi (Nat.not_lt_zero _), rfl⟩
theorem low_unique {l : List Int} {s t : Nat} (hs : IsLow l s) (ht : IsLow l t) : s = t := by
  rcases Nat.lt_trichotomy s t with h | h | h
  · exact absurd (ht.1 s h) hs.2
  · exact h
  · exact absurd (hs.1 t h) ht.2
theorem taken_congr (last a b : List Int) (i : Nat) : ∀ m, (∀ j, j < m → a.getD j 0 = b.getD j 0) → takenTo last a i m = takenTo last b i m
  | 0, _ => rfl
  | m + 1, h => by rw [takenTo, takenTo, taken_congr last a b i m (fun j hj => h j (by omega)), h m (by omega)]
/-- What the reference calls the slots and the arena are mine. -/
theorem slots_law {ops : List MOp} (hc : mCheck ops 65536 65536 = true) {slots : List Int} {arena : Int} (h : RSl (mLast ops) ops.length slots arena) : slots = (mSlots ops).1 ∧ arena = (mSlots ops).2 := by
  have hi := slotGo_inv hc ops.length 0 _ (by omega) (slots0_inv ops)
  rw [List.drop_zero] at hi
  have hm : mSlots ops = ((slotGo (mLast ops) ops 0 (slots0 ops.length)).slots, (slotGo (mLast ops) ops 0 (slots0 ops.length)).arena) := by unfold mSlots; rw [if_pos hc]
  rw [hm]
  generalize slotGo (mLast ops) ops 0 (slots0 ops.length) = s at hi ⊢
  obtain ⟨h1, h2, h3, h4, h5⟩ := h
  have key : ∀ i, i < ops.length → slots.getD i 0 = s.slots.getD i 0 := by
    intro i
    induction i using Nat.strongRecOn with
    | _ i ih =>
      intro hin
      obtain ⟨t, ht1, _, ht2⟩ := h2 i hin
      obtain ⟨u, hu1, hu2⟩ := hi.done i hin
      rw [taken_congr _ slots s.slots i i (fun j hj => ih j hj (by omega))] at ht2
      rw [ht1, hu1, low_unique ht2 hu2]
  have hs : slots = s.slots := by
    refine List.ext_getElem (by rw [h1, hi.len]) fun i ha hb => ?_
    have := key i (by omega)
    simpa [List.getD, ha, hb] using this
  refine ⟨hs, ?_⟩
  have ht := hi.top
  rw [List.take_of_length_le (by rw [hi.len]; exact Nat.le_refl _)] at ht
  rw [h3, hs, ← ht]
end Go.Proofs.YtjbhgimhcjcpmaaGreatDoor
