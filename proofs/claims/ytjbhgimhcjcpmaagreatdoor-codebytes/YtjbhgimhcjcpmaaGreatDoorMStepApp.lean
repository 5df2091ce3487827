/-
  A LAW: 'append(s, x)' of one element of k cells, in a region that draws its order.
-/
import Derived.Test.YtjbhgimhcjcpmaaGreatDoorMMem
import Derived.Deep.AppendLies
import Derived.Maps.AppendAt
import Derived.Laws.OwnMore
import Derived.Deep.RegionHeld3
import Derived.Laws.Append
import Derived.Laws.AppendOwn
import Derived.Laws.BytesArg
import Derived.Maps.RangeWalk
import Derived.Maps.Range
import Derived.Laws.BitsAllLaws
import Derived.IntWalk
set_option linter.unusedSimpArgs false
set_option linter.unusedVariables false
namespace Go.Proofs.YtjbhgimhcjcpmaaGreatDoor
open Go.RowKit

theorem step_app_k {P : Program} {ops : Array Oper} {o : Oper} {a : Act} {K : Act → World → Prop} {Q : Exit → Act → World → Prop} {E : Prop} {w0 : World} (hgd : o.guard = none) (s x : Operand) (t : TypeId)
    (ho : o.op = .call { callee := .builtin .append, args := #[s, x], argTypes := #[t, t] }) (e : TypeId) (z : Value) (k bytes : Nat)
    (ht : P.underlying t = some (.slice e)) (hinf : (P.info? e).map (fun i => (i.zero, i.size, i.bytes)) = some (some z, k, bytes)) (hz1 : z.cells.size = k) (hk : 0 < k)
    (us : Array Value) (n base : Nat) (v : Value) (xs : List Value) (hown : w0.ownsRow base e k v n xs) (hs : a.eval s = v) (hx : a.eval x = .slice (some ⟨w0.heap.size, 0, none⟩) 1 1)
    (hus : us.size = k) (hu : ∀ u ∈ us.toList, u.oneCell' = true) (hB : base ≤ w0.heap.size) (hbytes : (n + 1) * bytes ≤ 140737488355328) (hn : n + 1 ≤ maxLen)
    (h : ∀ g cap w', w'.ownsRow base e k (.slice (some ⟨g, 0, none⟩) (n + 1) cap) (n + 1) (xs ++ us.toList) → w0.grownBy w' v.ownBlock → K (a.put o.dst (.slice (some ⟨g, 0, none⟩) (n + 1) cap)) w') :
    if Region.wanted o (yielded ops a.tmps) = true then Oper.wp P o a (w0.alloc (.cells us e)) K Q else E := by
  obtain ⟨i, hi, hz, hsz, hby⟩ := info_parts hinf
  refine step_append_lies _ hgd s x t ho base e i z k bytes ht hi hz hsz hby hz1 hk v n xs hs (hown.alloc _) ⟨w0.heap.size, 0, none⟩ 1 1 us.toList hx (by simp [hus]) ?_ hu (by omega) hn hbytes (by simp; omega) (w0.heap.size + 1) (by simp) ?_
  · intro j u hj
    have : (w0.alloc (.cells us e)).cell? ⟨w0.heap.size, j, none⟩ = us.toList[j]? := by
      simp only [World.cell?, heap_alloc_new]
      simp
    rcases j with _ | j
    · simpa [Addr.add] using this.trans hj
    · simpa [Addr.add] using this.trans hj
  · intro g cap w' h1 h2 _ _
    exact h g cap w' h1 ((World.grownBy_alloc w0 _ _).trans h2)

/-- 'append(s, x...)' of a slice that can be read (nil too), onto what is owned, in a region that draws its order. -/
theorem step_app_arr {P : Program} {ops : Array Oper} {o : Oper} {a : Act} {K : Act → World → Prop} {Q : Exit → Act → World → Prop} {E : Prop} {w : World} (hgd : o.guard = none) (s x : Operand) (t : TypeId)
    (ho : o.op = .call { callee := .builtin .append, args := #[s, x], argTypes := #[t, t] }) (e : TypeId) (z : Value) (k bytes : Nat)
    (ht : P.underlying t = some (.slice e)) (hinf : (P.info? e).map (fun i => (i.zero, i.size, i.bytes)) = some (some z, k, bytes)) (hz1 : z.cells.size = k) (hk : 0 < k)
    (n m base B : Nat) (v sv : Value) (xs ys : List Value) (hown : w.ownsRow base e k v n xs) (harr : Arr B w k sv m ys) (hs : a.eval s = v) (hx : a.eval x = sv)
    (hu : ∀ u ∈ ys, u.oneCell' = true) (hB : base ≤ w.heap.size) (hbytes : (n + m) * bytes ≤ 140737488355328) (hn : n + m ≤ maxLen)
    (h : ∀ v' w', w'.ownsRow base e k v' (n + m) (xs ++ ys) → w.grownBy w' v.ownBlock → (v'.ownBlock = v.ownBlock ∨ v'.ownBlock = some w.heap.size) → K (a.put o.dst v') w') :
    if Region.wanted o (yielded ops a.tmps) = true then Oper.wp P o a w K Q else E := by
  obtain ⟨i, hi, hz, hsz, hby⟩ := info_parts hinf
  have hw : Region.wanted o (yielded ops a.tmps) = true := by simp [Region.wanted, hgd]
  rw [if_pos hw]
  have hrun : ∃ v' w', (Builtin.append_ #[t, t] o.type #[v, sv]).run P w = .ok v' w' ∧ w'.ownsRow base e k v' (n + m) (xs ++ ys) ∧ w.grownBy w' v.ownBlock ∧ (v'.ownBlock = v.ownBlock ∨ v'.ownBlock = some w.heap.size) := by
    obtain ⟨ao, c, rfl, hmc, hcm, hnc, hl, hc⟩ := harr
    rcases ao with _ | ad
    · obtain rfl := hnc rfl
      obtain rfl : m = 0 := by omega
      obtain rfl : ys = [] := by simpa using hl
      exact ⟨v, w, run_append_owned_none (P := P) (w := w) base t o.type e i k ht hi v n xs hown, by simpa using hown, World.grownBy.refl _ _, .inl rfl⟩
    · have hnews : ∀ j u, ys[j]? = some u → w.cell? (ad.add j) = some u := by
        intro j u hj
        have hjl : j < ys.length := (List.getElem?_eq_some_iff.1 hj).1
        rcases hc with h0 | ⟨b, off, ha, _, hcell⟩
        · subst h0; simp at hl; subst hl; simp at hjl
        · obtain rfl := Option.some.inj ha
          rw [Addr.add_lit, hcell j (by omega), hj]
      obtain ⟨v', w', h1, h2, h3, _, h5⟩ := run_append_own_at (P := P) w base t o.type e i z k bytes ht hi hz hsz hby hz1 hk v n xs hown ad m c ys hl hnews hu hn hbytes hB
      exact ⟨v', w', h1, h2, h3, h5⟩
  obtain ⟨v', w', hr, h1, h2, h3⟩ := hrun
  unfold Oper.wp
  simp [execOp, ho, resolve, invoke, builtin, hs, hx, hr, Result.andThen]
  exact h v' w' h1 h2 h3
theorem Arr.take {B : Nat} {w : World} {k : Nat} {ao : Option Addr} {n c : Nat} {xs : List Value} (h : Arr B w k (.slice ao n c) n xs) (m : Nat) (hm : m ≤ n) : Arr B w k (.slice ao m c) m (xs.take (m * k)) := by
  obtain ⟨ao', c', hv, hc, hx, hn, hl, h⟩ := h
  obtain ⟨h1, h3⟩ : ao = ao' ∧ c = c' := by simpa using hv
  subst h1 h3
  have hmk : m * k ≤ n * k := Nat.mul_le_mul_right _ hm
  refine ⟨ao, c, rfl, by omega, hx, hn, by rw [List.length_take]; omega, ?_⟩
  rcases h with h | ⟨b, off, ha, hlt, hcell⟩
  · exact .inl (by omega)
  · refine .inr ⟨b, off, ha, hlt, fun i hi => ?_⟩
    rw [hcell i (by omega), List.getElem?_take, if_pos hi]
end Go.Proofs.YtjbhgimhcjcpmaaGreatDoor

/-
  A LAW: 'append(s, x)' of one element onto what is owned, told with what the old slice reads as afterwards: what it read as.
-/
namespace Go.Proofs.YtjbhgimhcjcpmaaGreatDoor
open Go.RowKit

theorem app_keep {P : Program} {ops : Array Oper} {rest : List Oper} {o : Oper} {a : Act} {Q : Exit → Act → World → Prop} {w0 : World} (hgd : o.guard = none) (s x : Operand) (t : TypeId)
    (ho : o.op = .call { callee := .builtin .append, args := #[s, x], argTypes := #[t, t] }) (e : TypeId) (z : Value) (bytes : Nat)
    (ht : P.underlying t = some (.slice e)) (hinf : (P.info? e).map (fun i => (i.zero, i.size, i.bytes)) = some (some z, 1, bytes)) (hz1 : z.cells.size = 1)
    (u : Value) (n base : Nat) (g cap : Nat) (xs : List Value) (hown : w0.ownsRow base e 1 (.slice (some ⟨g, 0, none⟩) n cap) n xs) (hs : a.eval s = .slice (some ⟨g, 0, none⟩) n cap) (hx : a.eval x = .slice (some ⟨w0.heap.size, 0, none⟩) 1 1)
    (hu : u.oneCell' = true) (hB : base ≤ w0.heap.size) (hbytes : (n + 1) * bytes ≤ 140737488355328) (hn : n + 1 ≤ maxLen)
    (h : ∀ v' w', w'.ownsRow base e 1 v' (n + 1) (xs ++ [u]) → w'.ownsRow base e 1 (.slice (some ⟨g, 0, none⟩) n cap) n xs → w0.grownBy w' (some g) → (v'.ownBlock = some g ∨ v'.ownBlock = some (w0.heap.size + 1)) → wpList P ops Q rest (a.put o.dst v') w') :
    wpList P ops Q (o :: rest) a (w0.alloc (.cells #[u] e)) := by
  obtain ⟨i, hi, hz, hsz, hby⟩ := info_parts hinf
  have hW : (w0.alloc (.cells #[u] e)).heap.size = w0.heap.size + 1 := by rw [World.size_alloc]
  have hown1 := hown.alloc (.cells #[u] e)
  have hnews : ∀ j v, [u][j]? = some v → (w0.alloc (.cells #[u] e)).cell? ((⟨w0.heap.size, 0, none⟩ : Addr).add j) = some v := by
    intro j v hj
    rcases j with _ | j
    · simp only [List.getElem?_cons_zero, Option.some.injEq] at hj
      subst hj
      simp [Addr.add, cell_of_row (w0.alloc (.cells #[u] e)) w0.heap.size 0 #[u] e (0, 0) (heap_alloc_new _ _)]
    · simp at hj
  have h63 : n + 1 ≤ 9223372036854775807 := by unfold maxLen at hn; omega
  have hrun : ∃ v' w', (Builtin.append_ #[t, t] o.type #[.slice (some ⟨g, 0, none⟩) n cap, .slice (some ⟨w0.heap.size, 0, none⟩) 1 1]).run P (w0.alloc (.cells #[u] e)) = .ok v' w' ∧ w'.ownsRow base e 1 v' (n + 1) (xs ++ [u]) ∧
      w'.ownsRow base e 1 (.slice (some ⟨g, 0, none⟩) n cap) n xs ∧ (w0.alloc (.cells #[u] e)).grownBy w' (some g) ∧ (v'.ownBlock = some g ∨ v'.ownBlock = some (w0.heap.size + 1)) := by
    have hl := hown1.1
    rcases hown1.2 with ⟨hv, _⟩ | ⟨g', cap', cur, hv, hbg, hg, hnc, hcm, hcs, htk⟩
    · cases hv
    obtain ⟨rfl, rfl⟩ : g = g' ∧ cap = cap' := by simpa using hv
    simp only [Nat.mul_one] at hcs htk hl
    by_cases hr : n + 1 ≤ cap
    · have h1 := run_append_room (P := P) (w0.alloc (.cells #[u] e)) t o.type e i ht hi g n cap cur hg ⟨w0.heap.size, 0, none⟩ 1 1 [u] (by rw [hsz]; rfl) hnews (by intro v hv; rw [List.mem_singleton.1 hv]; exact hu) hr (by rw [hsz, hcs]; simp; omega)
      rw [hsz, Nat.mul_one] at h1
      have hset := setRow_heap (w0.alloc (.cells #[u] e)) g cur (cur.toList.take n ++ [u] ++ cur.toList.drop (n + [u].length)).toArray e (0, 0) hg
      have hsize : (cur.toList.take n ++ [u] ++ cur.toList.drop (n + [u].length)).toArray.size = cap * 1 := by
        simp only [List.size_toArray, List.length_append, List.length_take, List.length_drop, Array.length_toList, hcs, List.length_cons, List.length_nil]; omega
      have hxl : (cur.toList.take n).length = n := by rw [List.length_take, Array.length_toList, hcs]; omega
      refine ⟨_, _, h1, ⟨by simp [hl], .inr ⟨g, cap, _, rfl, hbg, hset, hr, hcm, hsize, ?_⟩⟩, ⟨by simpa using hl, .inr ⟨g, cap, _, rfl, hbg, hset, hnc, hcm, hsize, ?_⟩⟩, ⟨rfl, rfl, rfl, by simp, fun k _ hk => setRow_other _ g k _ (fun e => hk (by rw [e]))⟩, .inl rfl⟩
      · rw [Nat.mul_one, ← htk]
        have : (cur.toList.take n ++ [u]).length = n + 1 := by simp [hxl]
        rw [← this]; exact List.take_left
      · rw [Nat.mul_one]
        show List.take n (cur.toList.take n ++ [u] ++ cur.toList.drop (n + [u].length)) = xs
        rw [List.append_assoc, List.take_append_of_le_length (by omega), List.take_of_length_le (by omega), htk]
    · have h1 := run_append_grow (P := P) (w0.alloc (.cells #[u] e)) t o.type e i z ht hi hz ⟨g, 0, none⟩ n cap xs (by rw [hsz]; omega) (hown1.cells (g := g) rfl) ⟨w0.heap.size, 0, none⟩ 1 1 [u] (by rw [hsz]; rfl) hnews (by omega) (by omega) (growslice_fits (by omega) (by rw [hby]; exact hbytes))
      have hge := grownCap_ge (w0.alloc (.cells #[u] e)) (n + 1) cap e
      have hle := grownCap_le_maxLen (w0.alloc (.cells #[u] e)) (n + 1) cap e hn
      have hlt : g < (w0.alloc (.cells #[u] e)).heap.size := lt_of_block hg
      refine ⟨_, _, h1, ⟨by simp [hl], .inr ⟨_, _, _, rfl, by rw [hW]; omega, heap_alloc_new _ _, hge, hle, ?_, ?_⟩⟩, ⟨by simpa using hl, .inr ⟨g, cap, cur, rfl, hbg, (heap_alloc_old _ _ hlt).trans hg, hnc, hcm, by rw [Nat.mul_one]; exact hcs, by rw [Nat.mul_one]; exact htk⟩⟩,
        ⟨rfl, rfl, rfl, by simp, fun k hk _ => heap_alloc_old _ _ hk⟩, .inr (by simp [Value.ownBlock])⟩
      · simp only [Array.size_append, List.size_toArray, size_zeroCells, hz1, List.length_cons, List.length_nil]; omega
      · have hxl : (xs ++ [u]).length = n + 1 := by simp [hl]
        rw [Nat.mul_one]
        simp only [Array.toList_append]
        rw [List.take_append_of_le_length (by simpa using Nat.le_of_eq hxl.symm), List.take_of_length_le (by simpa using Nat.le_of_eq hxl)]
  obtain ⟨v', w', hr, h1, h2, h3, h4⟩ := hrun
  refine wpList_plain hgd fun K hK => ?_
  unfold Oper.wp
  simp [execOp, ho, resolve, invoke, builtin, hs, hx, hr, Result.andThen]
  exact hK _ _ (h v' w' h1 h2 (((World.grownBy_alloc w0 _ none).but _).andThen h3 fun j hj => .inr hj) h4)
end Go.Proofs.YtjbhgimhcjcpmaaGreatDoor

/-
  BYTES AS A STRING.
-/
namespace Go.Proofs.YtjbhgimhcjcpmaaGreatDoor
open Go.RowKit

/-- Bytes as a string. -/
def strB (bs : List Nat) : ByteArray := strOfNums (bs.map Int.ofNat)
theorem conv_arr {B : Nat} {W : World} {b off n c : Nat} {bs : List Nat} (h : Arr B W 1 (.slice (some ⟨b, off, none⟩) n c) n (bts bs)) (hn : bs.length = n) :
    (convert 33 9 (.slice (some ⟨b, off, none⟩) n c)).run Tryz.prog W = .ok (.string (strB bs)) W := by
  refine run_convert_bytes_arg (P := Tryz.prog) W 33 5 Tryz.underlying33 Tryz.underlying5 b off n c (bs.map Int.ofNat) (by simpa using hn) (fun i hi => ?_) 9 Tryz.underlying9
  obtain ⟨ao, c', hv, _, _, _, _, h⟩ := h
  rcases h with h | ⟨b', off', ha, _, hc⟩
  · omega
  · obtain ⟨h1, h2⟩ : some ⟨b, off, none⟩ = ao ∧ c = c' := by simpa using hv
    rw [← h1] at ha
    obtain ⟨h3, h4⟩ : b = b' ∧ off = off' := by simpa using ha
    subst h3 h4
    rw [hc i (by omega)]
    simp [bts, hn, hi]
theorem Arr.front {B : Nat} {w : World} {ao : Option Addr} {n c : Nat} {bs : List Nat} (h : Arr B w 1 (.slice ao n c) bs.length (bts bs)) (m : Nat) (hm : m ≤ bs.length) : Arr B w 1 (.slice ao m c) (bs.take m).length (bts (bs.take m)) := by
  obtain ⟨ao', c', hv, hc, hx, hn, hl, h⟩ := h
  obtain ⟨h1, h2, h3⟩ : ao = ao' ∧ n = bs.length ∧ c = c' := by simpa using hv
  subst h1 h2 h3
  have e : (bs.take m).length = m := by rw [List.length_take]; omega
  rw [e]
  refine ⟨ao, c, rfl, by omega, hx, hn, by rw [bts_length, e]; omega, ?_⟩
  rcases h with h | ⟨b, off, ha, hlt, hcell⟩
  · exact .inl (by omega)
  · refine .inr ⟨b, off, ha, hlt, fun i hi => ?_⟩
    rw [hcell i (by omega)]
    have : i < m := by omega
    simp [bts, this]

end Go.Proofs.YtjbhgimhcjcpmaaGreatDoor

/-
  PLAIN: a byte more of a word, put behind those that are there.
-/
namespace Go.Proofs.YtjbhgimhcjcpmaaGreatDoor
open Go.RowKit

theorem word_step (x C j : Nat) (hx : x < 256) (hj : j < 8) (hC : C < 256 ^ j) : bits .or .u64 (C : Int) (IntKind.u64.wrap ((x : Int) * 2 ^ (8 * j))) = ((C + x * 256 ^ j : Nat) : Int) := by
  have e : (256 : Nat) ^ j = 2 ^ (8 * j) := by rw [Nat.pow_mul]
  have hp : (256 : Nat) ^ j ≤ 256 ^ 7 := Nat.pow_le_pow_right (by decide) (by omega)
  have h7 : (256 : Nat) ^ 7 = 72057594037927936 := by decide
  have hb : x * 256 ^ j ≤ 255 * 72057594037927936 := Nat.mul_le_mul (by omega) (by omega)
  have e2 : (x : Int) * 2 ^ (8 * j) = ((x * 256 ^ j : Nat) : Int) := by rw [e]; norm_cast
  rw [e2, IntWalk.u64_in _ (by omega), u64_or_nat _ _ (by omega) (by omega)]
  have hd : x * 256 ^ j % 2 ^ (8 * j) = 0 := by rw [e]; simp
  rw [e] at hC hd ⊢
  rw [Nat.or_comm, nat_join (8 * j) _ C hd hC, Nat.add_comm]
end Go.Proofs.YtjbhgimhcjcpmaaGreatDoor

/-
  PLAIN LAW: a number's bytes, with anything behind them, are taken as that number.
-/
namespace Go.Proofs.YtjbhgimhcjcpmaaGreatDoor

theorem takeGo_num7 (r : List Nat) (m : Nat) : ∀ (i acc : Nat), acc + m * 128 ^ i ≤ 4294967295 → i ≤ 4 → (m = 0 → i = 0) → takeGo (num7 m ++ r) i acc = (acc + m * 128 ^ i, i + (num7 m).length) := by
  induction m using Nat.strongRecOn with
  | ind m ih =>
    intro i acc hb hi h0
    by_cases h : m < 128
    · rw [num7_small h]
      simp only [List.cons_append, List.nil_append, takeGo, List.length_cons, List.length_nil]
      rw [if_neg (by omega), if_neg (by omega), Nat.mod_eq_of_lt h, if_neg (by omega)]
    · rw [num7_big h]
      simp only [List.cons_append, takeGo, List.length_cons]
      have hp : (128 : Nat) ^ (i + 1) = 128 * 128 ^ i := by rw [Nat.pow_succ]; omega
      have hm : m = 128 * (m / 128) + m % 128 := by omega
      have hq : 1 ≤ m / 128 := by omega
      have he : m % 128 * 128 ^ i + m / 128 * 128 ^ (i + 1) = m * 128 ^ i := by
        rw [hp, ← Nat.mul_assoc, ← Nat.add_mul]; congr 1; omega
      have hi4 : i + 1 ≤ 4 := by
        rcases Nat.lt_or_ge i 4 with h4 | h4
        · omega
        · obtain rfl : i = 4 := by omega
          have : (128 : Nat) ^ 5 ≤ m / 128 * 128 ^ (4 + 1) := Nat.le_mul_of_pos_left _ hq
          have h5 : (128 : Nat) ^ 5 = 34359738368 := by decide
          omega
      rw [if_neg (by omega), if_pos (by omega)]
      rw [show (m % 128 + 128) % 128 = m % 128 by omega]
      rw [ih (m / 128) (by omega) (i + 1) (acc + m % 128 * 128 ^ i) (by omega) hi4 (by omega)]
      refine Prod.ext ?_ ?_
      · simp only; omega
      · simp only; omega

theorem takeNum_num7 (n : Nat) (r : List Nat) (h : n ≤ 4294967295) : takeNum (num7 n ++ r) = (n, (num7 n).length) := by
  have := takeGo_num7 r n 0 0 (by simpa using h) (by omega) (fun _ => rfl)
  simpa [takeNum] using this

theorem num7_bytes (n : Nat) : ∀ x ∈ num7 n, x < 256 := by
  induction n using Nat.strongRecOn with
  | ind n ih =>
    by_cases h : n < 128
    · rw [num7_small h]; intro x hx; simp at hx; omega
    · rw [num7_big h]; intro x hx
      rcases List.mem_cons.1 hx with rfl | hx
      · omega
      · exact ih _ (by omega) x hx
end Go.Proofs.YtjbhgimhcjcpmaaGreatDoor

/-
  THE PLAIN MIRRORS of code.Decode's cutter: what is taken from the front of bytes.
-/
namespace Go.Proofs.YtjbhgimhcjcpmaaGreatDoor

/-- A number at the front; none: there is none. -/
def pNum (bs : List Nat) : Option (Nat × List Nat) := if (takeNum bs).2 = 0 then none else some ((takeNum bs).1, bs.drop (takeNum bs).2)
/-- A number of things that have a byte each at least. -/
def pCount (bs : List Nat) : Option (Nat × List Nat) := (pNum bs).bind fun x => if x.2.length < x.1 then none else some x
/-- So many numbers. -/
def pNums : Nat → List Nat → Option (List Int × List Nat)
  | 0, bs => some ([], bs)
  | n + 1, bs => (pNum bs).bind fun x => (pNums n x.2).bind fun y => some ((x.1 : Int) :: y.1, y.2)
def pShape (bs : List Nat) : Option (List Int × List Nat) := (pCount bs).bind fun x => pNums x.1 x.2
def pShapeN : Nat → List Nat → Option (List (List Int) × List Nat)
  | 0, bs => some ([], bs)
  | n + 1, bs => (pShape bs).bind fun x => (pShapeN n x.2).bind fun y => some (x.1 :: y.1, y.2)
def pShapes (bs : List Nat) : Option (List (List Int) × List Nat) := (pCount bs).bind fun x => pShapeN x.1 x.2

theorem takeGo_le : ∀ (l : List Nat) (i n : Nat), (takeGo l i n).2 ≤ i + l.length ∧ (takeGo l i n).1 ≤ 4294967295
  | [], i, n => by simp [takeGo]
  | c :: l, i, n => by
    rw [takeGo]
    have h := takeGo_le l (i + 1) (n + c % 128 * 128 ^ i)
    split
    · simp
    · split
      · simp only [List.length_cons]; omega
      · split
        · simp
        · rename_i h3
          simp only [List.length_cons]; omega
theorem takeNum_le (l : List Nat) : (takeNum l).2 ≤ l.length ∧ (takeNum l).1 ≤ 4294967295 := by
  have := takeGo_le l 0 0; unfold takeNum; omega
theorem pNum_some {bs r : List Nat} {n : Nat} (h : pNum bs = some (n, r)) : ∃ s, takeNum bs = (n, s) ∧ s ≠ 0 ∧ s ≤ bs.length ∧ r = bs.drop s ∧ n ≤ 4294967295 ∧ r.length < bs.length := by
  unfold pNum at h
  have hle := takeNum_le bs
  split at h
  · cases h
  · rename_i h0
    simp only [Option.some.injEq, Prod.mk.injEq] at h
    obtain ⟨rfl, rfl⟩ := h
    exact ⟨_, rfl, h0, hle.1, rfl, hle.2, by rw [List.length_drop]; omega⟩
theorem pNum_none {bs : List Nat} (h : pNum bs = none) : (takeNum bs).2 = 0 := by
  unfold pNum at h
  split at h
  · assumption
  · cases h
theorem takeGo_zero : ∀ (l : List Nat) (i n : Nat), (takeGo l i n).2 = 0 → takeGo l i n = (0, 0)
  | [], i, n => by simp [takeGo]
  | c :: l, i, n => by
    rw [takeGo]
    have h := takeGo_zero l (i + 1) (n + c % 128 * 128 ^ i)
    split
    · simp
    · split
      · exact h
      · split
        · simp
        · simp
theorem pNum_none' {bs : List Nat} (h : pNum bs = none) : takeNum bs = (0, 0) := takeGo_zero _ _ _ (pNum_none h)
end Go.Proofs.YtjbhgimhcjcpmaaGreatDoor
