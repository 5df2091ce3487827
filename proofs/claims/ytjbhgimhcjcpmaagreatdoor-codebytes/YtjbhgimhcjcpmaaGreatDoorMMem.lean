/-
  WORDS ON MEMORY over any program: a slice that is read ('Arr'), what is appended by one element, and how these are carried from world to world.
-/
import Derived.WalkKit
import Derived.WalkSpells
import Derived.Lib.Hide
import Derived.Maps.AppendAt
import Derived.Laws.AppendOwnNone
import Derived.Test.YtjbhgimhcjcpmaaGreatDoorProg
import Derived.WalkLawsBesides
import Derived.Lib.AppendZeros
set_option linter.unusedSimpArgs false
set_option linter.unusedVariables false
namespace Go.Proofs.YtjbhgimhcjcpmaaGreatDoor
open Go.RowKit

/-- The slice value v reads, in w and below block B, as n elements of k cells each: xs. -/
def Arr (B : Nat) (w : World) (k : Nat) (v : Value) (n : Nat) (xs : List Value) : Prop :=
  ∃ ao c, v = .slice ao n c ∧ n ≤ c ∧ c ≤ maxLen ∧ (ao = none → c = 0) ∧ xs.length = n * k ∧
    (n = 0 ∨ ∃ b off, ao = some ⟨b, off, none⟩ ∧ b < B ∧ ∀ i, i < n * k → w.cell? ⟨b, off + i, none⟩ = xs[i]?)

theorem Arr.nil (B : Nat) (w : World) (k : Nat) : Arr B w k (.slice none 0 0) 0 [] :=
  ⟨none, 0, rfl, Nat.le_refl _, by unfold maxLen; omega, fun _ => rfl, by simp, .inl rfl⟩

theorem Arr.later {B B' : Nat} {w w' : World} {k : Nat} {v : Value} {n : Nat} {xs : List Value} (h : Arr B w k v n xs) (hb : Below B w w') (hB : B ≤ B') : Arr B' w' k v n xs := by
  obtain ⟨ao, c, hv, hc, hm, hn, hl, h⟩ := h
  refine ⟨ao, c, hv, hc, hm, hn, hl, ?_⟩
  rcases h with h | ⟨b, off, ha, hlt, hcell⟩
  · exact .inl h
  · exact .inr ⟨b, off, ha, by omega, fun i hi => (hb.cell (p := ⟨b, off + i, none⟩) hlt).trans (hcell i hi)⟩

/-- The form in which a walk reads it: the slice value written out; the cells, where there is an element. -/
theorem Arr.open {B : Nat} {w : World} {k : Nat} {v : Value} {n : Nat} {xs : List Value} (h : Arr B w k v n xs) :
    ∃ ao c, v = .slice ao n c ∧ n ≤ c ∧ c ≤ maxLen ∧ xs.length = n * k ∧ (0 < n → ∃ b off, ao = some ⟨b, off, none⟩ ∧ b < B ∧ ∀ i, i < n * k → w.cell? ⟨b, off + i, none⟩ = xs[i]?) := by
  obtain ⟨ao, c, hv, hc, hm, _, hl, h⟩ := h
  refine ⟨ao, c, hv, hc, hm, hl, fun hn => ?_⟩
  rcases h with h | h
  · omega
  · exact h

theorem Arr.len {B : Nat} {w : World} {k : Nat} {v : Value} {n : Nat} {xs : List Value} (h : Arr B w k v n xs) : xs.length = n * k := by
  obtain ⟨_, _, _, _, _, _, hl, _⟩ := h; exact hl

/-- What is owned can be read. -/
theorem Arr.of_owns {w : World} {base : Nat} {e : TypeId} {k : Nat} {v : Value} {n : Nat} {xs : List Value} (h : w.ownsRow base e k v n xs) : Arr w.heap.size w k v n xs := by
  rcases h.2 with ⟨rfl, rfl⟩ | ⟨g, cap, cur, rfl, _, hg, hnc, hcm, hcs, ht⟩
  · have : xs = [] := by have := h.1; simpa using this
    subst this; exact Arr.nil _ _ _
  · refine ⟨_, cap, rfl, hnc, hcm, (fun h => by cases h), h.1, .inr ⟨g, 0, rfl, lt_of_block hg, fun i hi => ?_⟩⟩
    have := h.cellAt i hi
    simpa using this

theorem Below.owns {w w' : World} {base : Nat} {e : TypeId} {k : Nat} {v : Value} {n : Nat} {xs : List Value} (h : w.ownsRow base e k v n xs) (hb : Below w.heap.size w w') : w'.ownsRow base e k v n xs := by
  rcases h.2 with h0 | ⟨g, cap, cur, hv, hbg, hg, hr⟩
  · exact ⟨h.1, .inl h0⟩
  · exact ⟨h.1, .inr ⟨g, cap, cur, hv, hbg, (hb.block g (lt_of_block hg)).trans hg, hr⟩⟩

theorem owns_base {w : World} {base base' : Nat} {e : TypeId} {k : Nat} {v : Value} {n : Nat} {xs : List Value} (h : w.ownsRow base e k v n xs) (hb : base' ≤ base) : w.ownsRow base' e k v n xs := by
  rcases h.2 with h0 | ⟨g, cap, cur, hv, hbg, hg, hr⟩
  · exact ⟨h.1, .inl h0⟩
  · exact ⟨h.1, .inr ⟨g, cap, cur, hv, by omega, hg, hr⟩⟩

/-- 'append(s, x)' of one element of k cells, onto what is owned. -/
theorem app_k {P : Program} {ops : Array Oper} {rest : List Oper} {o : Oper} {a : Act} {Q : Exit → Act → World → Prop} {w0 : World} (hgd : o.guard = none) (s x : Operand) (t : TypeId)
    (ho : o.op = .call { callee := .builtin .append, args := #[s, x], argTypes := #[t, t] }) (e : TypeId) (z : Value) (k bytes : Nat)
    (ht : P.underlying t = some (.slice e)) (hinf : (P.info? e).map (fun i => (i.zero, i.size, i.bytes)) = some (some z, k, bytes)) (hz1 : z.cells.size = k) (hk : 0 < k)
    (us : Array Value) (n base : Nat) (v : Value) (xs : List Value) (hown : w0.ownsRow base e k v n xs) (hs : a.eval s = v) (hx : a.eval x = .slice (some ⟨w0.heap.size, 0, none⟩) 1 1)
    (hus : us.size = k) (hu : ∀ u ∈ us.toList, u.oneCell' = true) (hB : base ≤ w0.heap.size) (hbytes : (n + 1) * bytes ≤ 140737488355328) (hn : n + 1 ≤ maxLen)
    (h : ∀ v' w', w'.ownsRow base e k v' (n + 1) (xs ++ us.toList) → w0.grownBy w' v.ownBlock → (v'.ownBlock = v.ownBlock ∨ v'.ownBlock = some (w0.heap.size + 1)) → wpList P ops Q rest (a.put o.dst v') w') :
    wpList P ops Q (o :: rest) a (w0.alloc (.cells us e)) := by
  obtain ⟨i, hi, hz, hsz, hby⟩ := info_parts hinf
  refine wpList_append_own_at _ hgd s x t ho base e i z k bytes ht hi hz hsz hby hz1 hk v n xs hs (hown.alloc _) ⟨w0.heap.size, 0, none⟩ 1 1 us.toList hx (by simp [hus]) ?_ hu hn hbytes (by simp; omega) ?_
  · intro j u hj
    have hjl : j < us.toList.length := (List.getElem?_eq_some_iff.1 hj).1
    have : (w0.alloc (.cells us e)).cell? ⟨w0.heap.size, j, none⟩ = us.toList[j]? := by
      simp only [World.cell?, heap_alloc_new]
      simp
    rcases j with _ | j
    · simpa [Addr.add] using this.trans hj
    · simpa [Addr.add] using this.trans hj
  · intro v' w' h1 h2 _ h4
    refine h v' w' h1 ((World.grownBy_alloc w0 _ _).trans h2) ?_
    rcases h4 with h4 | h4
    · exact .inl h4
    · exact .inr (by simpa using h4)

/-- 'append(s, x...)' of a slice that can be read, onto what is owned. -/
theorem app_arr {P : Program} {ops : Array Oper} {rest : List Oper} {o : Oper} {a : Act} {Q : Exit → Act → World → Prop} {w : World} (hgd : o.guard = none) (s x : Operand) (t : TypeId)
    (ho : o.op = .call { callee := .builtin .append, args := #[s, x], argTypes := #[t, t] }) (e : TypeId) (z : Value) (k bytes : Nat)
    (ht : P.underlying t = some (.slice e)) (hinf : (P.info? e).map (fun i => (i.zero, i.size, i.bytes)) = some (some z, k, bytes)) (hz1 : z.cells.size = k) (hk : 0 < k)
    (n m base B : Nat) (v sv : Value) (xs ys : List Value) (hown : w.ownsRow base e k v n xs) (harr : Arr B w k sv m ys) (hs : a.eval s = v) (hx : a.eval x = sv)
    (hu : ∀ u ∈ ys, u.oneCell' = true) (hB : base ≤ w.heap.size) (hbytes : (n + m) * bytes ≤ 140737488355328) (hn : n + m ≤ maxLen)
    (h : ∀ v' w', w'.ownsRow base e k v' (n + m) (xs ++ ys) → w.grownBy w' v.ownBlock → (v'.ownBlock = v.ownBlock ∨ v'.ownBlock = some w.heap.size) → wpList P ops Q rest (a.put o.dst v') w') :
    wpList P ops Q (o :: rest) a w := by
  obtain ⟨i, hi, hz, hsz, hby⟩ := info_parts hinf
  obtain ⟨ao, c, rfl, hmc, hcm, hnc, hl, hc⟩ := harr
  rcases ao with _ | ad
  · obtain rfl := hnc rfl
    obtain rfl : m = 0 := by omega
    obtain rfl : ys = [] := by simpa using hl
    refine wpList_append_own_none hgd s x t ho base e i k ht hi v n xs hs hown hx ?_
    exact h v w (by simpa using hown) (World.grownBy.refl _ _) (.inl rfl)
  · refine wpList_append_own_at _ hgd s x t ho base e i z k bytes ht hi hz hsz hby hz1 hk v n xs hs hown ad m c ys hx hl ?_ hu hn hbytes hB (fun v' w' h1 h2 _ h4 => h v' w' h1 h2 h4)
    intro j u hj
    have hjl : j < ys.length := (List.getElem?_eq_some_iff.1 hj).1
    rcases hc with h0 | ⟨b, off, ha, _, hcell⟩
    · subst h0; simp at hl; subst hl; simp at hjl
    · obtain rfl := Option.some.inj ha
      rw [Addr.add_lit, hcell j (by omega), hj]

/-- A block behind a store into it. -/
theorem heap_setCell {w : World} {b j : Nat} {cs : Array Value} {t : TypeId} {fr : Nat × Nat} (h : w.heap[b]? = some (.cells cs t fr)) (v : Value) :
    (w.setCell ⟨b, j, none⟩ v).heap[b]? = some (.cells (cs.setIfInBounds j v) t fr) := by
  have hb : b < w.heap.size := lt_of_block h
  simp [World.setCell, Array.getElem?_modify, h]
theorem heap_setCell_other' {w : World} {b j k : Nat} (h : k ≠ b) (v : Value) : (w.setCell ⟨b, j, none⟩ v).heap[k]? = w.heap[k]? := Below.heap_setCell w _ _ k h

/-- Slice values, each with the cells (one an element) that it reads as. -/
def Nest (B : Nat) (w : World) : List Value → List (List Value) → Prop
  | [], [] => True
  | v :: vs, r :: rs => Arr B w 1 v r.length r ∧ Nest B w vs rs
  | _, _ => False
theorem Nest.length {B : Nat} {w : World} : ∀ {vs : List Value} {rs : List (List Value)}, Nest B w vs rs → vs.length = rs.length
  | [], [], _ => rfl
  | _ :: _, _ :: _, h => by have := h.2.length; simp [this]
theorem Nest.later {B B' : Nat} {w w' : World} (hb : Below B w w') (hB : B ≤ B') : ∀ {vs : List Value} {rs : List (List Value)}, Nest B w vs rs → Nest B' w' vs rs
  | [], [], _ => trivial
  | _ :: _, _ :: _, h => ⟨h.1.later hb hB, h.2.later hb hB⟩
theorem Nest.get {B : Nat} {w : World} : ∀ {vs : List Value} {rs : List (List Value)} (_ : Nest B w vs rs) (i : Nat) (h1 : i < vs.length) (h2 : i < rs.length), Arr B w 1 vs[i] rs[i].length rs[i]
  | _ :: _, _ :: _, h, 0, _, _ => h.1
  | _ :: _, _ :: _, h, i + 1, h1, h2 => h.2.get i (by simpa using h1) (by simpa using h2)
theorem Nest.append {B : Nat} {w : World} : ∀ {vs us : List Value} {rs qs : List (List Value)}, Nest B w vs rs → Nest B w us qs → Nest B w (vs ++ us) (rs ++ qs)
  | [], _, [], _, _, h => h
  | _ :: _, _, _ :: _, _, h, k => ⟨h.1, h.2.append k⟩

end Go.Proofs.YtjbhgimhcjcpmaaGreatDoor

/-
  THE CONTRACTS of package wire's numbers: wire.number, wire.Number, code.number.
-/
namespace Go.Proofs.YtjbhgimhcjcpmaaGreatDoor
open Go.RowKit

theorem info_u8 : (Tryz.prog.info? 5).map (fun i => (i.zero, i.size, i.bytes)) = some (some (.int .u8 0), 1, 1) := by kernel_rfl

/-- A number's bytes, seven bits each, the lowest first. -/
def num7 (n : Nat) : List Nat := if n < 128 then [n] else (n % 128 + 128) :: num7 (n / 128)
termination_by n
decreasing_by omega

theorem num7_small {n : Nat} (h : n < 128) : num7 n = [n] := by rw [num7, if_pos h]
theorem num7_big {n : Nat} (h : ¬ n < 128) : num7 n = (n % 128 + 128) :: num7 (n / 128) := by rw [num7, if_neg h]

theorem num7_len (n : Nat) : 1 ≤ (num7 n).length ∧ (num7 n).length ≤ n + 1 := by
  induction n using Nat.strongRecOn with
  | ind n ih =>
    rw [num7]; split
    · simp
    · have := ih (n / 128) (by omega); simp only [List.length_cons]; omega

/-- Bytes as cells. -/
def bts (l : List Nat) : List Value := l.map fun (x : Nat) => Value.int .u8 (x : Int)
theorem bts_append (a b : List Nat) : bts (a ++ b) = bts a ++ bts b := by simp [bts]
theorem bts_one (l : List Nat) : ∀ u ∈ bts l, u.oneCell' = true := by
  intro u hu; simp only [bts, List.mem_map] at hu; obtain ⟨x, _, rfl⟩ := hu; rfl
theorem bts_length (a : List Nat) : (bts a).length = a.length := by simp [bts]

theorem or128 (m : Nat) : bits .or .u8 ((m : Int) % 256) 128 = ((m % 128 + 128 : Nat) : Int) := by
  have h : ∀ x : Fin 256, bits .or .u8 ((x.val : Nat) : Int) 128 = ((x.val % 128 + 128 : Nat) : Int) := by decide +kernel
  have := h ⟨m % 256, by omega⟩
  simp only at this
  rw [show ((m : Int) % 256) = ((m % 256 : Nat) : Int) by omega, this]
  omega
theorem and127 (c : Nat) (hc : c < 256) : bits .and .u8 (c : Int) 127 = ((c % 128 : Nat) : Int) := by
  have h : ∀ x : Fin 256, bits .and .u8 ((x.val : Nat) : Int) 127 = ((x.val % 128 : Nat) : Int) := by decide +kernel
  exact h ⟨c, hc⟩

set_option maxHeartbeats 400000 in
set_option maxRecDepth 100000 in
theorem number_any (n : Nat) (w : World) (hn : n ≤ 4294967295) :
    Calls Tryz.prog 93 #[.int .i64 n] w fun e w' => ∃ v, e = .returned v ∧ w'.ownsRow w.heap.size 5 1 v (num7 n).length (bts (num7 n)) ∧ Below w.heap.size w w' := by
  go_enter Tryz.func93, Tryz.ntmps93
  go_wp2
  go_loopw [0, 3] (fun x v wr => ∃ (m : Nat) (pre : List Nat), m ≤ n ∧ x = .int .i64 m ∧ Hid (pre ++ num7 m = num7 n) ∧ wr.ownsRow w.heap.size 5 1 v pre.length (bts pre) ∧ Below w.heap.size w wr)
     (fun x _ _ => (intOf x).toNat)
  case atStart => exact ⟨n, [], Nat.le_refl _, rfl, rfl, World.ownsRow_nil _ _ _ _, Below.refl _ _⟩
  case round =>
    obtain ⟨m, pre, hm, rfl, H, hown, hb⟩ := hrel
    have hsz := hb.size
    have hp : pre.length ≤ n := by have := congrArg List.length H.out; have := num7_len n; have := num7_len m; simp only [List.length_append] at *; omega
    by_cases h : m < 128
    · go_wp2_with (at_builtin; refine app_k rfl _ _ 33 rfl 5 (.int .u8 0) 1 1 Tryz.underlying33 info_u8 rfl (by decide) #[_] _ _ _ _ hown rfl rfl rfl (by intro u hu; simp at hu; subst hu; rfl) (by omega) (by omega) (by unfold maxLen; omega) ?_; intro v1 w1 hown1 hg1 _)
      go_ret
      refine ⟨_, rfl, ?_, hb.grown hg1 hsz (fun k hk => (hown.lt k hk).1)⟩
      rw [← H.out, num7_small h, bts_append, List.length_append]
      exact hown1
    · go_wp2_with (at_builtin; refine app_k rfl _ _ 33 rfl 5 (.int .u8 0) 1 1 Tryz.underlying33 info_u8 rfl (by decide) #[_] _ _ _ _ hown rfl rfl rfl (by intro u hu; simp at hu; subst hu; rfl) (by omega) (by omega) (by unfold maxLen; omega) ?_; intro v1 w1 hown1 hg1 _)
      go_roundw
      case rel =>
        refine ⟨m / 128, pre ++ [m % 128 + 128], by omega, by go_num, ?_, ?_, hb.grown hg1 hsz (fun k hk => (hown.lt k hk).1)⟩
        · unfold Hid; rw [← H.out, num7_big h]; simp
        · rw [bts_append, List.length_append]; rw [or128] at hown1; exact hown1
      case measure => simp [intOf]; omega

theorem pow128 {N k : Nat} (h : N < 128 ^ (k + 1)) (hk : k ≤ 4) : N < 34359738368 := by
  have h5 : (128 : Nat) ^ (k + 1) ≤ 128 ^ 5 := Nat.pow_le_pow_right (by decide) (by omega)
  have h6 : (128 : Nat) ^ 5 = 34359738368 := by decide
  omega
theorem take_step (m c k : Nat) (hc : c < 256) (hm : m < 128 ^ k) (hk : k ≤ 4) :
    bits .or .i64 (m : Int) (wrap64 (wrap64 (bits .and .u8 (c : Int) 127) * 2 ^ (7 * k))) = ((m + c % 128 * 128 ^ k : Nat) : Int) := by
  have hp : (128 : Nat) ^ k ≤ 128 ^ 4 := Nat.pow_le_pow_right (by decide) hk
  have h4 : (128 : Nat) ^ 4 = 268435456 := by decide
  have hx : c % 128 * 128 ^ k ≤ 127 * 268435456 := Nat.mul_le_mul (by omega) (by omega)
  rw [and127 c hc, show wrap64 ((c % 128 : Nat) : Int) = ((c % 128 : Nat) : Int) from IntWalk.wrap64_in _ ⟨by omega, by omega⟩]
  rw [show ((c % 128 : Nat) : Int) * 2 ^ (7 * k) = ((c % 128 * 128 ^ k : Nat) : Int) by rw [Int.pow_mul]; norm_cast]
  rw [IntWalk.wrap64_in _ ⟨by omega, by omega⟩]
  have := bits_nat .i64 36 (by decide) (by intro n h0 h1; rw [IntKind.wrap_i64]; omega) m (c % 128 * 128 ^ k) (by omega) (by omega)
  rw [this.2]
  have hd : c % 128 * 128 ^ k % 128 ^ k = 0 := by simp
  have hk7 : (128 : Nat) ^ k = 2 ^ (7 * k) := by rw [Nat.pow_mul]
  rw [hk7] at hd hm ⊢
  rw [Nat.or_comm, nat_join (7 * k) _ m hd hm, Nat.add_comm]

/-- The number at the front of bytes, and how many bytes it has; (0, 0): there is none. -/
def takeGo : List Nat → Nat → Nat → Nat × Nat
  | [], _, _ => (0, 0)
  | c :: l, i, n =>
    if i = 5 then (0, 0)
    else if 128 ≤ c then takeGo l (i + 1) (n + c % 128 * 128 ^ i)
    else if 4294967295 < n + c % 128 * 128 ^ i ∨ c = 0 ∧ 0 < i then (0, 0) else (n + c % 128 * 128 ^ i, i + 1)
def takeNum (l : List Nat) : Nat × Nat := takeGo l 0 0

set_option maxHeartbeats 400000 in
set_option maxRecDepth 100000 in
theorem takeNumber_any (v : Value) (bs : List Nat) (w : World) (hv : Arr w.heap.size w 1 v bs.length (bts bs)) (h8 : ∀ x ∈ bs, x < 256) :
    Calls Tryz.prog 59 #[v] w fun e w' => e = .returned (.tuple #[.int .i64 ((takeNum bs).1 : Nat), .int .i64 ((takeNum bs).2 : Nat)]) ∧ w = w' := by
  obtain ⟨ao, c, rfl, hc, hm, hl, hcell⟩ := hv.open
  unfold maxLen at hm
  go_enter Tryz.func59, Tryz.ntmps59
  go_wp2
  go_loop [4, 9] (fun x i => ∃ (k m : Nat), k ≤ bs.length ∧ k ≤ 5 ∧ m < 128 ^ k ∧ x = .int .i64 m ∧ i = .int .i64 k ∧ Hid (takeGo (bs.drop k) k m = takeNum bs)) (fun _ i => bs.length - (intOf i).toNat)
  case atStart => exact ⟨0, 0, Nat.zero_le _, by omega, by simp, rfl, rfl, rfl⟩
  case round =>
    obtain ⟨k, m, hk, hk5, hmk, rfl, rfl, H⟩ := hrel
    by_cases hkl : k < bs.length
    · obtain ⟨b, off, rfl, hb, hcells⟩ := hcell (by omega)
      have hcx : w.cell? ⟨b, off + k, none⟩ = some (.int .u8 (bs[k] : Nat)) := by rw [hcells k (by omega)]; simp [bts, hkl]
      clear hcells hcell
      have hc0 : bs[k] < 256 := h8 _ (List.getElem_mem _)
      have hd : bs.drop k = bs[k] :: bs.drop (k + 1) := List.drop_eq_getElem_cons hkl
      generalize bs[k] = c0 at hcx hc0 hd
      by_cases h5 : k = 5
      · subst h5
        rw [hd] at H
        go_wp2
        go_ret2
        refine ⟨?_, by first | rfl | trivial⟩
        rw [← H.out]; simp [takeGo]
      · have e1 := take_step m c0 k hc0 hmk (by omega)
        generalize hN : m + c0 % 128 * 128 ^ k = N at e1
        have hN2 : N < 128 ^ (k + 1) := by
          rw [← hN, Nat.pow_succ]
          have h1 : c0 % 128 * 128 ^ k ≤ 127 * 128 ^ k := Nat.mul_le_mul_right _ (by omega)
          omega
        have HN := pow128 hN2 (by omega)
        by_cases h128 : 128 ≤ c0
        · have H2 : Hid (takeGo (bs.drop (k + 1)) (k + 1) N = takeNum bs) := by
            unfold Hid; rw [← H.out, hd, takeGo, if_neg h5, if_pos h128, hN]
          clear hN hd H
          have hk5' : ((k : Int) == 5) = false := by simp; omega
          have hk4 : k ≤ 4 := by omega
          clear h5
          go_wp2
          go_round
          case rel => exact ⟨k + 1, N, by omega, by omega, hN2, rfl, by go_num, H2⟩
          case measure => simp [intOf]; omega
        · have H2 : Hid ((if 4294967295 < N ∨ c0 = 0 ∧ 0 < k then (0, 0) else (N, k + 1)) = takeNum bs) := by
            unfold Hid; rw [← H.out, hd, takeGo, if_neg h5, if_neg h128, hN]
          clear hN hd H hN2
          have hk5' : ((k : Int) == 5) = false := by simp; omega
          have hk4 : k ≤ 4 := by omega
          clear h5
          by_cases hbig : 4294967295 < N
          · go_wp2
            all_goals go_ret2
            all_goals (refine ⟨?_, by first | rfl | trivial⟩; rw [← H2.out, if_pos (.inl hbig)]; rfl)
          · by_cases hz : c0 = 0
            · subst hz
              by_cases hk0 : 0 < k
              · go_wp2
                all_goals go_ret2
                all_goals (refine ⟨?_, by first | rfl | trivial⟩; rw [← H2.out, if_pos (by simp; omega)]; rfl)
              · have : k = 0 := by omega
                subst this
                simp only [Nat.add_zero] at hcx
                simp only [Nat.mul_zero, Int.pow_zero, Int.mul_one, Int.natCast_zero] at e1
                go_wp2
                all_goals go_ret2
                all_goals (refine ⟨?_, by first | rfl | trivial⟩; rw [← H2.out, if_neg (by omega)]; rfl)
            · have hz' : ((c0 : Int) == 0) = false := by simp; omega
              go_wp2
              all_goals go_ret2
              all_goals (refine ⟨?_, by first | rfl | trivial⟩; rw [← H2.out, if_neg (by omega)]; rfl)
    · have : bs.drop k = [] := List.drop_eq_nil_of_le (by omega)
      rw [this] at H
      go_wp2
      go_ret2
      refine ⟨?_, by first | rfl | trivial⟩
      rw [← H.out]; rfl
end Go.Proofs.YtjbhgimhcjcpmaaGreatDoor

/-
  THE CONTRACTS of slices.Grow, slices.Concat at []byte.
-/
namespace Go.Proofs.YtjbhgimhcjcpmaaGreatDoor
open Go.RowKit

set_option maxHeartbeats 400000 in
set_option maxRecDepth 100000 in
theorem growNil_any (n : Nat) (w : World) (hn : n ≤ 1099511627776) :
    Calls Tryz.prog 57 #[.slice none 0 0, .int .i64 n] w fun e w' => ∃ v, e = .returned v ∧ w'.ownsRow w.heap.size 5 1 v 0 [] ∧ Below w.heap.size w w' := by
  obtain ⟨i, hi, hz, hsz, hby⟩ := info_parts info_u8
  by_cases h0 : n = 0
  · subst h0
    go_enter Tryz.func57, Tryz.ntmps57
    go_wp2
    go_ret
    exact ⟨_, rfl, World.ownsRow_nil _ _ _ _, Below.refl _ _⟩
  · have hr := Lib.run_append_nil_zeros (P := Tryz.prog) w 33 3 33 5 i (.int .u8 0) .i64 .i64 Tryz.underlying33 Tryz.underlying3 hi hz n (by omega) (by omega) (by omega) (by rw [hby]; omega)
    have hpos : (0 : Int) < n := by omega
    go_enter Tryz.func57, Tryz.ntmps57
    go_wp2_with (at_builtin; refine Lib.wpList_append_run _ rfl _ _ _ _ rfl _ _ rfl rfl _ _ hr ?_)
    go_ret
    have hge := grownCap_ge w n 0 5
    have hle := grownCap_le_maxLen w n 0 5 (by unfold maxLen; omega)
    refine ⟨_, rfl, ?_, ((Below.refl _ _).alloc (Nat.le_refl _) _).drew⟩
    refine World.ownsRow.drew (World.ownsRow_made w _ _ (Nat.le_refl _) hle ?_)
    rw [Array.size_append, size_zeroCells, size_zeroCells]
    simp; omega

/-- The bytes of byte lists, end to end. -/
def flat (bss : List (List Nat)) : List Nat := bss.flatten

theorem flat_take (bss : List (List Nat)) (k : Nat) (h : k < bss.length) : flat (bss.take (k + 1)) = flat (bss.take k) ++ bss[k] := by
  
  unfold flat; rw [List.take_succ_eq_append_getElem h]; simp only [List.flatten_append, List.flatten_cons, List.flatten_nil, List.append_nil]
theorem flat_take_le (bss : List (List Nat)) (k : Nat) : (flat (bss.take k)).length ≤ (flat bss).length := by
  have : flat bss = flat (bss.take k) ++ flat (bss.drop k) := by simp [flat, ← List.flatten_append]
  rw [this]; simp

set_option maxHeartbeats 1000000 in
set_option maxRecDepth 100000 in
theorem concat_any (v : Value) (vs : List Value) (bss : List (List Nat)) (w : World) (hv : Arr w.heap.size w 1 v vs.length vs) (hvs : Nest w.heap.size w vs (bss.map bts)) (hlen : (flat bss).length ≤ 1099511627776) :
    Calls Tryz.prog 20 #[v] w fun e w' => ∃ r, e = .returned r ∧ w'.ownsRow w.heap.size 5 1 r (flat bss).length (bts (flat bss)) ∧ Below w.heap.size w w' := by
  have hl := hvs.length
  simp only [List.length_map] at hl
  obtain ⟨ao, c, rfl, hc, hm, hl', hcell⟩ := hv.open
  have HV := Lib.hid hvs
  have HC := Lib.hid hcell
  unfold maxLen at hm
  clear hvs hv hl' hcell
  go_enter Tryz.func20, Tryz.ntmps20
  go_wp2_with fail
  go_loop [3, 11] (fun x i => ∃ k : Nat, k ≤ vs.length ∧ i = .int .i64 k ∧ x = .int .i64 ((flat (bss.take k)).length : Nat)) (fun _ i => vs.length - (intOf i).toNat)
  case atStart => exact ⟨0, Nat.zero_le _, rfl, rfl⟩
  case round =>
    obtain ⟨k, hk, rfl, rfl⟩ := hrel
    by_cases hkl : k < vs.length
    · obtain ⟨b, off, rfl, hb, hcells⟩ := HC.out (by omega)
      have hkb : k < bss.length := by omega
      have ha := HV.out.get k hkl (by simpa using hkb)
      simp only [List.getElem_map] at ha
      obtain ⟨ao1, c1, hv1, hc1, hm1, hl1, _⟩ := ha.open
      have hcx : w.cell? ⟨b, off + k, none⟩ = some (.slice ao1 bss[k].length c1) := by rw [hcells k (by omega)]; simp [hkl, hv1, bts_length]
      have hle := flat_take_le bss (k + 1)
      rw [flat_take bss k hkb, List.length_append] at hle
      have HF := Lib.hid (flat_take bss k hkb)
      generalize bss[k] = bs0 at hcx hle HF
      generalize flat (bss.take k) = f0 at hle HF ⊢
      clear hcells HV HC ha hv1
      go_wp2
      go_round
      case rel => exact ⟨k + 1, by omega, by go_num, by rw [HF.out, List.length_append]; go_num⟩
      case measure => simp [intOf]; omega
    · obtain rfl : k = vs.length := by omega
      have hle := flat_take_le bss vs.length
      have ht : bss.take vs.length = bss := List.take_of_length_le (by omega)
      rw [ht]
      go_wp2_with (go_at_call 57; refine (growNil_any (flat bss).length _ (by omega)).mono ?_; rintro e w1 ⟨v1, rfl, hown, hb⟩)
      have hsz := hb.size
      go_loopw [6, 27] (fun x i wr => ∃ k : Nat, k ≤ vs.length ∧ i = .int .i64 k ∧ wr.ownsRow w.heap.size 5 1 x (flat (bss.take k)).length (bts (flat (bss.take k))) ∧ Below w.heap.size w wr) (fun _ i _ => vs.length - (intOf i).toNat)
      case atStart => exact ⟨0, Nat.zero_le _, rfl, hown, hb⟩
      case round =>
        obtain ⟨k, hk, rfl, hownr, hbr⟩ := hrel
        by_cases hkl : k < vs.length
        · obtain ⟨b, off, rfl, hbl, hcells⟩ := HC.out (by omega)
          have hkb : k < bss.length := by omega
          have ha := (HV.out.get k hkl (by simpa using hkb)).later hbr hbr.size
          simp only [List.getElem_map] at ha
          have hv1 : ∃ sv, vs[k] = sv := ⟨_, rfl⟩
          obtain ⟨sv, hsv⟩ := hv1
          have hcx : wr.cell? ⟨b, off + k, none⟩ = some sv := by rw [hbr.cell hbl, hcells k (by omega)]; simp [hkl, hsv]
          rw [hsv] at ha
          have hle := flat_take_le bss (k + 1)
          rw [flat_take bss k hkb, List.length_append] at hle
          have HF := Lib.hid (flat_take bss k hkb)
          have hszr := hbr.size
          generalize bss[k] = bs0 at hle HF ha
          have HA := Lib.hid ha
          rw [bts_length] at ha
          clear hcells HV HC hsv
          go_wp2_with (at_builtin; refine app_arr rfl _ _ 33 rfl 5 (.int .u8 0) 1 1 Tryz.underlying33 info_u8 rfl (by decide) _ _ _ _ _ _ _ _ hownr ha rfl rfl (bts_one _) hszr (by omega) (by unfold maxLen; omega) ?_; intro v2 w2 hown2 hg2 _)
          go_roundw
          case rel =>
            refine ⟨k + 1, by omega, by go_num, ?_, hbr.grown hg2 hszr (fun j hj => (hownr.lt j hj).1)⟩
            rw [HF.out, List.length_append, bts_append]; exact hown2
          case measure => simp [intOf]; omega
        · obtain rfl : k = vs.length := by omega
          go_wp2
          go_ret
          exact ⟨_, rfl, by rw [ht] at hownr; exact hownr, hbr⟩
end Go.Proofs.YtjbhgimhcjcpmaaGreatDoor

/-
  THE CONTRACTS of code.number, code.head, code.shapes.
-/
namespace Go.Proofs.YtjbhgimhcjcpmaaGreatDoor
open Go.RowKit

/-- Whole numbers as cells. -/
def ints (l : List Int) : List Value := l.map (Value.int .i64)
theorem ints_length (l : List Int) : (ints l).length = l.length := by simp [ints]
theorem ints_append (a b : List Int) : ints (a ++ b) = ints a ++ ints b := by simp [ints]
theorem ints_one (l : List Int) : ∀ u ∈ ints l, u.oneCell' = true := by
  intro u hu; simp only [ints, List.mem_map] at hu; obtain ⟨x, _, rfl⟩ := hu; rfl
theorem ints_get (l : List Int) (i : Nat) (h : i < l.length) : (ints l)[i]? = some (.int .i64 l[i]) := by simp [ints, h]

set_option maxHeartbeats 400000 in
set_option maxRecDepth 100000 in
theorem codeNumber_any (n : Int) (w : World) (h0 : 0 ≤ n) (h1 : n ≤ 4294967295) :
    Calls Tryz.prog 22 #[.int .i64 n] w fun e w' => ∃ v, e = .returned v ∧ w'.ownsRow w.heap.size 5 1 v (num7 n.toNat).length (bts (num7 n.toNat)) ∧ Below w.heap.size w w' := by
  obtain ⟨m, rfl⟩ := Int.eq_ofNat_of_zero_le h0
  rw [Int.toNat_natCast]
  go_enter Tryz.func22, Tryz.ntmps22
  go_wp2_with (first | (go_at_call 93; refine (number_any m _ (by omega)).mono ?_; rintro e w1 ⟨v1, rfl, hown, hb⟩) | (go_at_call 58; go_in))
  go_ret
  exact ⟨_, rfl, hown, hb⟩

set_option maxHeartbeats 400000 in
theorem head_any (w : World) :
    Calls Tryz.prog 21 #[] w fun e w' => ∃ v, e = .returned v ∧ w'.ownsRow w.heap.size 5 1 v 4 (bts [84, 87, 78, 1]) ∧ Below w.heap.size w w' := by
  go_enter Tryz.func21, Tryz.ntmps21
  go_wp2
  go_ret
  exact ⟨_, rfl, World.ownsRow_lit w _ 4 (Nat.le_refl _) (by unfold maxLen; omega) rfl, (Below.refl _ _).alloc (Nat.le_refl _) _⟩

/-- A list's shapes as bytes. -/
def dimBytes (s : List Int) : List Nat := s.flatMap fun d => num7 d.toNat
def oneShape (s : List Int) : List Nat := num7 s.length ++ dimBytes s
def shBytes (l : List (List Int)) : List Nat := num7 l.length ++ l.flatMap oneShape

theorem flatMap_take {α : Type} (f : α → List Nat) (l : List α) (k : Nat) (h : k < l.length) : (l.take (k + 1)).flatMap f = (l.take k).flatMap f ++ f l[k] := by
  rw [List.take_succ_eq_append_getElem h]; simp only [List.flatMap_append, List.flatMap_cons, List.flatMap_nil, List.append_nil]
theorem flatMap_take_le {α : Type} (f : α → List Nat) (l : List α) (k : Nat) : ((l.take k).flatMap f).length ≤ (l.flatMap f).length := by
  have : l.flatMap f = (l.take k).flatMap f ++ (l.drop k).flatMap f := by rw [← List.flatMap_append, List.take_append_drop]
  rw [this]; simp

set_option maxHeartbeats 1000000 in
set_option maxRecDepth 100000 in
theorem codeShapes_any (v : Value) (vs : List Value) (l : List (List Int)) (w : World) (hv : Arr w.heap.size w 1 v vs.length vs) (hvs : Nest w.heap.size w vs (l.map ints))
    (hlen : (shBytes l).length ≤ 1099511627776) (hl1 : l.length ≤ 4294967295) (hl2 : ∀ s ∈ l, s.length ≤ 4294967295 ∧ ∀ d ∈ s, 0 ≤ d ∧ d ≤ 4294967295) :
    Calls Tryz.prog 23 #[v] w fun e w' => ∃ r, e = .returned r ∧ w'.ownsRow w.heap.size 5 1 r (shBytes l).length (bts (shBytes l)) ∧ Below w.heap.size w w' := by
  have hl := hvs.length
  simp only [List.length_map] at hl
  obtain ⟨ao, c, rfl, hc, hm, hl', hcell⟩ := hv.open
  have HV := Lib.hid hvs
  have HC := Lib.hid hcell
  have hl3 : vs.length ≤ 4294967295 := by omega
  have HL := Lib.hid hl
  unfold maxLen at hm
  clear hvs hv hl' hcell hl
  go_enter Tryz.func23, Tryz.ntmps23
  go_wp2_with (go_at_call 22; refine (codeNumber_any _ _ (by omega) (by omega)).mono ?_; rintro e w1 ⟨v1, rfl, hown, hb⟩)
  rw [Int.toNat_natCast, HL.out] at hown
  have hsz := hb.size
  go_loopw [3, 13] (fun x i wr => ∃ (k : Nat) (pre : List Nat), k ≤ vs.length ∧ i = .int .i64 k ∧ Hid (pre = num7 l.length ++ (l.take k).flatMap oneShape) ∧ wr.ownsRow w.heap.size 5 1 x pre.length (bts pre) ∧ Below w.heap.size w wr) (fun _ i _ => vs.length - (intOf i).toNat)
  case atStart => exact ⟨0, _, Nat.zero_le _, rfl, rfl, by simpa using hown, hb⟩
  case round =>
    obtain ⟨k, pre, hk, rfl, HP, hownr, hbr⟩ := hrel
    have hszr := hbr.size
    by_cases hkl : k < vs.length
    · obtain ⟨b, off, rfl, hbl, hcells⟩ := HC.out (by omega)
      have hkb : k < l.length := by have := HL.out; omega
      have ha := HV.out.get k hkl (by simpa using hkb)
      simp only [List.getElem_map] at ha
      obtain ⟨ao2, c2, hv2, hc2, hm2, _, hcell2⟩ := ha.open
      rw [ints_length] at hv2 hc2
      have hcx : wr.cell? ⟨b, off + k, none⟩ = some (.slice ao2 l[k].length c2) := by rw [hbr.cell hbl, hcells k (by omega)]; simp [hkl, hv2]
      have hmem := hl2 l[k] (List.getElem_mem _)
      have hle : pre.length + (num7 l[k].length).length + (dimBytes l[k]).length ≤ 1099511627776 := by
        have h1 := flatMap_take_le oneShape l (k + 1)
        rw [flatMap_take oneShape l k hkb, List.length_append] at h1
        rw [HP.out]
        unfold shBytes at hlen
        have h2 : (oneShape l[k]).length = (num7 l[k].length).length + (dimBytes l[k]).length := by simp [oneShape]
        simp only [List.length_append] at hlen ⊢
        omega
      have HF : Hid (num7 l.length ++ (l.take (k + 1)).flatMap oneShape = pre ++ (num7 l[k].length ++ dimBytes l[k])) := by
        unfold Hid; rw [flatMap_take oneShape l k hkb, HP.out]; simp [oneShape]
      generalize l[k] = s0 at hcx hmem hle HF hcell2 hc2
      obtain ⟨hm5, hdims⟩ := hmem
      have HD := Lib.hid hdims
      have HC2 := Lib.hid hcell2
      unfold maxLen at hm2
      clear hcells ha hv2 hdims hcell2
      go_wp2_with (first | (go_at_call 22; refine (codeNumber_any _ _ (by omega) (by omega)).mono ?_; rintro e w2 ⟨v2, rfl, hown2, hb2⟩; rw [Int.toNat_natCast] at hown2; have hownr2 := Below.owns hownr hb2; have harr2 := Arr.of_owns hown2; have hsz2 := hb2.size) | (at_builtin; refine app_arr rfl _ _ 33 rfl 5 (.int .u8 0) 1 1 Tryz.underlying33 info_u8 rfl (by decide) _ _ _ _ _ _ _ _ hownr2 harr2 rfl rfl (bts_one _) (by omega) (by omega) (by unfold maxLen; omega) ?_; intro v3 w3 hown3 hg3 _))
      have hb3 : Below w.heap.size w w3 := (hbr.trans (hb2.mono hszr)).grown hg3 (by omega) (fun j hj => (hownr2.lt j hj).1)
      have hsz3 := hb3.size
      rw [← bts_append, ← List.length_append] at hown3
      clear hg3 harr2 hownr2 hown2 hb2 hownr hbr hcx hszr hsz2
      go_loopw [3, 24] (fun x i wq => ∃ (j : Nat) (pr2 : List Nat), j ≤ s0.length ∧ i = .int .i64 j ∧ Hid (pr2 = pre ++ num7 s0.length ++ dimBytes (s0.take j)) ∧ wq.ownsRow w.heap.size 5 1 x pr2.length (bts pr2) ∧ Below w.heap.size w wq) (fun _ i _ => s0.length - (intOf i).toNat)
      case atStart => exact ⟨0, _, Nat.zero_le _, rfl, by unfold Hid; simp [dimBytes], hown3, hb3⟩
      case round =>
        obtain ⟨j, pr2, hj, rfl, HP2, hownq, hbq⟩ := hrel
        have hszq := hbq.size
        by_cases hjl : j < s0.length
        · obtain ⟨b2, off2, rfl, hbl2, hcells2⟩ := HC2.out (by rw [ints_length]; omega)
          have hcy : wr.cell? ⟨b2, off2 + j, none⟩ = some (.int .i64 s0[j]) := by rw [hbq.cell hbl2, hcells2 j (by rw [ints_length]; omega), ints_get]
          have hd := HD.out s0[j] (List.getElem_mem _)
          have hle2 : pr2.length + (num7 s0[j].toNat).length ≤ 1099511627776 := by
            have h1 := flatMap_take_le (fun d : Int => num7 d.toNat) s0 (j + 1)
            rw [flatMap_take _ s0 j hjl, List.length_append] at h1
            rw [HP2.out]; unfold dimBytes at *; simp only [List.length_append]; omega
          have HF2 : Hid (pre ++ num7 s0.length ++ dimBytes (s0.take (j + 1)) = pr2 ++ num7 s0[j].toNat) := by
            unfold Hid; rw [HP2.out]; unfold dimBytes; rw [flatMap_take _ s0 j hjl]; simp
          generalize s0[j] = d0 at hcy hd hle2 HF2
          obtain ⟨hd0, hd1⟩ := hd
          clear hcells2
          go_wp2_with (first | (go_at_call 22; refine (codeNumber_any _ _ hd0 hd1).mono ?_; rintro e w2 ⟨v2, rfl, hown2, hb2⟩; have hownr2 := Below.owns hownq hb2; have harr2 := Arr.of_owns hown2; have hsz2 := hb2.size) | (at_builtin; refine app_arr rfl _ _ 33 rfl 5 (.int .u8 0) 1 1 Tryz.underlying33 info_u8 rfl (by decide) _ _ _ _ _ _ _ _ hownr2 harr2 rfl rfl (bts_one _) (by omega) (by omega) (by unfold maxLen; omega) ?_; intro v4 w4 hown4 hg4 _))
          go_roundw
          case rel =>
            refine ⟨j + 1, _, by omega, by go_num, rfl, ?_, (hbq.trans (hb2.mono hszq)).grown hg4 (by omega) (fun j hj => (hownr2.lt j hj).1)⟩
            rw [HF2.out, bts_append, List.length_append]; exact hown4
          case measure => simp [intOf]; omega
        · obtain rfl : j = s0.length := by omega
          go_wp2_with fail
          go_roundw
          case rel => 
            refine ⟨k + 1, _, by omega, by go_num, rfl, ?_, hbq⟩
            rw [HF.out]; rw [HP2.out, List.take_length] at hownq; simpa using hownq
          case measure => simp [intOf]; omega
    · obtain rfl : k = vs.length := by omega
      go_wp2_with fail
      go_ret
      refine ⟨_, rfl, ?_, hbr⟩
      rw [HP.out, List.take_of_length_le (by have := HL.out; omega)] at hownr
      exact hownr
end Go.Proofs.YtjbhgimhcjcpmaaGreatDoor
