/-
  THE CONTRACTS of code's cutter: number, count.
-/
import Derived.Test.YtjbhgimhcjcpmaaGreatDoorMStepApp
import Derived.Test.YtjbhgimhcjcpmaaGreatDoorMMem
import Derived.Deep.LoopGhost
import Derived.Test.YtjbhgimhcjcpmaaGreatDoorMPlanCheck
import Derived.Maps.Range
set_option linter.unusedSimpArgs false
set_option linter.unusedVariables false
namespace Go.Proofs.YtjbhgimhcjcpmaaGreatDoor
open Go.RowKit

/-- The cutter's block, with the bytes that are left; the bytes lie where they lay when it began. -/
structure Cut (w : World) (Bc : Nat) (bs : List Nat) (W : World) : Prop where
  box : ∃ sv, W.heap[Bc]? = some (.cells #[sv] 72 (0, 0)) ∧ Arr w.heap.size w 1 sv bs.length (bts bs)
  ge : w.heap.size ≤ Bc
  below : Below w.heap.size w W
  small : bs.length ≤ 1000000
  bytes : ∀ x ∈ bs, x < 256
theorem Cut.kept {w : World} {Bc : Nat} {bs : List Nat} {W W' : World} (h : Cut w Bc bs W) {row : Option Nat} (hg : W.grownBy W' row) (hr : ∀ k, row = some k → w.heap.size ≤ k ∧ k ≠ Bc) : Cut w Bc bs W' := by
  obtain ⟨sv, hb, ha⟩ := h.box
  refine ⟨⟨sv, (hg.block _ (lt_of_block hb) (fun e => (hr _ e.symm).2 rfl)).trans hb, ha⟩, h.ge, h.below.grown hg h.below.size (fun k hk => (hr k hk).1), h.small, h.bytes⟩
/-- What was thrown where something could not be taken. -/
def Thrown (e : Ending) : Prop := ∃ n : Nat, n ≤ 1000000 ∧ e = .panicked [{ v := .iface 66 (.agg #[.int .i64 n]), recovered := false }]

theorem Arr.drop {B : Nat} {w : World} {b off c : Nat} {bs : List Nat} (h : Arr B w 1 (.slice (some ⟨b, off, none⟩) bs.length c) bs.length (bts bs)) (s : Nat) (hs : s ≤ bs.length) (a : Addr) (c' : Nat) (hc' : c' = c - s) (ha : a = ⟨b, off + s, none⟩ ∨ bs.length ≤ s) :
    Arr B w 1 (.slice (some a) (bs.length - s) c') (bs.drop s).length (bts (bs.drop s)) := by
  obtain ⟨ao', c2, hv, hc, hm, hn, hl, h⟩ := h
  obtain ⟨rfl, rfl⟩ : some ⟨b, off, none⟩ = ao' ∧ c = c2 := by simpa using hv
  subst hc'
  refine ⟨_, _, by rw [List.length_drop], by rw [List.length_drop]; omega, by omega, (fun h => by cases h), by rw [bts_length]; omega, ?_⟩
  rw [List.length_drop]
  rcases h with h | ⟨b', off', h1, hlt, hcell⟩
  · exact .inl (by omega)
  · obtain ⟨rfl, rfl⟩ : b = b' ∧ off = off' := by simpa using h1
    rcases ha with rfl | ha
    · refine .inr ⟨b, off + s, rfl, hlt, fun i hi => ?_⟩
      rw [Nat.add_assoc, hcell (s + i) (by omega)]
      simp [bts]
    · exact .inl (by omega)
theorem Cut.set {w : World} {Bc : Nat} {bs r : List Nat} {W : World} (h : Cut w Bc bs W) (sv : Value) (ha : Arr w.heap.size w 1 sv r.length (bts r)) (hr : r.length ≤ bs.length) (hs : ∀ x ∈ r, x ∈ bs) :
    Cut w Bc r (W.setCell ⟨Bc, 0, none⟩ sv) ∧ W.grownBy (W.setCell ⟨Bc, 0, none⟩ sv) (some Bc) := by
  obtain ⟨sv0, hb, _⟩ := h.box
  have hsz : (W.setCell ⟨Bc, 0, none⟩ sv).heap.size = W.heap.size := by simp
  refine ⟨⟨⟨sv, by rw [heap_setCell hb]; rfl, ha⟩, h.ge, h.below.setCell (p := ⟨Bc, 0, none⟩) h.ge _, Nat.le_trans hr h.small, fun x hx => h.bytes x (hs x hx)⟩, rfl, rfl, rfl, by rw [hsz]; exact Nat.le_refl _, fun k _ hk => heap_setCell_other' (fun e => hk (by rw [e])) _⟩

set_option maxHeartbeats 1000000 in
set_option maxRecDepth 100000 in
theorem cutNumber_yes (w : World) (Bc : Nat) (bs r : List Nat) (n : Nat) (W : World) (h : Cut w Bc bs W) (hp : pNum bs = some (n, r)) :
    Calls Tryz.prog 29 #[.pointer (some ⟨Bc, 0, none⟩)] W fun e W' => e = .returned (.int .i64 n) ∧ Cut w Bc r W' ∧ W.grownBy W' (some Bc) := by
  obtain ⟨s, ht, hs0, hsl, hr, hn, hrl⟩ := pNum_some hp
  obtain ⟨sv, hbox, harr⟩ := h.box
  obtain ⟨ao, cc, rfl, hcc, hm, hx, hy⟩ := harr.open
  obtain ⟨b, off, rfl, hbl, _⟩ := hy (by omega)
  have hc0 : W.cell? ⟨Bc, 0, none⟩ = some (.slice (some ⟨b, off, none⟩) bs.length cc) := by simp [World.cell?, hbox]
  have hf0 : W.frozen? ⟨Bc, 0, none⟩ = false := by simp [World.frozen?, hbox]
  have HT := Lib.hid ht
  have HA := Lib.hid harr
  have HC := Lib.hid h
  have HB := Lib.hid hbox
  have HX := Lib.hid hx
  have HR := Lib.hid hr
  unfold maxLen at hm
  clear hx hy harr h hbox ht hp
  have s0 : (0 : Int) < s := by omega
  have hse : ((s : Int) == 0) = false := by simp; omega
  have hs0' : 0 < s := by omega
  have hz : bs.length ≤ cc := hcc
  clear hs0 hr hrl
  go_enter Tryz.func29, Tryz.ntmps29
  go_wp2_with (go_at_call 59; go_must (refine (takeNumber_any _ bs _ (HA.out.later HC.out.below HC.out.below.size) HC.out.bytes).mono ?_; rw [HT.out]; rintro e w' ⟨rfl, rfl⟩))
  all_goals
    go_ret
    refine ⟨rfl, ?_⟩
    refine HC.out.set (r := r) _ (by rw [HR.out]; exact Arr.drop HA.out s hsl _ _ (by omega) (by first | exact .inl rfl | (right; omega))) (by rw [HR.out, List.length_drop]; omega) (by rw [HR.out]; exact fun x hx => List.mem_of_mem_drop hx)

set_option maxHeartbeats 1000000 in
set_option maxRecDepth 100000 in
theorem cutNumber_no (w : World) (Bc : Nat) (bs : List Nat) (W : World) (h : Cut w Bc bs W) (hp : pNum bs = none) :
    Calls Tryz.prog 29 #[.pointer (some ⟨Bc, 0, none⟩)] W fun e W' => Thrown e ∧ W = W' := by
  obtain ⟨sv, hbox, harr⟩ := h.box
  obtain ⟨ao, cc, rfl, hcc, hm, hx, hy⟩ := harr.open
  have hc0 : W.cell? ⟨Bc, 0, none⟩ = some (.slice ao bs.length cc) := by simp [World.cell?, hbox]
  have HT := Lib.hid (pNum_none' hp)
  have HA := Lib.hid harr
  have HC := Lib.hid h
  have hsm := h.small
  unfold maxLen at hm
  clear hx hy harr h hbox hp
  go_enter Tryz.func29, Tryz.ntmps29
  go_wp2_with (go_at_call 59; go_must (refine (takeNumber_any _ bs _ (HA.out.later HC.out.below HC.out.below.size) HC.out.bytes).mono ?_; rw [HT.out]; rintro e w' ⟨rfl, rfl⟩))
  exact ⟨rfl, ⟨bs.length, hsm, rfl⟩, rfl⟩

theorem pCount_some {bs r : List Nat} {n : Nat} (h : pCount bs = some (n, r)) : pNum bs = some (n, r) ∧ n ≤ r.length := by
  unfold pCount at h
  rcases hp : pNum bs with _ | ⟨n', r'⟩
  · rw [hp] at h; cases h
  · rw [hp, Option.bind_some] at h
    simp only at h
    split at h
    · cases h
    · simp only [Option.some.injEq, Prod.mk.injEq] at h
      obtain ⟨rfl, rfl⟩ := h
      exact ⟨rfl, by omega⟩
theorem pCount_none {bs : List Nat} (h : pCount bs = none) : pNum bs = none ∨ ∃ n r, pNum bs = some (n, r) ∧ r.length < n := by
  unfold pCount at h
  rcases hp : pNum bs with _ | ⟨n', r'⟩
  · exact .inl rfl
  · rw [hp, Option.bind_some] at h
    simp only at h
    split at h
    · exact .inr ⟨n', r', rfl, by assumption⟩
    · cases h

/-- What the cutter's block reads as. -/
theorem Cut.cell {w : World} {Bc : Nat} {bs : List Nat} {W : World} (h : Cut w Bc bs W) : ∃ ao cc, W.cell? ⟨Bc, 0, none⟩ = some (.slice ao bs.length cc) ∧ W.frozen? ⟨Bc, 0, none⟩ = false ∧ W.heap[Bc]? = some (.cells #[.slice ao bs.length cc] 72 (0, 0)) ∧ Arr w.heap.size w 1 (.slice ao bs.length cc) bs.length (bts bs) := by
  obtain ⟨sv, hbox, harr⟩ := h.box
  obtain ⟨ao, cc, rfl, hcc, hm, hx, hy⟩ := harr.open
  exact ⟨ao, cc, by simp [World.cell?, hbox], by simp [World.frozen?, hbox], hbox, harr⟩

set_option maxHeartbeats 1000000 in
set_option maxRecDepth 100000 in
theorem cutCount_yes (w : World) (Bc : Nat) (bs r : List Nat) (n : Nat) (W : World) (h : Cut w Bc bs W) (hp : pCount bs = some (n, r)) :
    Calls Tryz.prog 31 #[.pointer (some ⟨Bc, 0, none⟩)] W fun e W' => e = .returned (.int .i64 n) ∧ Cut w Bc r W' ∧ W.grownBy W' (some Bc) := by
  obtain ⟨hn, hle⟩ := pCount_some hp
  have HC := Lib.hid h
  have HN := Lib.hid hn
  clear h hp hn
  go_enter Tryz.func31, Tryz.ntmps31
  go_wp2_with (go_at_call 29; go_must (refine (cutNumber_yes w Bc bs r n _ HC.out HN.out).mono ?_; rintro e w1 ⟨rfl, hc1, hg1⟩; obtain ⟨ao1, cc1, hx1, hf1, hb1, ha1⟩ := hc1.cell; have HC1 := Lib.hid hc1; have HG1 := Lib.hid hg1; clear hc1 hg1 hb1 ha1))
  go_ret
  exact ⟨rfl, HC1.out, HG1.out⟩

set_option maxHeartbeats 1000000 in
set_option maxRecDepth 100000 in
theorem cutCount_no (w : World) (Bc : Nat) (bs : List Nat) (W : World) (h : Cut w Bc bs W) (hp : pCount bs = none) :
    Calls Tryz.prog 31 #[.pointer (some ⟨Bc, 0, none⟩)] W fun e W' => Thrown e ∧ W.grownBy W' (some Bc) := by
  have HC := Lib.hid h
  rcases pCount_none hp with hn | ⟨n, r, hn, hlt⟩
  · have HN := Lib.hid hn
    clear h hp hn
    go_enter Tryz.func31, Tryz.ntmps31
    go_wp2_with (go_at_call 29; go_must (refine (cutNumber_no w Bc bs _ HC.out HN.out).mono ?_; rintro e w1 ⟨⟨n1, hn1, rfl⟩, rfl⟩))
    exact ⟨rfl, ⟨n1, hn1, rfl⟩, World.grownBy.refl _ _⟩
  · have HN := Lib.hid hn
    clear h hp hn
    go_enter Tryz.func31, Tryz.ntmps31
    go_wp2_with (go_at_call 29; go_must (refine (cutNumber_yes w Bc bs r n _ HC.out HN.out).mono ?_; rintro e w1 ⟨rfl, hc1, hg1⟩; obtain ⟨ao1, cc1, hx1, hf1, hb1, ha1⟩ := hc1.cell; have HC1 := Lib.hid hc1; have HG1 := Lib.hid hg1; clear hc1 hg1 hb1 ha1))
    exact ⟨rfl, ⟨r.length, HC1.out.small, rfl⟩, HG1.out⟩

/-- .. and its bytes, where there are any. -/
theorem Cut.open {w : World} {Bc : Nat} {bs : List Nat} {W : World} (h : Cut w Bc bs W) (hb : 0 < bs.length) : ∃ b off cc, W.cell? ⟨Bc, 0, none⟩ = some (.slice (some ⟨b, off, none⟩) bs.length cc) ∧ W.frozen? ⟨Bc, 0, none⟩ = false ∧ bs.length ≤ cc ∧ cc ≤ 9223372036854775807 ∧
    (∀ i (hi : i < bs.length), W.cell? ⟨b, off + i, none⟩ = some (.int .u8 (bs[i] : Nat))) ∧ Arr w.heap.size w 1 (.slice (some ⟨b, off, none⟩) bs.length cc) bs.length (bts bs) := by
  obtain ⟨sv, hbox, harr⟩ := h.box
  obtain ⟨ao, cc, rfl, hcc, hm, hx, hy⟩ := harr.open
  obtain ⟨b, off, rfl, hbl, hc⟩ := hy hb
  unfold maxLen at hm
  refine ⟨b, off, cc, by simp [World.cell?, hbox], by simp [World.frozen?, hbox], hcc, by omega, fun i hi => ?_, harr⟩
  rw [h.below.cell (p := ⟨b, off + i, none⟩) hbl, hc i (by omega)]; simp [bts, hi]
end Go.Proofs.YtjbhgimhcjcpmaaGreatDoor

/-
  WORDS for what a call owns: shapes in memory of its own; what keeps them.
-/
namespace Go.Proofs.YtjbhgimhcjcpmaaGreatDoor
open Go.RowKit

theorem info_ints : (Tryz.prog.info? 24).map (fun i => (i.zero, i.size, i.bytes)) = some (some (.slice none 0 0), 1, 24) := by kernel_rfl

/-- A row that is no block of type t in the range that is spoken of. -/
def Off (W : World) (B : Nat) (t : TypeId) (row : Option Nat) : Prop := ∀ k, row = some k → k < B ∨ W.heap.size ≤ k ∨ ∃ cur t' fr, W.heap[k]? = some (.cells cur t' fr) ∧ t' ≠ t
theorem Off.none (W : World) (B : Nat) (t : TypeId) : Off W B t none := fun _ h => by cases h
theorem Off.owned {W : World} {B b : Nat} {t t' : TypeId} {k : Nat} {v : Value} {n : Nat} {xs : List Value} (h : W.ownsRow b t' k v n xs) (ht : t' ≠ t) : Off W B t v.ownBlock := by
  intro g hg
  rcases h.2 with ⟨rfl, _⟩ | ⟨g', cap, cur, rfl, _, hb, _⟩
  · cases hg
  · obtain rfl : g' = g := by simpa [Value.ownBlock] using hg
    exact .inr (.inr ⟨_, _, _, hb, ht⟩)
theorem Off.new {W : World} {B b : Nat} {t t' : TypeId} {k : Nat} {v : Value} {n : Nat} {xs : List Value} (h : W.ownsRow b t' k v n xs) {W0 : World} (hb : W0.heap.size ≤ b) : Off W0 B t v.ownBlock :=
  fun g hg => .inr (.inl (Nat.le_trans hb (h.lt g hg).1))
theorem Off.block {W : World} {B g : Nat} {t t' : TypeId} {cur : Array Value} {fr : Nat × Nat} (h : W.heap[g]? = some (.cells cur t' fr)) (ht : t' ≠ t) : Off W B t (some g) :=
  fun k hk => by obtain rfl : g = k := by simpa using hk
                 exact .inr (.inr ⟨_, _, _, h, ht⟩)
theorem own_off {W W' : World} {B : Nat} {t : TypeId} {k : Nat} {v : Value} {n : Nat} {xs : List Value} {row : Option Nat} (h : W.ownsRow B t k v n xs) (hg : W.grownBy W' row) (ho : Off W B t row) : W'.ownsRow B t k v n xs := by
  refine h.kept hg ?_
  rcases h.2 with ⟨rfl, _⟩ | ⟨g, cap, cur, rfl, hB, hb, _⟩
  · exact .inl rfl
  · refine .inr fun e => ?_
    rcases ho g (by rw [← e]; rfl) with h1 | h1 | ⟨cur', t', fr, h1, h2⟩
    · omega
    · have := lt_of_block hb; omega
    · rw [hb] at h1; cases h1; exact h2 rfl

/-- Slices of numbers, each in memory of one's own. -/
def NestOwn (B : Nat) (W : World) : List Value → List (List Int) → Prop
  | [], [] => True
  | v :: vs, r :: rs => W.ownsRow B 3 1 v r.length (ints r) ∧ NestOwn B W vs rs
  | _, _ => False
theorem NestOwn.length {B : Nat} {W : World} : ∀ {vs : List Value} {rs : List (List Int)}, NestOwn B W vs rs → vs.length = rs.length
  | [], [], _ => rfl
  | _ :: _, _ :: _, h => by have := h.2.length; simp [this]
theorem NestOwn.kept {B : Nat} {W W' : World} {row : Option Nat} (hg : W.grownBy W' row) (ho : Off W B 3 row) : ∀ {vs : List Value} {rs : List (List Int)}, NestOwn B W vs rs → NestOwn B W' vs rs
  | [], [], _ => trivial
  | _ :: _, _ :: _, h => ⟨own_off h.1 hg ho, NestOwn.kept hg ho h.2⟩
theorem NestOwn.append {B : Nat} {W : World} : ∀ {vs us : List Value} {rs qs : List (List Int)}, NestOwn B W vs rs → NestOwn B W us qs → NestOwn B W (vs ++ us) (rs ++ qs)
  | [], _, [], _, _, h => h
  | _ :: _, _, _ :: _, _, h, k => ⟨h.1, h.2.append k⟩
theorem NestOwn.base {B B' : Nat} {W : World} (hB : B' ≤ B) : ∀ {vs : List Value} {rs : List (List Int)}, NestOwn B W vs rs → NestOwn B' W vs rs
  | [], [], _ => trivial
  | _ :: _, _ :: _, h => ⟨owns_base h.1 hB, NestOwn.base hB h.2⟩
theorem NestOwn.nest {B : Nat} {W : World} : ∀ {vs : List Value} {rs : List (List Int)}, NestOwn B W vs rs → Nest W.heap.size W vs (rs.map ints)
  | [], [], _ => trivial
  | _ :: _, r :: _, h => ⟨by have := Arr.of_owns h.1; rw [← ints_length r] at this; exact this, h.2.nest⟩
theorem NestOwn.get {B : Nat} {W : World} : ∀ {vs : List Value} {rs : List (List Int)} (_ : NestOwn B W vs rs) (i : Nat) (h1 : i < vs.length) (h2 : i < rs.length), W.ownsRow B 3 1 vs[i] rs[i].length (ints rs[i])
  | _ :: _, _ :: _, h, 0, _, _ => h.1
  | _ :: _, _ :: _, h, i + 1, h1, h2 => h.2.get i (by simpa using h1) (by simpa using h2)
theorem NestOwn.one {B : Nat} {W : World} : ∀ {vs : List Value} {rs : List (List Int)}, NestOwn B W vs rs → ∀ u ∈ vs, u.oneCell' = true
  | [], [], _, u, hu => by cases hu
  | v :: vs, r :: rs, h, u, hu => by
    rcases List.mem_cons.1 hu with rfl | hu
    · obtain ⟨ao, c, rfl, _⟩ := own_open h.1; rfl
    · exact NestOwn.one h.2 u hu

/-- Shapes in memory of one's own. -/
def OwnSh (B : Nat) (W : World) (v : Value) (l : List (List Int)) : Prop := ∃ vs, W.ownsRow B 24 1 v vs.length vs ∧ NestOwn B W vs l
theorem OwnSh.kept {B : Nat} {W W' : World} {v : Value} {l : List (List Int)} {row : Option Nat} (h : OwnSh B W v l) (hg : W.grownBy W' row) (h1 : Off W B 24 row) (h2 : Off W B 3 row) : OwnSh B W' v l := by
  obtain ⟨vs, a, b⟩ := h; exact ⟨vs, own_off a hg h1, b.kept hg h2⟩
theorem OwnSh.base {B B' : Nat} {W : World} {v : Value} {l : List (List Int)} (h : OwnSh B W v l) (hB : B' ≤ B) : OwnSh B' W v l := by
  obtain ⟨vs, a, b⟩ := h; exact ⟨vs, owns_base a hB, b.base hB⟩
theorem OwnSh.sh {B : Nat} {W : World} {v : Value} {l : List (List Int)} (h : OwnSh B W v l) : ShAt W.heap.size W v l := by
  obtain ⟨vs, a, b⟩ := h
  exact ⟨vs, b.length, Arr.of_owns a, b.nest⟩
theorem OwnSh.nil (B : Nat) (W : World) : OwnSh B W (.slice none 0 0) [] := ⟨[], World.ownsRow_nil _ _ _ _, trivial⟩
theorem OwnSh.form {B : Nat} {W : World} {v : Value} {l : List (List Int)} (h : OwnSh B W v l) : ∃ ao c, v = .slice ao l.length c := by
  obtain ⟨vs, a, b⟩ := h
  obtain ⟨ao, c, hv, _⟩ := own_open a
  exact ⟨ao, c, by rw [hv, b.length]⟩
theorem below_off {W W' : World} (hb : Below W.heap.size W W') : W.grownBy W' none := ⟨hb.os, hb.tape, hb.output, hb.size, fun k hk _ => hb.block k hk⟩
theorem grown_below {W W' : World} {row : Option Nat} {B : Nat} (hg : W.grownBy W' row) (hB : B ≤ W.heap.size) (hr : ∀ k, row = some k → B ≤ k) : Below B W W' := (Below.refl _ _).grown hg hB hr

/-- What a taking comes to. -/
def CutPost {α : Type} (w : World) (Bc : Nat) (W : World) (res : Option (α × List Nat)) (good : α → Ending → World → Prop) (e : Ending) (W' : World) : Prop :=
  match res with
  | some (x, r) => good x e W' ∧ Cut w Bc r W' ∧ W.grownBy W' (some Bc)
  | none => Thrown e ∧ W.grownBy W' (some Bc)
end Go.Proofs.YtjbhgimhcjcpmaaGreatDoor
