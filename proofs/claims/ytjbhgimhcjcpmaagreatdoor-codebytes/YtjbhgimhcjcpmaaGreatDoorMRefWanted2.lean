/-
  THE CONTRACT of twainref18.Wanted2.
-/
import Derived.Test.YtjbhgimhcjcpmaaGreatDoorMRefWire
import Derived.Test.YtjbhgimhcjcpmaaGreatDoorMPlanWants
import Derived.Test.YtjbhgimhcjcpmaaGreatDoorMRefAndsP
set_option linter.unusedSimpArgs false
set_option linter.unusedVariables false
namespace Go.Proofs.YtjbhgimhcjcpmaaGreatDoor
open Go.RowKit

def rWanted2 (o : MOp) : List Int := if o.k = 1 then [o.a] else [o.a, o.b]
set_option maxHeartbeats 1000000 in
set_option maxRecDepth 100000 in
theorem wanted2_any (o : MOp) (w : World) : Calls Tryz.prog 84 #[.agg o.arr] w (RetInts (rWanted2 o) w) := by
  obtain ⟨kind, a, b, k, c, party⟩ := o
  unfold rWanted2
  simp only [MOp.arr]
  by_cases h1 : k = 1
  · subst h1
    rw [if_pos rfl]
    go_enter Tryz.func84, Tryz.ntmps84
    go_wp2_with fail
    go_ret
    exact retInts_1 _ _ _
  · rw [if_neg h1]
    have h1' : (k == 1) = false := by simpa using h1
    clear h1
    go_enter Tryz.func84, Tryz.ntmps84
    go_wp2_with fail
    go_ret
    exact retInts_2 _ _ _ _
end Go.Proofs.YtjbhgimhcjcpmaaGreatDoor

/-
  THE CONTRACT of twainref18.Most, of what is a program.
-/
namespace Go.Proofs.YtjbhgimhcjcpmaaGreatDoor
open Go.RowKit

/-- What an operation of round y makes the parties say in round r. -/
def sayStep (o : MOp) (y r : Int) (s : Int × Int) : Int × Int :=
  if o.kind = 17 then (if y = r + 1 then (s.1, s.2 + mOperands o.k) else if y = r then (s.1 + 2 * (192 * mOperands o.k + 2 * (rAnds o.k o.c : Nat)), s.2) else s)
  else if y ≠ r then s
  else if o.kind = 1 then (if o.party = 0 then (s.1 + 1, s.2) else (s.1, s.2 + 1))
  else if o.kind = 6 ∨ o.kind = 9 then (s.1 + 2, s.2 + 2)
  else if o.kind = 18 ∨ o.kind = 19 then (s.1 + 1, s.2 + 1) else s
def sayGo : List MOp → List Int → Int → Int × Int → Int × Int
  | o :: l, y :: ys, r, s => sayGo l ys r (sayStep o y r s)
  | _, _, _, s => s
theorem sayGo_nil (ys : List Int) (r : Int) (s : Int × Int) : sayGo [] ys r s = s := by cases ys <;> rfl
def rSaid (ops : List MOp) (rl : List Int) (r : Int) : Int × Int := sayGo ops rl r (0, 0)
def mostTo (ops : List MOp) (rl : List Int) : Nat → Int
  | 0 => 0
  | r + 1 => max (mostTo ops rl r) (max (rSaid ops rl r).1 (rSaid ops rl r).2)
def lastR (rl : List Int) : Nat := (rl.getD (rl.length - 1) 0).toNat
def rMost (ops : List MOp) (rl : List Int) : Int := mostTo ops rl (lastR rl + 1)
def pairSmall (s : Int × Int) (B : Int) : Prop := 0 ≤ s.1 ∧ s.1 ≤ B ∧ 0 ≤ s.2 ∧ s.2 ≤ B
theorem sayStep_small {o : MOp} {y r : Int} {s : Int × Int} {B : Int} (h : pairSmall s B) : pairSmall (sayStep o y r s) (B + 5000) := by
  have h1 := operands_bd o.k
  have h2 := rAnds_le o.k o.c
  unfold pairSmall at *
  unfold sayStep
  repeat' split
  all_goals first | omega | (simp only; omega)
theorem sayGo_small : ∀ (l : List MOp) (ys : List Int) (r : Int) (s : Int × Int) (B : Int), pairSmall s B → pairSmall (sayGo l ys r s) (B + 5000 * l.length)
  | [], ys, r, s, B, h => by cases ys <;> simpa [sayGo] using h
  | o :: l, [], r, s, B, h => by
    unfold pairSmall at *
    simp only [sayGo, List.length_cons]; omega
  | o :: l, y :: ys, r, s, B, h => by
    have := sayGo_small l ys r (sayStep o y r s) (B + 5000) (sayStep_small h)
    rw [sayGo, List.length_cons, show B + 5000 * ((l.length + 1 : Nat) : Int) = B + 5000 + 5000 * l.length by omega]
    exact this
theorem rSaid_small (ops : List MOp) (rl : List Int) (r : Int) : pairSmall (rSaid ops rl r) (5000 * ops.length) := by
  have := sayGo_small ops rl r (0, 0) 0 (by simp [pairSmall])
  simpa [rSaid] using this
theorem mostTo_small (ops : List MOp) (rl : List Int) (r : Nat) : 0 ≤ mostTo ops rl r ∧ mostTo ops rl r ≤ 5000 * ops.length := by
  induction r with
  | zero => simp [mostTo]; omega
  | succ r ih =>
    have := rSaid_small ops rl r
    unfold pairSmall at this
    simp only [mostTo]; omega

/-- The block of what both parties say in a round. -/
structure SySt (w : World) (B : Nat) (s : Int × Int) (W : World) : Prop where
  box : W.heap[B]? = some (.cells #[.int .i64 s.1, .int .i64 s.2] 23 (0, 0))
  below : Below w.heap.size w W
  ge : w.heap.size ≤ B
theorem SySt.cells {w : World} {B : Nat} {s : Int × Int} {W : World} (h : SySt w B s W) : (W.cell? ⟨B, 0, none⟩ = some (.int .i64 s.1) ∧ W.cell? ⟨B, 1, none⟩ = some (.int .i64 s.2)) ∧ W.frozen? ⟨B, 0, none⟩ = false ∧ W.frozen? ⟨B, 1, none⟩ = false := by
  have := h.box
  refine ⟨⟨?_, ?_⟩, ?_, ?_⟩ <;> simp [World.cell?, World.frozen?, this]
theorem SySt.later {w : World} {B : Nat} {s : Int × Int} {W W1 : World} (h : SySt w B s W) (hb : Below W.heap.size W W1) : SySt w B s W1 := ⟨(hb.block _ (lt_of_block h.box)).trans h.box, h.below.trans (hb.mono h.below.size), h.ge⟩
theorem SySt.set0 {w : World} {B : Nat} {s : Int × Int} {W : World} (h : SySt w B s W) (x : Int) : SySt w B (x, s.2) (W.setCell ⟨B, 0, none⟩ (.int .i64 x)) := ⟨by have := heap_setCell (j := 0) h.box (.int .i64 x); simpa using this, h.below.setCell h.ge _, h.ge⟩
theorem SySt.set1 {w : World} {B : Nat} {s : Int × Int} {W : World} (h : SySt w B s W) (x : Int) : SySt w B (s.1, x) (W.setCell ⟨B, 1, none⟩ (.int .i64 x)) := ⟨by have := heap_setCell (j := 1) h.box (.int .i64 x); simpa using this, h.below.setCell h.ge _, h.ge⟩
theorem SySt.drew {w : World} {B : Nat} {s : Int × Int} {W : World} (h : SySt w B s W) : SySt w B s W.drew := ⟨h.box, h.below.drew, h.ge⟩
theorem SySt.start {w W : World} (h : Below w.heap.size w W) : SySt w W.heap.size (0, 0) (W.alloc (.cells #[.int .i64 0, .int .i64 0] 23)) := ⟨heap_alloc_new _ _, h.alloc h.size _, h.size⟩

set_option maxHeartbeats 8000000 in
set_option maxRecDepth 100000 in
theorem refMost_any (v y : Value) (ops : List MOp) (rl : List Int) (base : Nat) (w : World) (h : mCheck ops 65536 65536 = true) (hrl : mRounds ops = rl) (hv : Arr w.heap.size w 6 v ops.length (ocells ops)) (hy : w.ownsRow base 3 1 y rl.length (ints rl)) :
    Calls Tryz.prog 48 #[v, y] w (RetB (.int .i64 (rMost ops rl)) w) := by
  have hl : ops.length ≤ 16384 := by simp only [mCheck, Bool.and_eq_true, decide_eq_true_eq] at h; exact h.1.2
  have hlen : rl.length = ops.length := by rw [← hrl, mRounds_len, if_pos h]
  have hup : Upto (2 * ops.length : Nat) rl := by rw [← hrl]; exact mRounds_upto ops
  have hrule := check_rules h
  obtain ⟨ao, cc, rfl, hcc, hm, hx, hcells⟩ := hv.open
  have HY := Lib.hid hcells
  have HLEN := Lib.hid hlen
  have HUP := Lib.hid hup
  have HRULE := Lib.hid hrule
  have HRL := Lib.hid hy
  have hlast := hup.getD (by omega) (rl.length - 1)
  obtain ⟨N, hN⟩ : ∃ N, lastR rl = N := ⟨_, rfl⟩
  have hNN : rl.getD (rl.length - 1) 0 = (N : Int) := by rw [← hN]; unfold lastR; omega
  have hNb : N ≤ 40000 := by omega
  obtain ⟨R, hR⟩ : ∃ R, rMost ops rl = R := ⟨_, rfl⟩
  have hRE : mostTo ops rl (N + 1) = R := by rw [← hR, rMost, hN]
  rw [hR]
  have HRE := Lib.hid hRE
  have HNN := Lib.hid hNN
  clear hv hx hcells hm h hrl hlen hup hrule hy hlast hN hNN hR hRE
  go_enter Tryz.func48, Tryz.ntmps48
  go_upto_if 13 with fail
  go_cut [6] from 11 to 19 (fun s6 wx => s6 = .int .i64 N ∧ wx = w)
  case first =>
    by_cases h0 : 0 < ops.length
    · have hd : decide ((0 : Int) < (ops.length : Int)) = true := decide_eq_true (by omega)
      have hlr : ops.length = rl.length := HLEN.out.symm
      obtain ⟨g1, cp1, rfl, hg1, hg2⟩ := HRL.out.form (by omega)
      have hcx := ints_getD HRL.out (rl.length - 1) (by omega)
      rw [HNN.out, HLEN.out] at hcx
      have hsub : (ops.length : Int) - 1 = ((ops.length - 1 : Nat) : Int) := by omega
      have hi0 : (0 : Int) ≤ (ops.length : Int) - 1 := by omega
      have hi1 : (ops.length : Int) - 1 < (rl.length : Int) := by omega
      have hi2 : ((ops.length : Int) - 1).toNat = ops.length - 1 := by omega
      clear hlr
      go_wp2_with fail
      go_meet
      exact ⟨rfl, rfl⟩
    · have hd : decide ((0 : Int) < (ops.length : Int)) = false := decide_eq_false (by omega)
      have HN0 := Lib.hid (show N = 0 by
        have e : rl = [] := List.length_eq_zero_iff.1 (by have := HLEN.out; omega)
        have h1 := HNN.out
        rw [e] at h1
        have h2 : (0 : Int) = N := h1
        omega)
      go_wp2_with fail
      go_meet
      exact ⟨by rw [HN0.out]; rfl, rfl⟩
  case rest =>
    obtain ⟨rfl, hw⟩ := hcut
    have hw' := hw.symm
    subst hw'
    clear hw
    go_wp2_with fail
    go_loopg [5, 7] (N + 1) (fun g ov rv wr => ∃ r : Nat, r ≤ N + 1 ∧ g = N + 1 - r ∧ rv = .int .i64 r ∧ ov = .int .i64 (mostTo ops rl r) ∧ Hid (Below w.heap.size w wr))
    case atStart => exact ⟨0, Nat.zero_le _, rfl, rfl, rfl, Lib.hid (Below.refl _ _)⟩
    case round =>
      obtain ⟨r, hr, hg, rfl, rfl, HB⟩ := hrel
      have hms := mostTo_small ops rl r
      by_cases hrN : r ≤ N
      · have hMS := rSaid_small ops rl r
        have HMT := Lib.hid (show mostTo ops rl (r + 1) = max (mostTo ops rl r) (max (rSaid ops rl r).1 (rSaid ops rl r).2) from rfl)
        have HSG := Lib.hid (show sayGo ops rl r (0, 0) = rSaid ops rl r from rfl)
        generalize rSaid ops rl r = S at hMS HMT HSG
        obtain ⟨O, hO⟩ : ∃ O, mostTo ops rl r = O := ⟨_, rfl⟩
        rw [hO] at hms HMT ⊢
        clear hO
        have hrd : decide ((r : Int) ≤ (N : Int)) = true := by simp; omega
        have HS0 := Lib.hid (SySt.start HB.out)
        go_upto_region 9 with fail
        generalize wr.alloc (.cells #[.int .i64 0, .int .i64 0] 23) = W1 at HS0 ⊢
        generalize wr.heap.size = B at HS0 ⊢
        clear HB
        go_wp2_with fail
        go_loopg [28] ops.length (fun g iv w2 => ∃ (i : Nat) (s : Int × Int), i ≤ ops.length ∧ g = ops.length - i ∧ iv = .int .i64 i ∧ Hid (sayGo (ops.drop i) (rl.drop i) r s = S) ∧ Hid (SySt w B s w2) ∧ Hid (pairSmall s (5000 * i : Nat)))
        case atStart => exact ⟨0, (0, 0), Nat.zero_le _, rfl, rfl, HSG, HS0, Lib.hid (by simp [pairSmall])⟩
        case round =>
          clear HS0 HSG
          obtain ⟨i, ⟨s0, s1⟩, hi, hg2, rfl, HSG, HS, HSM⟩ := hrel
          obtain ⟨⟨x0, x1⟩, f0, f1⟩ := HS.out.cells
          simp only at x0 x1
          obtain ⟨m0, m1, m2, m3⟩ := HSM.out
          simp only at m0 m1 m2 m3
          by_cases hil : i < ops.length
          · obtain ⟨b, off, rfl, hbl, hcells⟩ := HY.out (by omega)
            have hcs := fun (W : World) (hb : Below w.heap.size w W) => op_cells hcells hb hbl rfl i hil
            have hir : i < rl.length := by have := HLEN.out; omega
            obtain ⟨g1, cp1, rfl, hg1, hg3⟩ := HRL.out.form (by omega)
            have hcy : ∀ W : World, Below w.heap.size w W → W.cell? ⟨g1, i, none⟩ = some (.int .i64 rl[i]) := fun W hb => by
              have h1 := ints_getD (Below.owns HRL.out hb) i hir
              simpa [List.getD, hir] using h1
            have hub := HUP.out rl[i] (List.getElem_mem _)
            have hrule := HRULE.out i hil
            have hgo := HSG.out
            rw [List.drop_eq_getElem_cons hil, List.drop_eq_getElem_cons hir, sayGo] at hgo
            generalize ops[i] = o at hcs hrule hgo
            generalize rl[i] = y at hcy hub hgo
            obtain ⟨c0, c1, c2, c3, c4, c5⟩ := hcs wr HS.out.below
            have hcx := hcy wr HS.out.below
            have HNX := Lib.hid (fun (s' : Int × Int) (he : sayStep o y r (s0, s1) = s') => (show sayGo (ops.drop (i + 1)) (rl.drop (i + 1)) r s' = S from he ▸ hgo))
            have HSB := Lib.hid (fun (s' : Int × Int) (he : sayStep o y r (s0, s1) = s') => (show pairSmall s' (5000 * (i + 1) : Nat) by
              have := sayStep_small (o := o) (y := y) (r := r) HSM.out
              rw [he] at this
              rw [show ((5000 * (i + 1) : Nat) : Int) = ((5000 * i : Nat) : Int) + 5000 by omega]
              exact this))
            have HCS := Lib.hid hcs
            have HCY := Lib.hid hcy
            have HR := Lib.hid hrule
            have h3 : (0 : Int) ≤ (i : Int) := by omega
            have h4 : (i : Int) < (ops.length : Int) := by omega
            have h5 : (i : Int) < (rl.length : Int) := by omega
            clear hcs hcy hgo hrule hcells hg1 hg3
            by_cases k17 : o.kind = 17
            · obtain ⟨kind, oa, ob, okk, oc, party⟩ := o
              simp only at k17
              subst k17
              simp only at c0 c1 c2 c3 c4 c5
              have hok := rule_garb HR.out rfl
              simp only at hok
              have hpn := operands_bd okk
              obtain ⟨pn, hpe⟩ : ∃ pn, mOperands okk = pn := ⟨_, rfl⟩
              obtain ⟨A, hA⟩ : ∃ A, rAnds okk oc = A := ⟨_, rfl⟩
              have hAb : A ≤ 1000 := by rw [← hA]; exact rAnds_le _ _
              rw [hpe] at hpn
              have HOKC := Lib.hid hok
              have HA := Lib.hid hA
              have hw2 : (rWanted2 ⟨17, oa, ob, okk, oc, party⟩).length = pn.toNat := by
                unfold rWanted2; rw [← hpe]; unfold mOperands; simp only; split <;> rfl
              obtain ⟨l2, hl2⟩ : ∃ l2, rWanted2 ⟨17, oa, ob, okk, oc, party⟩ = l2 := ⟨_, rfl⟩
              rw [hl2] at hw2
              have hl2n : (l2.length : Int) = pn := by omega
              have HW2 := Lib.hid hl2
              have hl2b : l2.length ≤ 2 := by omega
              clear hl2 hok hw2
              by_cases hy1 : y = r + 1
              · subst hy1
                have e0 : ((r : Int) + 1 == (r : Int) + 1) = true := by simp
                have e1 : ((r : Int) + 1 == (r : Int)) = false := by simp; omega
                have e2 : ((r : Int) + 1 != (r : Int)) = true := by simp; omega
                have HE := Lib.hid (show sayStep ⟨17, oa, ob, okk, oc, party⟩ (r + 1) r (s0, s1) = (s0, s1 + (l2.length : Int)) by simp [sayStep, hpe, hl2n])
                have hwr : IntKind.i64.wrap (s1 + (l2.length : Int)) = s1 + (l2.length : Int) := by rw [IntKind.wrap_i64]; omega
                clear hpe hA hl2n
                go_wp2_with fail
                go_region_with (go_at_call 84; go_must (refine (wanted2_any ⟨17, oa, ob, okk, oc, party⟩ _).mono ?_; unfold RetInts; rw [HW2.out]; rintro e wA ⟨vA, rfl, hoA, hbA⟩; obtain ⟨aoA, cA, rfl, _⟩ := own_open hoA; (try replace hbA := Below.undrew hbA); have hsA := HS.out.later hbA; obtain ⟨⟨z0, z1⟩, l0, l1⟩ := hsA.cells; (try simp only at z0 z1); obtain ⟨d0, d1, d2, d3, d4, d5⟩ := HCS.out wA hsA.below; (try simp only at d0 d1 d2 d3 d4 d5); have hcxA := HCY.out wA hsA.below; have HSA := Lib.hid hsA; clear hsA hbA hoA))
                all_goals
                  have HSS := Lib.hid (HSA.out.set1 (s1 + (l2.length : Int)))
                  generalize wA.setCell ⟨B, 1, none⟩ (.int .i64 (s1 + (l2.length : Int))) = W3 at HSS ⊢
                  have hcx3 := HCY.out W3 HSS.out.below
                  go_wp2_with fail
                  go_roundg (ops.length - (i + 1))
                  case measure => omega
                  case rel => exact ⟨i + 1, (s0, s1 + (l2.length : Int)), by omega, rfl, by go_num, HNX.out _ HE.out, HSS, Lib.hid (HSB.out _ HE.out)⟩
              · have e0 : (y == (r : Int) + 1) = false := by simpa using hy1
                by_cases hyr : y = r
                · subst hyr
                  have HE := Lib.hid (show sayStep ⟨17, oa, ob, okk, oc, party⟩ r r (s0, s1) = (s0 + 2 * (192 * (l2.length : Int) + 2 * (A : Int)), s1) by simp [sayStep, hpe, hl2n, hA, show ¬ ((r : Int) = (r : Int) + 1) by omega])
                  have hwr1 : IntKind.i64.wrap (192 * (l2.length : Int)) = 192 * (l2.length : Int) := by rw [IntKind.wrap_i64]; omega
                  have hwr2 : IntKind.i64.wrap (2 * (A : Int)) = 2 * (A : Int) := by rw [IntKind.wrap_i64]; omega
                  have hwr3 : IntKind.i64.wrap (192 * (l2.length : Int) + 2 * (A : Int)) = 192 * (l2.length : Int) + 2 * (A : Int) := by rw [IntKind.wrap_i64]; omega
                  have hwr4 : IntKind.i64.wrap (2 * (192 * (l2.length : Int) + 2 * (A : Int))) = 2 * (192 * (l2.length : Int) + 2 * (A : Int)) := by rw [IntKind.wrap_i64]; omega
                  have hwr5 : IntKind.i64.wrap (s0 + 2 * (192 * (l2.length : Int) + 2 * (A : Int))) = s0 + 2 * (192 * (l2.length : Int) + 2 * (A : Int)) := by rw [IntKind.wrap_i64]; omega
                  clear hpe hA hl2n
                  go_wp2_with fail
                  go_region_with (first | (go_at_call 84; go_must (refine (wanted2_any ⟨17, oa, ob, okk, oc, party⟩ _).mono ?_; unfold RetInts; rw [HW2.out]; rintro e wA ⟨vA, rfl, hoA, hbA⟩; obtain ⟨aoA, cA, rfl, _⟩ := own_open hoA; (try replace hbA := Below.undrew hbA); have hsA := HS.out.later hbA; obtain ⟨⟨z0, z1⟩, l0, l1⟩ := hsA.cells; (try simp only at z0 z1); obtain ⟨d0, d1, d2, d3, d4, d5⟩ := HCS.out wA hsA.below; (try simp only at d0 d1 d2 d3 d4 d5); have hcxA := HCY.out wA hsA.below; have HSA := Lib.hid hsA; clear hsA hbA hoA)) | (go_at_call 78; go_must (refine (refAnds_any ⟨17, oa, ob, okk, oc, party⟩ _ HOKC.out).mono ?_; (try simp only); rw [HA.out]; unfold RetB; rintro e wC ⟨rfl, hbC⟩; (try replace hbC := Below.undrew hbC); have hsC := HSA.out.later hbC; obtain ⟨⟨t0, t1⟩, n0, n1⟩ := hsC.cells; (try simp only at t0 t1); have HSC := Lib.hid hsC; clear hsC hbC)))
                  all_goals
                    have HSS := Lib.hid (HSC.out.set0 (s0 + 2 * (192 * (l2.length : Int) + 2 * (A : Int))))
                    go_wp2_with fail
                    go_roundg (ops.length - (i + 1))
                    case measure => omega
                    case rel => exact ⟨i + 1, (s0 + 2 * (192 * (l2.length : Int) + 2 * (A : Int)), s1), by omega, rfl, by go_num, HNX.out _ HE.out, HSS, Lib.hid (HSB.out _ HE.out)⟩
                · have e1 : (y == (r : Int)) = false := by simpa using hyr
                  have e2 : (y != (r : Int)) = true := by simp [hyr]
                  have HE := Lib.hid (show sayStep ⟨17, oa, ob, okk, oc, party⟩ y r (s0, s1) = (s0, s1) by simp [sayStep, hy1, hyr])
                  clear hpe hA hl2n hyr hy1
                  go_wp2_with fail
                  go_roundg (ops.length - (i + 1))
                  case measure => omega
                  case rel => exact ⟨i + 1, (s0, s1), by omega, rfl, by go_num, HNX.out _ HE.out, HS, Lib.hid (HSB.out _ HE.out)⟩
            have q17 : (o.kind == 17) = false := by simpa using k17
            by_cases hyr : y = r
            · subst hyr
              by_cases k1 : o.kind = 1
              · rcases rule_in HR.out k1 with hp | hp
                · have HE := Lib.hid (show sayStep o r r (s0, s1) = (s0 + 1, s1) by simp [sayStep, k1, hp])
                  rw [k1] at c0
                  rw [hp] at c5
                  clear k1 hp k17 q17
                  go_wp2_with fail
                  go_roundg (ops.length - (i + 1))
                  case measure => omega
                  case rel => exact ⟨i + 1, (s0 + 1, s1), by omega, rfl, by go_num, HNX.out _ HE.out, Lib.hid (HS.out.set0 (s0 + 1)), Lib.hid (HSB.out _ HE.out)⟩
                · have HE := Lib.hid (show sayStep o r r (s0, s1) = (s0, s1 + 1) by simp [sayStep, k1, hp])
                  rw [k1] at c0
                  rw [hp] at c5
                  clear k1 hp k17 q17
                  go_wp2_with fail
                  go_roundg (ops.length - (i + 1))
                  case measure => omega
                  case rel => exact ⟨i + 1, (s0, s1 + 1), by omega, rfl, by go_num, HNX.out _ HE.out, Lib.hid (HS.out.set1 (s1 + 1)), Lib.hid (HSB.out _ HE.out)⟩
              by_cases k6 : o.kind = 6
              · have HE := Lib.hid (show sayStep o r r (s0, s1) = (s0 + 2, s1 + 2) by simp [sayStep, k6])
                rw [k6] at c0
                clear k1 k6 k17 q17
                go_wp2_with fail
                go_roundg (ops.length - (i + 1))
                case measure => omega
                case rel => exact ⟨i + 1, (s0 + 2, s1 + 2), by omega, rfl, by go_num, HNX.out _ HE.out, Lib.hid ((HS.out.set0 (s0 + 2)).set1 (s1 + 2)), Lib.hid (HSB.out _ HE.out)⟩
              by_cases k9 : o.kind = 9
              · have HE := Lib.hid (show sayStep o r r (s0, s1) = (s0 + 2, s1 + 2) by simp [sayStep, k9])
                rw [k9] at c0
                clear k1 k9 k17 q17
                go_wp2_with fail
                go_roundg (ops.length - (i + 1))
                case measure => omega
                case rel => exact ⟨i + 1, (s0 + 2, s1 + 2), by omega, rfl, by go_num, HNX.out _ HE.out, Lib.hid ((HS.out.set0 (s0 + 2)).set1 (s1 + 2)), Lib.hid (HSB.out _ HE.out)⟩
              by_cases k18 : o.kind = 18
              · have HE := Lib.hid (show sayStep o r r (s0, s1) = (s0 + 1, s1 + 1) by simp [sayStep, k18])
                rw [k18] at c0
                clear k1 k18 k17 q17
                go_wp2_with fail
                go_roundg (ops.length - (i + 1))
                case measure => omega
                case rel => exact ⟨i + 1, (s0 + 1, s1 + 1), by omega, rfl, by go_num, HNX.out _ HE.out, Lib.hid ((HS.out.set0 (s0 + 1)).set1 (s1 + 1)), Lib.hid (HSB.out _ HE.out)⟩
              by_cases k19 : o.kind = 19
              · have HE := Lib.hid (show sayStep o r r (s0, s1) = (s0 + 1, s1 + 1) by simp [sayStep, k19])
                rw [k19] at c0
                clear k1 k19 k17 q17
                go_wp2_with fail
                go_roundg (ops.length - (i + 1))
                case measure => omega
                case rel => exact ⟨i + 1, (s0 + 1, s1 + 1), by omega, rfl, by go_num, HNX.out _ HE.out, Lib.hid ((HS.out.set0 (s0 + 1)).set1 (s1 + 1)), Lib.hid (HSB.out _ HE.out)⟩
              have HE := Lib.hid (show sayStep o r r (s0, s1) = (s0, s1) by simp [sayStep, k1, k6, k9, k17, k18, k19])
              have q1 : (o.kind == 1) = false := by simpa using k1
              have q6 : (o.kind == 6) = false := by simpa using k6
              have q9 : (o.kind == 9) = false := by simpa using k9
              have q18 : (o.kind == 18) = false := by simpa using k18
              have q19 : (o.kind == 19) = false := by simpa using k19
              clear k1 k6 k9 k18 k19 k17
              go_wp2_with fail
              go_roundg (ops.length - (i + 1))
              case measure => omega
              case rel => exact ⟨i + 1, (s0, s1), by omega, rfl, by go_num, HNX.out _ HE.out, HS, Lib.hid (HSB.out _ HE.out)⟩
            · have e1 : (y == (r : Int)) = false := by simpa using hyr
              have e2 : (y != (r : Int)) = true := by simp [hyr]
              have HE := Lib.hid (show sayStep o y r (s0, s1) = (s0, s1) by simp [sayStep, k17, hyr])
              clear k17 hyr
              go_wp2_with fail
              go_roundg (ops.length - (i + 1))
              case measure => omega
              case rel => exact ⟨i + 1, (s0, s1), by omega, rfl, by go_num, HNX.out _ HE.out, HS, Lib.hid (HSB.out _ HE.out)⟩
          · obtain rfl : i = ops.length := by omega
            have hgo := HSG.out
            rw [List.drop_length, sayGo_nil] at hgo
            subst hgo
            simp only at HMT hMS
            obtain ⟨q0, q1, q2, q3⟩ := hMS
            simp only at q0 q1 q2 q3
            go_wp2_with fail
            all_goals
              go_roundg (N + 1 - (r + 1))
              case measure => omega
              case rel =>
                refine ⟨r + 1, by omega, rfl, by go_num, ?_, Lib.hid HS.out.below⟩
                rw [HMT.out]
                exact congrArg (Value.int IntKind.i64) (by omega)
      · obtain rfl : r = N + 1 := by omega
        have hrd : decide (((N + 1 : Nat) : Int) ≤ (N : Int)) = false := by simp; omega
        have HF := Lib.hid HRE.out
        go_wp2_with fail
        go_ret
        exact ⟨by rw [← HF.out]; rfl, HB.out⟩
end Go.Proofs.YtjbhgimhcjcpmaaGreatDoor
