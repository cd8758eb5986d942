/- Lemmas for the proof, no conditions of their own. -/
import Derived.Test.YtbmejhabgoimeaaQD4
set_option linter.unusedVariables false
set_option linter.unusedSimpArgs false
namespace Go.Proofs.Ytbmejhabgoimeaa.Eng
open Go Go.RowKit
set_option maxRecDepth 100000
theorem rv_abs {v : FrT} (hq : 0 < v.2) : rv v ≤ rv (absF v) ∧ -rv v ≤ rv (absF v) ∧ (rv (absF v) = rv v ∨ rv (absF v) = -rv v) := by
  have h3 : rv (absF v) = rv v ∨ rv (absF v) = -rv v := by
    unfold rv absF
    dsimp only
    rcases Int.le_total 0 v.1 with h | h
    · left; rw [show (v.1.natAbs : Int) = v.1 by omega]
    · right; rw [show (v.1.natAbs : Int) = -v.1 by omega]; push_cast; grind
  have h0 : 0 ≤ rv (absF v) := (rv_nn (a := absF v) hq).2 (by unfold absF; dsimp only; omega)
  rcases h3 with h | h
  · exact ⟨by grind, by grind, .inl h⟩
  · exact ⟨by grind, by grind, .inr h⟩
theorem nn_of {a k : Rat} (hk : 0 < k) (h : 0 ≤ a * k) : 0 ≤ a := by
  by_cases ha : a < 0
  · have := Rat.mul_pos (a := -a) (b := k) (by grind) hk
    grind
  · exact Rat.not_lt.1 ha
/-- The nearest whole number of units. -/
theorem near_v {r u : FrT} (hr : 0 < r.2) (hu : 0 < u.2) (hp : 0 < u.1) : -rv u ≤ 2 * (rv r - (nrN r u : Int) * rv u) ∧ 2 * (rv r - (nrN r u : Int) * rv u) ≤ rv u := by
  have hd : 0 < 2 * (r.2 * u.1) := by have := Int.mul_pos hr hp; omega
  have h1 := Int.mul_ediv_self_le (x := 2 * (r.1 * u.2) + r.2 * u.1) (k := 2 * (r.2 * u.1)) (by omega)
  have h2 := Int.lt_mul_ediv_self_add (x := 2 * (r.1 * u.2) + r.2 * u.1) hd
  have e : nrN r u = (2 * (r.1 * u.2) + r.2 * u.1) / (2 * (r.2 * u.1)) := rfl
  rw [← e] at h1 h2
  generalize nrN r u = n at *
  have hr' := pos_q hr
  have hu' := pos_q hu
  have hp' := pos_q hp
  have h1' : ((2 * (r.2 * u.1) * n : Int) : Rat) ≤ ((2 * (r.1 * u.2) + r.2 * u.1 : Int) : Rat) := by exact_mod_cast h1
  have h2' : ((2 * (r.1 * u.2) + r.2 * u.1 : Int) : Rat) < ((2 * (r.2 * u.1) * n + 2 * (r.2 * u.1) : Int) : Rat) := by exact_mod_cast h2
  push_cast at h1' h2'
  have eR : (r.1 : Rat) = rv r * r.2 := by unfold rv; grind
  have eU : (u.1 : Rat) = rv u * u.2 := by unfold rv; grind
  rw [eR, eU] at h1' h2'
  have hk : (0 : Rat) < r.2 * u.2 := Rat.mul_pos hr' hu'
  have a1 : 0 ≤ (2 * (rv r - n * rv u) + rv u) * (r.2 * u.2) := by grind
  have a2 : 0 ≤ (rv u - 2 * (rv r - n * rv u)) * (r.2 * u.2) := by grind
  have b1 := nn_of hk a1
  have b2 := nn_of hk a2
  constructor <;> grind
/-- No whole number of units is nearer. -/
theorem near_k {R U D : Rat} {n k : Int} (hU : 0 < U) (h1 : -U ≤ 2 * (R - n * U)) (h2 : 2 * (R - n * U) ≤ U) (h3 : -D ≤ R - k * U) (h4 : R - k * U ≤ D) : -D ≤ R - n * U ∧ R - n * U ≤ D := by
  rcases Int.lt_trichotomy k n with h | h | h
  · have hk : (k : Rat) + 1 ≤ n := by exact_mod_cast h
    have := Rat.mul_le_mul_of_nonneg_right hk (Rat.le_of_lt hU)
    constructor <;> grind
  · subst h; exact ⟨h3, h4⟩
  · have hk : (n : Rat) + 1 ≤ k := by exact_mod_cast h
    have := Rat.mul_le_mul_of_nonneg_right hk (Rat.le_of_lt hU)
    constructor <;> grind
theorem amin_v {d : Nat → FrT} (hd : ∀ i, smF (d i).1 (d i).2) : ∀ (n : Nat), 0 < n → ∃ j, j < n ∧ amin d n = ((j : Int), d j) ∧ ∀ i, i < n → rv (d j) ≤ rv (d i)
  | 0, h => absurd h (Nat.lt_irrefl 0)
  | n + 1, _ => by
    have hq : ∀ i, 0 < (d i).2 := fun i => by have := hd i; unfold smF at this; omega
    by_cases hn : n = 0
    · subst hn
      exact ⟨0, by omega, amin_1, fun i hi => by obtain rfl : i = 0 := by omega
                                                 exact Rat.le_refl⟩
    · obtain ⟨j, hj, e, hm⟩ := amin_v hd n (by omega)
      by_cases hc : (amin d n).1 < 0 ∨ cmpF (d n).1 (d n).2 (amin d n).2.1 (amin d n).2.2 < 0
      · refine ⟨n, by omega, amin_y hc, fun i hi => ?_⟩
        by_cases hin : i = n
        · subst hin; exact Rat.le_refl
        · have h1 := hm i (by omega)
          rw [e] at hc
          rcases hc with hc | hc
          · dsimp only at hc; omega
          · have h2 := (rv_lt (hq n) (hq j)).2 (cmpF_lt.1 hc)
            grind
      · refine ⟨j, by omega, by rw [amin_n hc]; exact e, fun i hi => ?_⟩
        by_cases hin : i = n
        · subst hin
          rw [e] at hc
          have h2 : ¬ (d i).1 * (d j).2 < (d j).1 * (d i).2 := fun h => hc (.inr (cmpF_lt.2 h))
          exact (rv_le (hq j) (hq i)).2 (by omega)
        · exact hm i (by omega)
theorem mk_v {u e v : FrT} {k : Int} (hu : 0 < u.2) (he : 0 < e.2) (h : mkO u k e = some v) : rv v = k * rv u + rv e ∧ 0 < v.2 := by
  unfold mkO at h
  cases h1 : muO (k, 1) u with
  | none => rw [h1] at h; simp at h
  | some a =>
    rw [h1] at h
    simp only [Option.bind_some] at h
    have e1 := rv_mu (a := (k, 1)) Int.one_pos hu h1
    have e2 := rv_ad e1.2 he h
    refine ⟨?_, e2.2⟩
    rw [e2.1, e1.1, rv_num]
theorem ln_v {u x v : FrT} {vp : Int} {vb : Bool} {i : Int} (hu : 0 < u.2) (hx : 0 < x.2) (hv : 0 < vp) (h : lnO' u vp vb x i = some v) : rv v = rv x + (i * stp vp vb : Int) * rv u / vp ∧ 0 < v.2 := by
  unfold lnO' at h
  cases h1 : muO (i * stp vp vb, 1) u with
  | none => rw [h1] at h; simp at h
  | some a =>
    rw [h1] at h
    simp only [Option.bind_some] at h
    cases h2 : dvO a (vp, 1) with
    | none => rw [h2] at h; simp at h
    | some b =>
      rw [h2] at h
      simp only [Option.bind_some] at h
      have e1 := rv_mu (a := (i * stp vp vb, 1)) Int.one_pos hu h1
      have e2 := rv_dv (b := (vp, 1)) e1.2 Int.one_pos hv h2
      have e3 := rv_ad hx e2.2 h
      refine ⟨?_, e3.2⟩
      rw [e3.1, e2.1, e1.1, rv_num, rv_num]
theorem sc_q {up uq : Int} {E : List FrT} (h : scB up uq E = true) {k : Nat} {e : FrT} (he : E[k]? = some e) : 0 < e.2 ∧ -rv (up, uq) ≤ 4 * rv e ∧ 4 * rv e ≤ rv (up, uq) := by
  have hsz := sc_sz h
  unfold scB at h
  simp only [Bool.and_eq_true] at h
  have := allI_at h.2 he
  unfold elB at this
  simp only [Bool.and_eq_true, decide_eq_true_eq] at this
  obtain ⟨⟨h1, h2⟩, _⟩ := this
  have hq := fOk_q h1
  have hu := fOk_q hsz.1
  have e4 : rv (4 * e.1, e.2) = 4 * rv e := by unfold rv; dsimp only; push_cast; grind
  have en : rv (-up, uq) = -rv (up, uq) := by unfold rv; dsimp only; push_cast; grind
  have hc1 : 4 * e.1 * uq ≤ 4 * (e.1.natAbs : Int) * uq := Int.mul_le_mul_of_nonneg_right (by omega) (by omega)
  have hc2 : 4 * -e.1 * uq ≤ 4 * (e.1.natAbs : Int) * uq := Int.mul_le_mul_of_nonneg_right (by omega) (by omega)
  have h3 := (rv_le (a := (4 * e.1, e.2)) (b := (up, uq)) hq hu).2 (by dsimp only; omega)
  have h4 := (rv_le (a := (-up, uq)) (b := (4 * e.1, e.2)) hu hq).2 (by
    dsimp only
    rw [Int.neg_mul]
    have : 4 * -e.1 * uq = -(4 * e.1 * uq) := by rw [Int.mul_neg, Int.neg_mul]
    omega)
  rw [e4] at h3 h4
  rw [en] at h4
  exact ⟨hq, h4, h3⟩
theorem mkV_v {up uq : Int} {E : List FrT} (h : scB up uq E = true) {k : Nat} {e : FrT} (he : E[k]? = some e) : rv (mkV (up, uq) k (elT E k)) = k * rv (up, uq) + rv e ∧ 0 < (mkV (up, uq) k (elT E k)).2 := by
  obtain ⟨v, hv⟩ := sc_mk h he
  have h2 := mk_v (fOk_q (sc_sz h).1) (sc_q h he).1 hv
  rw [elT_e he, mk_e hv]
  refine ⟨?_, h2.2⟩
  rw [h2.1]; norm_cast
/-- What a line's misfit is. -/
theorem ft_v {up uq vp : Int} {vb : Bool} {E : List FrT} {x : FrT} {i : Nat} (h : scB up uq E = true) (hv : 0 < vp) (hx : 0 < x.2) (hX : ftX (up, uq) E vp vb x i = false) :
    (∃ (m : Nat) (e : FrT), E[m]? = some e ∧ -rv (ftD (up, uq) E vp vb x i) ≤ rv x + (i * stp vp vb : Int) * rv (up, uq) / vp - (m * rv (up, uq) + rv e) ∧ rv x + (i * stp vp vb : Int) * rv (up, uq) / vp - (m * rv (up, uq) + rv e) ≤ rv (ftD (up, uq) E vp vb x i)) ∧
    ∀ (m : Nat) (e : FrT), E[m]? = some e → rv (ftD (up, uq) E vp vb x i) ≤ rv x + (i * stp vp vb : Int) * rv (up, uq) / vp - (m * rv (up, uq) + rv e) ∨ rv (ftD (up, uq) E vp vb x i) ≤ -(rv x + (i * stp vp vb : Int) * rv (up, uq) / vp - (m * rv (up, uq) + rv e)) := by
  have hsz := sc_sz h
  have hu := fOk_q hsz.1
  unfold ftX at hX
  rw [Bool.or_eq_false_iff] at hX
  have hl := ln_e (up, uq) vp vb x i
  rw [hX.1] at hl
  obtain ⟨v, hv2⟩ := Option.isSome_iff_exists.1 (show (lnO' (up, uq) vp vb x i).isSome = true by have := hl.1; revert this; cases (lnO' (up, uq) vp vb x i).isSome <;> simp)
  have hlv := hl.2 v hv2
  have hL := ln_v hu hx hv hv2
  rw [← hL.1]
  have hn := hX.2
  unfold ftD
  rw [hlv] at hn ⊢
  have hd : ∀ (m : Nat) (e : FrT), E[m]? = some e → ∃ d, nrD (up, uq) E v m = absF d ∧ rv d = rv v - (m * rv (up, uq) + rv e) ∧ 0 < d.2 := fun m e he => by
    have hm := mkV_v h he
    have hlt := (List.getElem?_eq_some_iff.1 he).1
    have hno : nrX (up, uq) E v m = false := by
      cases hc : nrX (up, uq) E v m with
      | false => rfl
      | true => rw [anyN_at hc hlt] at hn; cases hn
    unfold nrX at hno
    obtain ⟨d, hd⟩ := Option.isSome_iff_exists.1 (show (sbO v (mkV (up, uq) m (elT E m))).isSome = true by revert hno; cases (sbO v (mkV (up, uq) m (elT E m))).isSome <;> simp)
    have hs := rv_sb hL.2 hm.2 hd
    refine ⟨d, ?_, ?_, hs.2⟩
    · unfold nrD; rw [hd]; rfl
    · rw [hs.1, hm.1]
  obtain ⟨j, hj, e, hmin⟩ := amin_v (nrD_sm (up, uq) E v) E.length (by omega)
  rw [e]
  dsimp only
  obtain ⟨ej, hej⟩ := get_some (l := E) (i := j) hj
  constructor
  · obtain ⟨d, h1, h2, h3⟩ := hd j ej hej
    have ha := rv_abs h3
    refine ⟨j, ej, hej, ?_, ?_⟩ <;> rw [h1, ← h2] <;> grind
  · intro m em hem
    obtain ⟨d, h1, h2, h3⟩ := hd m em hem
    have ha := rv_abs h3
    have hle := hmin m (List.getElem?_eq_some_iff.1 hem).1
    rw [h1] at hle
    rw [← h2]
    rcases ha.2.2 with hc | hc
    · left; rw [← hc]; exact hle
    · right; rw [← hc]; exact hle
/-- There is a line that lies near a whole number of units. -/
theorem line_v {up uq vp : Int} {vb : Bool} {x : FrT} (hu : 0 < uq) (hp : 0 < up) (hv : 2 ≤ vp) (hx : 0 < x.2) : ∃ (i : Nat) (m : Int), (i : Int) < vp ∧ -rv (up, uq) ≤ 2 * vp * (rv x + (i * stp vp vb : Int) * rv (up, uq) / vp - m * rv (up, uq)) ∧ 2 * vp * (rv x + (i * stp vp vb : Int) * rv (up, uq) / vp - m * rv (up, uq)) ≤ rv (up, uq) := by
  have hn := near_v (r := (x.1 * vp, x.2)) (u := (up, uq)) hx hu hp
  generalize nrN (x.1 * vp, x.2) (up, uq) = t at hn
  have ex : rv (x.1 * vp, x.2) = rv x * vp := by unfold rv; dsimp only; push_cast; grind
  rw [ex] at hn
  have hvp : (0 : Rat) < vp := pos_q (by omega)
  cases vb with
  | false =>
    have h1 := Int.emod_nonneg t (show vp ≠ 0 by omega)
    have h2 := Int.emod_lt_of_pos t (show 0 < vp by omega)
    have h3 := Int.mul_ediv_add_emod t vp
    obtain ⟨i, hi⟩ : ∃ i : Nat, (i : Int) = t % vp := ⟨(t % vp).toNat, by omega⟩
    have h3' : (vp : Rat) * (t / vp : Int) + (i : Int) = t := by rw [hi]; exact_mod_cast h3
    refine ⟨i, t / vp + i, by omega, ?_⟩
    have e : (vp : Rat) * (rv x + (i * stp vp false : Int) * rv (up, uq) / vp - (t / vp + i : Int) * rv (up, uq)) = rv x * vp - t * rv (up, uq) := by
      simp only [stp, Bool.false_eq_true, if_false]
      push_cast at h3' ⊢
      grind
    rw [show (2 : Rat) * vp * (rv x + (i * stp vp false : Int) * rv (up, uq) / vp - (t / vp + i : Int) * rv (up, uq)) = 2 * (vp * (rv x + (i * stp vp false : Int) * rv (up, uq) / vp - (t / vp + i : Int) * rv (up, uq))) by grind, e]
    exact hn
  | true =>
    have h1 := Int.emod_nonneg (-t) (show vp ≠ 0 by omega)
    have h2 := Int.emod_lt_of_pos (-t) (show 0 < vp by omega)
    have h3 := Int.mul_ediv_add_emod (-t) vp
    obtain ⟨i, hi⟩ : ∃ i : Nat, (i : Int) = (-t) % vp := ⟨((-t) % vp).toNat, by omega⟩
    have h3' : (vp : Rat) * ((-t) / vp : Int) + (i : Int) = (-t : Int) := by rw [hi]; exact_mod_cast h3
    refine ⟨i, i - (-t) / vp, by omega, ?_⟩
    have e : (vp : Rat) * (rv x + (i * stp vp true : Int) * rv (up, uq) / vp - (i - (-t) / vp : Int) * rv (up, uq)) = rv x * vp - t * rv (up, uq) := by
      simp only [stp, if_true]
      push_cast at h3' ⊢
      grind
    rw [show (2 : Rat) * vp * (rv x + (i * stp vp true : Int) * rv (up, uq) / vp - (i - (-t) / vp : Int) * rv (up, uq)) = 2 * (vp * (rv x + (i * stp vp true : Int) * rv (up, uq) / vp - (i - (-t) / vp : Int) * rv (up, uq))) by grind, e]
    exact hn
theorem fit_u {u x : FrT} {E : List FrT} {vp : Int} {vb : Bool} {f : Int} (h : fitE u E vp vb x = .ok f) : ¬ cmpF x.1 x.2 (mkV u 0 (elT E 0)).1 (mkV u 0 (elT E 0)).2 < 0 ∧ (∃ e, lnO' u vp vb x (vp - 1) = some e ∧ ¬ cmpF e.1 e.2 (mkV u ((E.length : Int) - 1) (elT E (E.length - 1))).1 (mkV u ((E.length : Int) - 1) (elT E (E.length - 1))).2 > 0) ∧ anyN (ftX u E vp vb x) vp.toNat = false ∧ f = (amin (ftD u E vp vb x) vp.toNat).1 := by
  unfold fitE at h
  split at h
  · cases h
  · rename_i h1
    cases h2 : lnO' u vp vb x (vp - 1) with
    | none => rw [h2] at h; cases h
    | some e =>
      rw [h2] at h
      simp only [ofO, Except.bind] at h
      split at h
      · cases h
      · rename_i h3
        split at h
        · cases h
        · rename_i h4
          exact ⟨h1, ⟨e, rfl, h3⟩, by simpa using h4, (Except.ok.inj h).symm⟩
theorem rv_u {u x a : FrT} {vp f : Int} {vb : Bool} (hu : 0 < u.2) (hx : 0 < x.2) (hv : 2 ≤ vp ∧ vp ≤ 40) (hg : 0 ≤ fln vp vb f ∧ fln vp vb f ≤ 40) (h : rvO u vp vb x f = some a) : ∃ r : FrT, 0 < r.2 ∧ rv r = rv x - fln vp vb f * rv u / vp ∧ rv a = fln vp vb f * rv u / vp + (nrN r u : Int) * rv u ∧ 0 < a.2 := by
  obtain ⟨sh, hs⟩ := dv_small hv hg
  rw [rv_0 hs] at h
  have e0 := rv_dv (a := (fln vp vb f, 1)) (b := (vp, 1)) Int.one_pos Int.one_pos (by dsimp only; omega) hs
  rw [rv_num, rv_num] at e0
  cases h1 : muO sh u with
  | none => rw [h1] at h; simp at h
  | some p =>
    rw [h1] at h
    simp only [Option.bind_some] at h
    have e1 := rv_mu e0.2 hu h1
    cases h2 : sbO x p with
    | none => rw [h2] at h; simp at h
    | some r =>
      rw [h2] at h
      simp only [Option.bind_some] at h
      have e2 := rv_sb hx e1.2 h2
      split at h
      · cases h3 : muO (nrN r u, 1) u with
        | none => rw [h3] at h; simp at h
        | some w =>
          rw [h3] at h
          simp only [Option.bind_some] at h
          have e3 := rv_mu (a := (nrN r u, 1)) Int.one_pos hu h3
          have e4 := rv_ad e1.2 e3.2 h
          have ep : rv p = fln vp vb f * rv u / vp := by rw [e1.1, e0.1]; grind
          refine ⟨r, e2.2, by rw [e2.1, ep], ?_, e4.2⟩
          rw [e4.1, e3.1, ep, rv_num]
      · simp at h
/-- How far a reading may be from where it is. -/
theorem read_v {up uq vp : Int} {vb : Bool} {E : List FrT} {x a : FrT} {W : Rat} (hsc : scB up uq E = true) (hv : 2 ≤ vp ∧ vp ≤ 40) (hx : 0 < x.2) (hW : ∀ (j : Nat) (e : FrT), E[j]? = some e → -W ≤ rv e ∧ rv e ≤ W) (h : readE (up, uq) E vp vb x = .ok a) :
    (-(rv (up, uq) / (2 * vp) + 2 * W) ≤ rv a - rv x ∧ rv a - rv x ≤ rv (up, uq) / (2 * vp) + 2 * W) ∧ 0 < a.2 := by
  unfold readE at h
  cases hf : fitE (up, uq) E vp vb x with
  | error c => rw [hf] at h; cases h
  | ok f =>
    rw [hf] at h
    simp only [Except.bind] at h
    cases hr : rvO (up, uq) vp vb x f with
    | none => rw [hr] at h; cases h
    | some a' =>
      rw [hr] at h
      obtain rfl := Except.ok.inj h
      have hsz := sc_sz hsc
      have hu := fOk_q hsz.1
      have hU : 0 < rv (up, uq) := (rv_pos hu).2 hsz.2.1.1
      have hvp : (2 : Rat) ≤ vp := by exact_mod_cast hv.1
      obtain ⟨q1, ⟨e, q2, q3⟩, q4, q5⟩ := fit_u hf
      obtain ⟨j, hj, hej, hmin⟩ := amin_v (ftD_sm (up, uq) E vp vb x) vp.toNat (by omega)
      rw [hej] at q5
      dsimp only at q5
      subst q5
      obtain ⟨e0, he0⟩ := get_some (l := E) (i := 0) (by omega)
      obtain ⟨eL, heL⟩ := get_some (l := E) (i := E.length - 1) (by omega)
      have m0 := mkV_v hsc he0
      have mL := mkV_v hsc heL
      have hc : ((E.length - 1 : Nat) : Int) = (E.length : Int) - 1 := by omega
      rw [hc] at mL
      have le := ln_v hu hx (by omega) q2
      have b1 := (rv_le m0.2 hx).2 (by have := mt cmpF_lt.2 q1; exact Int.not_lt.1 this)
      have b2 := (rv_le le.2 mL.2).2 (by have := mt cmpF_gt.2 q3; exact Int.not_lt.1 this)
      rw [m0.1] at b1
      rw [mL.1, le.1] at b2
      have hcE : ((E.length - 1 : Nat) : Rat) = (E.length : Rat) - 1 := by
        have h1 : (E.length - 1) + 1 = E.length := by omega
        have h2 : (((E.length - 1) + 1 : Nat) : Rat) = (E.length : Rat) := by rw [h1]
        push_cast at h2
        grind
      rw [hcE] at b2
      rw [show ((0 : Nat) : Rat) = 0 by norm_cast, Rat.zero_mul, Rat.zero_add] at b1
      have z0 := sc_q hsc he0
      have zL := sc_q hsc heL
      obtain ⟨i, m, hi, l1, l2⟩ := line_v (vb := vb) hu hsz.2.1.1 hv.1 hx
      have hXi : ∀ k, k < vp.toNat → ftX (up, uq) E vp vb x k = false := fun k hk => by
        cases hcc : ftX (up, uq) E vp vb x k with
        | false => rfl
        | true => rw [anyN_at hcc hk] at q4; cases q4
      have fi := ft_v hsc (by omega) hx (hXi i (by omega))
      have fj := ft_v hsc (by omega) hx (hXi j hj)
      have hle := hmin i (by omega)
      -- a bound for the line
      generalize hU0 : rv (up, uq) = U at *
      generalize hs2 : U / (2 * vp) = s2
      have es2 : s2 * (2 * vp) = U := by rw [← hs2]; grind
      have hs4 : 4 * s2 ≤ U := by
        have : 0 ≤ (U - 4 * s2) * (2 * vp) := by
          have := Rat.mul_le_mul_of_nonneg_left hvp (Rat.le_of_lt hU)
          grind
        have := nn_of (by grind) this
        grind
      have hdiv : ∀ A : Rat, A * U / vp = A * (2 * s2) := fun A => by rw [← es2]; grind
      simp only [hdiv] at l1 l2 fi fj b2
      have hst : 0 ≤ stp vp vb := by cases vb <;> simp only [stp, if_true, Bool.false_eq_true, if_false] <;> omega
      have hs0 : 0 < s2 := by
        rcases Rat.le_total (a := s2) (b := 0) with hc | hc
        · have := Rat.mul_le_mul_of_nonneg_right (c := 2 * (vp : Rat)) hc (by grind)
          grind
        · rcases Decidable.em (s2 = 0) with hz | hz
          · rw [hz] at es2; grind
          · grind
      -- the line i lies near m units
      have g1 : (0 : Rat) ≤ ((i * stp vp vb : Int) : Rat) := by exact_mod_cast Int.mul_nonneg (by omega) hst
      have g2 : ((i * stp vp vb : Int) : Rat) ≤ (((vp - 1) * stp vp vb : Int) : Rat) := by exact_mod_cast Int.mul_le_mul_of_nonneg_right (show (i : Int) ≤ vp - 1 by omega) hst
      have g1' := Rat.mul_le_mul_of_nonneg_right g1 (show 0 ≤ 2 * s2 by grind)
      have g2' := Rat.mul_le_mul_of_nonneg_right g2 (show 0 ≤ 2 * s2 by grind)
      have o1 : rv x + (i * stp vp vb : Int) * (2 * s2) - m * U ≤ s2 := by
        have : 0 ≤ (s2 - (rv x + (i * stp vp vb : Int) * (2 * s2) - m * U)) * (2 * vp) := by grind
        have := nn_of (by grind) this
        grind
      have o2 : -s2 ≤ rv x + (i * stp vp vb : Int) * (2 * s2) - m * U := by
        have : 0 ≤ (s2 + (rv x + (i * stp vp vb : Int) * (2 * s2) - m * U)) * (2 * vp) := by grind
        have := nn_of (by grind) this
        grind
      have hm0 : 0 ≤ m := by
        rcases Int.lt_or_le m 0 with hc | hc
        · have h1 : (m : Rat) + 1 ≤ 0 := by exact_mod_cast (show m + 1 ≤ 0 by omega)
          have h2 := Rat.mul_le_mul_of_nonneg_right h1 (Rat.le_of_lt hU)
          exfalso
          clear fi fj hmin hW q1 q2 q3 q4 hXi hf hr h hej hle
          grind
        · exact hc
      have hm1 : m < (E.length : Int) := by
        rcases Int.lt_or_le m E.length with hc | hc
        · exact hc
        · have h1 : (E.length : Rat) ≤ m := by exact_mod_cast hc
          have h2 := Rat.mul_le_mul_of_nonneg_right h1 (Rat.le_of_lt hU)
          exfalso
          clear fi fj hmin hW q1 q2 q3 q4 hXi hf hr h hej hle
          grind
      obtain ⟨mn, rfl⟩ : ∃ mn : Nat, m = mn := ⟨m.toNat, by omega⟩
      obtain ⟨em, hem⟩ := get_some (l := E) (i := mn) (by omega)
      have hWm := hW _ _ hem
      have hfi : rv (ftD (up, uq) E vp vb x i) ≤ s2 + W := by
        rcases fi.2 mn em hem with hc | hc
        · refine Rat.le_trans hc ?_
          push_cast at o1 ⊢
          grind
        · refine Rat.le_trans hc ?_
          push_cast at o2 ⊢
          grind
      obtain ⟨m', e', he', p1, p2⟩ := fj.1
      have hWe := hW _ _ he'
      have hfl : 0 ≤ fln vp vb j ∧ fln vp vb j ≤ 40 := by
        unfold fln; split <;> omega
      obtain ⟨r, r1, r2, r3, r4⟩ := rv_u hu hx hv hfl hr
      have hnr := near_v (u := (up, uq)) r1 hu hsz.2.1.1
      rw [hU0] at r2 r3 hnr
      rw [hdiv] at r2 r3
      have hk : ∃ k : Int, rv r - k * U = rv x + (j * stp vp vb : Int) * (2 * s2) - m' * U := by
        rw [r2]
        cases vb with
        | false =>
          refine ⟨(m' : Int) - j, ?_⟩
          simp only [stp, fln, Bool.false_eq_true, if_false, false_and]
          push_cast
          grind
        | true =>
          by_cases hj0 : (j : Int) = 0
          · refine ⟨(m' : Int), ?_⟩
            simp only [stp, fln, if_true, true_and, hj0, ne_eq, not_true_eq_false, if_false]
            push_cast
            grind
          · refine ⟨(m' : Int) - j - 1, ?_⟩
            simp only [stp, fln, if_true, true_and, hj0, ne_eq, not_false_eq_true]
            push_cast
            grind
      obtain ⟨k, hk⟩ := hk
      have hfin := near_k (D := s2 + 2 * W) hU hnr.1 hnr.2 (by rw [hk]; grind) (by rw [hk]; grind)
      refine ⟨?_, r4⟩
      rw [r3]
      grind
theorem wr_v {E : List FrT} (hE : ∀ (j : Nat) (e : FrT), E[j]? = some e → 0 < e.2) : ∀ (n : Nat), n ≤ E.length → 0 < (wrN E n).2 ∧ ∀ (j : Nat) (e : FrT), j < n → E[j]? = some e → -rv (wrN E n) ≤ rv e ∧ rv e ≤ rv (wrN E n)
  | 0, _ => ⟨Int.one_pos, fun j e hj => absurd hj (by omega)⟩
  | n + 1, hn => by
    obtain ⟨h0, ih⟩ := wr_v hE n (by omega)
    obtain ⟨e, he⟩ := get_some (l := E) (i := n) (by omega)
    have hq := hE _ _ he
    have ha := rv_abs hq
    have hle : 0 < (wrN E (n + 1)).2 ∧ rv (wrN E n) ≤ rv (wrN E (n + 1)) ∧ rv (absF e) ≤ rv (wrN E (n + 1)) := by
      have e1 : wrN E (n + 1) = moF (wrN E n).1 (wrN E n).2 (e.1.natAbs : Int) e.2 := by rw [wrN, he]; rfl
      rw [e1]
      unfold moF
      split
      · rename_i hc
        exact ⟨h0, Rat.le_refl, (rv_le (a := absF e) (b := wrN E n) hq h0).2 hc⟩
      · rename_i hc
        exact ⟨hq, (rv_le (a := wrN E n) (b := absF e) h0 hq).2 (by unfold absF; dsimp only; omega), Rat.le_refl⟩
    refine ⟨hle.1, fun j e' hj he' => ?_⟩
    by_cases hjn : j = n
    · subst hjn
      rw [he] at he'
      obtain rfl := Option.some.inj he'
      constructor <;> grind
    · have := ih j e' (by omega) he'
      constructor <;> grind
theorem en_v {T : List ThT} {c : ShT} {e : FrT} (hg : 0 < (thAt T c).2.2.2) (hw : 0 < c.2.1.2) (hl : 0 < (thAt T c).2.1.2) (hs : 0 < c.2.2.2) (h : enT T c = some e) : rv e = rv c.2.2 + rv (thAt T c).2.1 * (1 + rv (thAt T c).2.2 * rv c.2.1) ∧ 0 < e.2 := by
  unfold enT enO at h
  cases h1 : stO (thAt T c).2.2 c.2.1 with
  | none => rw [h1] at h; simp at h
  | some t =>
    rw [h1] at h
    simp only [Option.bind_some] at h
    cases h2 : muO (thAt T c).2.1 t with
    | none => rw [h2] at h; simp at h
    | some a =>
      rw [h2] at h
      simp only [Option.bind_some] at h
      have e1 := st_v hg hw h1
      have e2 := rv_mu hl e1.2 h2
      have e3 := rv_ad hs e2.2 h
      exact ⟨by rw [e3.1, e2.1, e1.1], e3.2⟩
/-- What a warm scale is. -/
theorem warm_v {u y w : FrT} {E E' : List FrT} (hu : 0 < u.2) (hy : 0 < y.2) (hE : ∀ (j : Nat) (e : FrT), E[j]? = some e → 0 < e.2) (h : warmE u E y = .ok (w, E')) : rv w = rv u * (1 + rv y) ∧ 0 < w.2 ∧ scB w.1 w.2 E' = true ∧ ∀ (j : Nat) (e' : FrT), E'[j]? = some e' → ∃ e, E[j]? = some e ∧ rv e' = rv e * (1 + rv y) := by
  unfold warmE at h
  split at h
  · cases h
  · cases h0 : wmO u E y with
    | none => rw [h0] at h; cases h
    | some v =>
      rw [h0] at h
      obtain rfl := Except.ok.inj h
      unfold wmO at h0
      cases h1 : adO (1, 1) y with
      | none => rw [h1] at h0; simp at h0
      | some f =>
        rw [h1] at h0
        simp only [Option.bind_some] at h0
        cases h2 : muO u f with
        | none => rw [h2] at h0; simp at h0
        | some w' =>
          rw [h2] at h0
          simp only [Option.bind_some] at h0
          split at h0
          · rename_i hc
            obtain ⟨rfl, rfl⟩ := Prod.mk.inj (Option.some.inj h0)
            have e1 := rv_ad (a := (1, 1)) Int.one_pos hy h1
            rw [rv_num] at e1
            have e2 := rv_mu hu e1.2 h2
            refine ⟨by rw [e2.1, e1.1]; rfl, e2.2, hc.2, fun j e' he' => ?_⟩
            unfold wmE at he'
            rw [List.getElem?_map] at he'
            cases he : E[j]? with
            | none => rw [he] at he'; simp at he'
            | some e =>
              rw [he] at he'
              obtain rfl := Option.some.inj he'
              have hx := hc.1
              unfold wmX at hx
              rw [List.any_eq_false] at hx
              have hx2 := hx e (List.mem_of_getElem? he)
              obtain ⟨v, hv⟩ := Option.isSome_iff_exists.1 (show (muO e f).isSome = true by revert hx2; cases (muO e f).isSome <;> simp)
              have e3 := rv_mu (hE _ _ he) e1.2 hv
              refine ⟨e, rfl, ?_⟩
              show rv (tv (muO e f)) = _
              rw [hv]
              show rv v = _
              rw [e3.1, e1.1]; rfl
          · simp at h0
theorem one_v {w st x d : FrT} {E : List FrT} {vp : Int} {vb : Bool} (h : oneE w E vp vb st x = .ok d) : ∃ a, readE w E vp vb x = .ok a ∧ dvO a st = some d := by
  unfold oneE at h
  cases h1 : readE w E vp vb x with
  | error c => rw [h1] at h; cases h
  | ok a =>
    rw [h1] at h
    simp only [Except.bind] at h
    cases h2 : dvO a st with
    | none => rw [h2] at h; cases h
    | some v => rw [h2] at h; obtain rfl := Except.ok.inj h; exact ⟨a, rfl, h2⟩
theorem al_1 {a b s u v w : Rat} (hs : 0 < s) (hv : 0 < v) : (a / s - b / s - 2 * (u / (2 * v) + 2 * w)) * s = a - b - 2 * (u * s / (2 * v) + 2 * (w * s)) := by grind
theorem al_2 {a b s u v w : Rat} (hs : 0 < s) (hv : 0 < v) : (a / s - b / s + 2 * (u / (2 * v) + 2 * w)) * s = a - b + 2 * (u * s / (2 * v) + 2 * (w * s)) := by grind
theorem al_3 {a b : Rat} (h : 0 < b) : a * b / b = a := by grind
/-- The length of the thing lies in what the report leaves open. -/
theorem ta_in {up uq vp gp gq : Int} {vb : Bool} {E : List FrT} {T : List ThT} {c : ShT} {r : RpT} (hb : bnB up uq vp gp gq E T = true) (hs : shB T.length c = true) (h : taE (up, uq) E vp vb (gp, gq) T c = .ok r) : rv r.2.2.2.2.1 ≤ rv (thAt T c).2.1 ∧ rv (thAt T c).2.1 ≤ rv r.2.2.2.2.2 := by
  rcases ta_c (up, uq) E vp vb (gp, gq) T c with ⟨k, _, _, hE⟩ | ⟨d1, d2, hr, hcc⟩
  · rw [hE] at h; cases h
  · rcases hcc with ⟨_, hE⟩ | ⟨len, hl, hcc⟩
    · rw [hE] at h; cases h
    · rcases hcc with ⟨_, hE⟩ | ⟨a, b, ho, hE⟩
      · rw [hE] at h; cases h
      · rw [hE] at h
        obtain rfl := Except.ok.inj h
        have hf := ends_f hr
        have hv := op_v hb hs hf.1 hf.2 ho
        have hgg := bn_g hb
        have hsh := sh_e hs
        obtain ⟨x, ha⟩ := get_some (l := T) (i := c.1.toNat) (by omega)
        have hat := bn_at hb ha
        have e : thAt T c = x := by unfold thAt; rw [ha]; rfl
        have hC := st_gt (g := (gp, gq)) hgg.2.1 hsh.2.1 hsh.2.2.1
        have hD := st_gt hat.2.2 hsh.2.1 hsh.2.2.1
        rw [← e] at hD
        have hsz := sc_sz hgg.2.2.2.2
        have hEq : ∀ (j : Nat) (e : FrT), E[j]? = some e → 0 < e.2 := fun j e he => (sc_q hgg.2.2.2.2 he).1
        have hwr := wr_v hEq E.length (Nat.le_refl _)
        rcases ends_c (up, uq) E vp vb (gp, gq) T c with ⟨_, hE2⟩ | ⟨e2, hen, hcc⟩
        · rw [hE2] at hr; cases hr
        · rcases hcc with ⟨_, hE2⟩ | ⟨st, hst, hcc⟩
          · rw [hE2] at hr; cases hr
          · rcases hcc with ⟨_, hE2⟩ | ⟨y, hy, hcc⟩
            · rw [hE2] at hr; cases hr
            · rcases hcc with ⟨k, _, _, hE2⟩ | ⟨w, E', hw, hE2⟩
              · rw [hE2] at hr; cases hr
              · rw [hE2] at hr
                cases h1 : oneE w E' vp vb st c.2.2 with
                | error k => rw [h1] at hr; cases hr
                | ok d1' =>
                  rw [h1] at hr
                  simp only [Except.bind] at hr
                  cases h2 : oneE w E' vp vb st e2 with
                  | error k => rw [h2] at hr; cases hr
                  | ok d2' =>
                    rw [h2] at hr
                    obtain ⟨rfl, rfl⟩ := Prod.mk.inj (Except.ok.inj hr)
                    have es := st_v (g := (gp, gq)) (fOk_q hgg.1) (fOk_q hsh.2.1) hst
                    have ey := rv_sb (b := (1, 1)) es.2 Int.one_pos hy
                    rw [rv_num] at ey
                    have ew := warm_v (fOk_q hgg.2.2.1) ey.2 hEq hw
                    have ec : 1 + rv y = rv st := by rw [ey.1]; grind
                    rw [ec] at ew
                    have hcp : 0 < rv st := by rw [es.1]; exact hC
                    have ee := en_v (by rw [e]; exact fOk_q hat.2.1) (fOk_q hsh.2.1) (by rw [e]; exact fOk_q hat.1) (fOk_q hsh.2.2.2) hen
                    have hW : ∀ (j : Nat) (e' : FrT), E'[j]? = some e' → -(rv (wrN E E.length) * rv st) ≤ rv e' ∧ rv e' ≤ rv (wrN E E.length) * rv st := fun j e' he' => by
                      obtain ⟨e0, he0, h0⟩ := ew.2.2.2 j e' he'
                      have hb0 := hwr.2 j e0 (List.getElem?_eq_some_iff.1 he0).1 he0
                      have k1 := Rat.mul_le_mul_of_nonneg_right hb0.1 (Rat.le_of_lt hcp)
                      have k2 := Rat.mul_le_mul_of_nonneg_right hb0.2 (Rat.le_of_lt hcp)
                      rw [h0]
                      constructor <;> grind
                    obtain ⟨a1, ha1, hd1⟩ := one_v h1
                    obtain ⟨a2, ha2, hd2⟩ := one_v h2
                    obtain ⟨wp, wq⟩ := w
                    have r1 := read_v ew.2.2.1 hgg.2.2.2.1 (fOk_q hsh.2.2.2) hW ha1
                    have r2 := read_v ew.2.2.1 hgg.2.2.2.1 ee.2 hW ha2
                    have hsp := (rv_pos es.2).1 hcp
                    have v1 := rv_dv r1.2 es.2 hsp hd1
                    have v2 := rv_dv r2.2 es.2 hsp hd2
                    have hvp : (0 : Rat) < vp := pos_q (by omega)
                    rw [ew.1] at r1 r2
                    rw [ee.1] at r2
                    rw [hv.1.1, hv.2.1, v1.1, v2.1, ← es.1]
                    rw [al_1 hcp hvp, al_2 hcp hvp]
                    have hself := al_3 (a := rv (thAt T c).2.1) hD
                    constructor
                    · rw [← hself]
                      refine Rat.le_trans (rat_div_le ?_ hD) (by rw [hself]; exact Rat.le_refl)
                      grind
                    · rw [← hself]
                      refine Rat.le_trans (b := rv (thAt T c).2.1 * (1 + rv (thAt T c).2.2 * rv c.2.1) / (1 + rv (thAt T c).2.2 * rv c.2.1)) (by rw [hself]; exact Rat.le_refl) (rat_div_le ?_ hD)
                      grind
end Go.Proofs.Ytbmejhabgoimeaa.Eng
set_option linter.unusedVariables false
set_option linter.unusedSimpArgs false
namespace Go.Proofs.Ytbmejhabgoimeaa.Eng
open Go Go.RowKit
set_option maxRecDepth 100000
def s_vScaleL : Spec := fun args S => match args, S with
  | [.agg [.int .i64 up, .int .i64 uq, .sl 0 s n x]], [.arr (.prod (.int .i64) (.int .i64)) l 2 wr] => ⟨s + n ≤ l.length ∧ n ≤ 9223372036854775807, .bool (scB up uq (seg l s n)), [.arr (.prod (.int .i64) (.int .i64)) l 2 wr]⟩
  | _, _ => noSpec
theorem bn_nil {up uq vp gp gq : Int} {E : List FrT} (h1 : scB up uq E = true) (h2 : 2 ≤ vp ∧ vp ≤ 40) (h3 : gwB gp gq = true) : bnB up uq vp gp gq E [] = true := by
  unfold bnB
  rw [h1, h3, decide_eq_true h2, allI_iff.2 (fun k a (ha : ([] : List ThT)[k]? = some a) => by simp at ha)]; rfl
theorem sc_big {up uq : Int} {E : List FrT} (h : 60 < E.length) : scB up uq E = false := by
  unfold scB; rw [show decide (2 ≤ E.length ∧ E.length ≤ 60) = false from decide_eq_false (by omega), Bool.and_false, Bool.false_and]
theorem ok_vScaleL : SpecOk Try.prog 56 s_vScaleL := by
  intro args S h; unfold s_vScaleL at h ⊢; (split at h <;> first | exact False.elim h | skip)
  dsimp only at h ⊢
  rename_i up uq s n x l wr
  have hL := seg_len h.1
  by_cases hn : n ≤ 1048576
  · exact ok_ValidScale [.agg [.int .i64 up, .int .i64 uq, .sl 0 s n x]] [.arr (.prod (.int .i64) (.int .i64)) l 2 wr] ⟨h.1, hn⟩
  · rw [sc_big (by omega)]
    refine funW tabOk (E := [(37, s_fOk), (91, s_isUnit), (71, s_within)]) ⟨ok_ValidFrac, ok_isUnit, ok_within, trivial⟩ [(7, [(6, 0), (10, 0), (12, 0)]), (9, [(5, 0), (7, 0), (7, 1)])] (k := 1) (fn := Try.f56) rfl rfl rfl rfl rfl rfl ?_
    (repeat' ((try (conv => whnf)); first | (with_reducible first | refine And.intro ?_ ?_ | refine WX.of ?_) | exact zc | ((with_reducible refine VC.mk ?_); exact zw) | ((with_reducible refine VC.mk ?_); exact smF_ok (by assumption)) | (with_reducible first | refine splitT ?_ | refine splitF ?_) | ((with_reducible refine splitM.mk (fun hsm => ?_) (fun hsm => ?_)) <;> (try exact zx)) | ((with_reducible refine splitB.mk (fun h => ?_) (fun h => ?_)) <;> (try simp only [zs, ne_eq] at h) <;> (try simp (disch := omega) only [w64] at h) <;> (try exact zx)) | (with_reducible intro hz; (try exact absurd hz (Nat.succ_ne_zero _)))))
def s_l02OkB : Spec := fun args S => match args, S with
  | [.ptr 0 0 0], [.box [.int .i64 up, .int .i64 uq, .sl 1 s n x, .int .i64 vp, .bool vb, .int .i64 gp, .int .i64 gq, .sl 2 t m y] true false, .arr (.prod (.int .i64) (.int .i64)) l 2 wr, .arr (.prod .str (.prod (.prod (.int .i64) (.int .i64)) (.prod (.int .i64) (.int .i64)))) T 5 wT] => ⟨(s + n ≤ l.length ∧ n ≤ 9223372036854775807), .bool (scB up uq (seg l s n)), [.box [.int .i64 up, .int .i64 uq, .sl 1 s n x, .int .i64 vp, .bool vb, .int .i64 gp, .int .i64 gq, .sl 2 t m y] true false, .arr (.prod (.int .i64) (.int .i64)) l 2 wr, .arr (.prod .str (.prod (.prod (.int .i64) (.int .i64)) (.prod (.int .i64) (.int .i64)))) T 5 wT]⟩
  | _, _ => noSpec
theorem ok_l02OkB : SpecOk Try.prog 73 s_l02OkB := by
  intro args S h; unfold s_l02OkB at h ⊢; (split at h <;> first | exact False.elim h | skip)
  dsimp only at h ⊢
  rename_i up uq s n x vp vb gp gq t m y l wr T wT
  have hL := seg_len h.1
  by_cases hn : n ≤ 1048576
  · exact ok_l02Ok [.ptr 0 0 0] [.box [.int .i64 up, .int .i64 uq, .sl 1 s n x, .int .i64 vp, .bool vb, .int .i64 gp, .int .i64 gq, .sl 2 t m y] true false, .arr (.prod (.int .i64) (.int .i64)) l 2 wr, .arr (.prod .str (.prod (.prod (.int .i64) (.int .i64)) (.prod (.int .i64) (.int .i64)))) T 5 wT] ⟨h.1, hn⟩
  · rw [sc_big (by omega)]
    refine funW tabOk (E := [(77, s_wi), (78, s_within)]) ⟨ok_l02Within, ok_l00In, trivial⟩ [(7, [(12, 1), (18, 1), (20, 1)])] (k := 3) (fn := Try.f73) rfl rfl rfl rfl rfl rfl ?_
    (repeat' ((try (conv => whnf)); first | (with_reducible first | refine And.intro ?_ ?_ | refine WX.of ?_) | exact zc | ((with_reducible refine VC.mk ?_); exact zw) | (with_reducible first | refine splitT ?_ | refine splitF ?_) | ((with_reducible refine splitM.mk (fun hsm => ?_) (fun hsm => ?_)) <;> (try exact zx)) | ((with_reducible refine splitB.mk (fun h => ?_) (fun h => ?_)) <;> (try simp only [zs, ne_eq] at h) <;> (try simp (disch := omega) only [w64] at h) <;> (try exact zx)) | (with_reducible intro hz; (try exact absurd hz (Nat.succ_ne_zero _)))))
def s_vsNN : Spec := fun args S => match args, S with
  | [.agg [.int .i64 up, .int .i64 uq, .nils]], [] => ⟨True, .bool false, []⟩
  | _, _ => noSpec
theorem ok_vsNN : SpecOk Try.prog 56 s_vsNN := by
  intro args S h; unfold s_vsNN at h ⊢; (split at h <;> first | exact False.elim h | skip)
  dsimp only at h ⊢
  refine funW tabOk (E := [(37, s_fOk), (91, s_isUnit), (71, s_within)]) ⟨ok_ValidFrac, ok_isUnit, ok_within, trivial⟩ [(7, [(6, 0), (10, 0), (12, 0)]), (9, [(5, 0), (7, 0), (7, 1)])] (k := 0) (fn := Try.f56) rfl rfl rfl rfl rfl rfl ?_
  (repeat' ((try (conv => whnf)); first | (with_reducible first | refine And.intro ?_ ?_ | refine WX.of ?_) | exact zc | ((with_reducible refine VC.mk ?_); exact zw) | ((with_reducible refine VC.mk ?_); exact smF_ok (by assumption)) | (with_reducible first | refine splitT ?_ | refine splitF ?_) | ((with_reducible refine splitM.mk (fun hsm => ?_) (fun hsm => ?_)) <;> (try exact zx)) | ((with_reducible refine splitB.mk (fun h => ?_) (fun h => ?_)) <;> (try simp only [zs, ne_eq] at h) <;> (try simp (disch := omega) only [w64] at h) <;> (try exact zx)) | (with_reducible intro hz; (try exact absurd hz (Nat.succ_ne_zero _)))))
def s_vbNN : Spec := fun args S => match args, S with
  | [.agg [.int .i64 up, .int .i64 uq, .nils, .int .i64 vp, .bool vb, .int .i64 gp, .int .i64 gq, .nils]], [] => ⟨True, .bool false, []⟩
  | _, _ => noSpec
set_option maxHeartbeats 1600000 in
theorem ok_vbNN : SpecOk Try.prog 88 s_vbNN := by
  intro args S h; unfold s_vbNN at h ⊢; (split at h <;> first | exact False.elim h | skip)
  dsimp only at h ⊢
  rename_i up uq vp vb gp gq
  refine funW tabOk (E := [(110, s_word), (111, (s_anyTh 112)), (37, s_fOk), (26, s_num), (38, s_cmp), (113, s_gw), (56, s_vsNN), (114, s_ver)]) ⟨ok_isWord, ok_anyTh, ok_ValidFrac, ok_num, ok_compare, ok_isGrowth, ok_vsNN, ok_ValidVernier, trivial⟩ [(6, [(12, 2)])] (k := 0) (fn := Try.f88) rfl rfl rfl rfl rfl rfl ?_
  (repeat' ((try (conv => whnf)); first | (with_reducible first | refine And.intro ?_ ?_ | refine WX.of ?_) | exact zc | ((with_reducible refine VC.mk ?_); exact zw) | (with_reducible first | refine splitT ?_ | refine splitF ?_) | ((with_reducible refine splitM.mk (fun hsm => ?_) (fun hsm => ?_)) <;> (try exact zx)) | ((with_reducible refine splitB.mk (fun h => ?_) (fun h => ?_)) <;> (try simp only [zs, ne_eq] at h) <;> (try simp (disch := omega) only [w64] at h) <;> (try exact zx)) | (with_reducible intro hz; (try exact absurd hz (Nat.succ_ne_zero _)))))
  refine loop1 tabOk (E := [(110, s_word), (111, (s_anyTh 112)), (37, s_fOk), (26, s_num), (38, s_cmp), (113, s_gw), (56, s_vsNN), (114, s_ver)]) ⟨ok_isWord, ok_anyTh, ok_ValidFrac, ok_num, ok_compare, ok_isGrowth, ok_vsNN, ok_ValidVernier, trivial⟩ [(6, [(12, 2)])] ?_
  (repeat' ((try (conv => whnf)); first | (with_reducible first | refine And.intro ?_ ?_ | refine WX.of ?_) | exact zc | ((with_reducible refine VC.mk ?_); exact zw) | (with_reducible first | refine splitT ?_ | refine splitF ?_) | ((with_reducible refine splitM.mk (fun hsm => ?_) (fun hsm => ?_)) <;> (try exact zx)) | ((with_reducible refine splitB.mk (fun h => ?_) (fun h => ?_)) <;> (try simp only [zs, ne_eq] at h) <;> (try simp (disch := omega) only [w64] at h) <;> (try exact zx)) | (with_reducible intro hz; (try exact absurd hz (Nat.succ_ne_zero _)))))
def s_shNN : Spec := fun args S => match args, S with
  | [.agg [.int .i64 up, .int .i64 uq, .nils, .int .i64 vp, .bool vb, .int .i64 gp, .int .i64 gq, .nils], .agg [.int .i64 i, .int .i64 wp, .int .i64 wq, .int .i64 sp, .int .i64 sq]], [] => ⟨True, .bool false, []⟩
  | _, _ => noSpec
def s_itNN : Spec := fun args S => match args, S with
  | [.agg [.int .i64 up, .int .i64 uq, .nils, .int .i64 vp, .bool vb, .int .i64 gp, .int .i64 gq, .nils], .int .i64 i], [] => ⟨True, .bool false, []⟩
  | _, _ => noSpec
theorem ok_itNN : SpecOk Try.prog 89 s_itNN := by
  intro args S h; unfold s_itNN at h ⊢; (split at h <;> first | exact False.elim h | skip)
  dsimp only at h ⊢
  refine funW tabOk (E := [(71, s_within)]) ⟨ok_within, trivial⟩ [] (k := 0) (fn := Try.f89) rfl rfl rfl rfl rfl rfl ?_
  (repeat' ((try (conv => whnf)); first | (with_reducible first | refine And.intro ?_ ?_ | refine WX.of ?_) | exact zc | ((with_reducible refine VC.mk ?_); exact zw) | (with_reducible first | refine splitT ?_ | refine splitF ?_) | ((with_reducible refine splitM.mk (fun hsm => ?_) (fun hsm => ?_)) <;> (try exact zx)) | ((with_reducible refine splitB.mk (fun h => ?_) (fun h => ?_)) <;> (try simp only [zs, ne_eq] at h) <;> (try simp (disch := omega) only [w64] at h) <;> (try exact zx)) | (with_reducible intro hz; (try exact absurd hz (Nat.succ_ne_zero _)))))
  all_goals (refine ⟨congrArg SV.bool ?_⟩; rw [decide_eq_false]; first | omega | (intro hh; rw [w64 (by omega)] at hh; omega))
theorem ok_shNN : SpecOk Try.prog 52 s_shNN := by
  intro args S h; unfold s_shNN at h ⊢; (split at h <;> first | exact False.elim h | skip)
  dsimp only at h ⊢
  refine funW tabOk (E := [(88, s_vbNN), (89, s_itNN)]) ⟨ok_vbNN, ok_itNN, trivial⟩ [] (k := 0) (fn := Try.f52) rfl rfl rfl rfl rfl rfl ?_
  (repeat' ((try (conv => whnf)); first | (with_reducible first | refine And.intro ?_ ?_ | refine WX.of ?_) | exact zc | ((with_reducible refine VC.mk ?_); exact zw) | ((with_reducible refine VC.mk ?_); exact h) | (with_reducible first | refine splitT ?_ | refine splitF ?_) | ((with_reducible refine splitM.mk (fun hsm => ?_) (fun hsm => ?_)) <;> (try exact zx)) | ((with_reducible refine splitB.mk (fun h => ?_) (fun h => ?_)) <;> (try simp only [zs, ne_eq] at h) <;> (try simp (disch := omega) only [w64] at h) <;> (try exact zx)) | (with_reducible intro hz; (try exact absurd hz (Nat.succ_ne_zero _)))))
def s_enNN : Spec := fun args S => match args, S with
  | [.agg [.int .i64 up, .int .i64 uq, .nils, .int .i64 vp, .bool vb, .int .i64 gp, .int .i64 gq, .nils], .agg [.int .i64 i, .int .i64 wp, .int .i64 wq, .int .i64 sp, .int .i64 sq]], [] => ⟨True, .tup [.agg [.int .i64 0, .int .i64 0], .agg [.int .i64 0, .int .i64 0], .int .i64 1], []⟩
  | _, _ => noSpec
theorem ok_enNN : SpecOk Try.prog 23 s_enNN := by
  intro args S h; unfold s_enNN at h ⊢; (split at h <;> first | exact False.elim h | skip)
  dsimp only at h ⊢
  refine funW tabOk (E := [(52, s_shNN)]) ⟨ok_shNN, trivial⟩ [(4, [(2, 1), (2, 2), (5, 1), (14, 0), (14, 1), (14, 2)]), (7, [(2, 1)])] (k := 0) (fn := Try.f23) rfl rfl rfl rfl rfl rfl ?_
  (repeat' ((try (conv => whnf)); first | (with_reducible first | refine And.intro ?_ ?_ | refine WX.of ?_) | exact zc | ((with_reducible refine VC.mk ?_); exact zw) | ((with_reducible refine VC.mk ?_); exact h) | (with_reducible first | refine splitT ?_ | refine splitF ?_) | ((with_reducible refine splitM.mk (fun hsm => ?_) (fun hsm => ?_)) <;> (try exact zx)) | ((with_reducible refine splitB.mk (fun h => ?_) (fun h => ?_)) <;> (try simp only [zs, ne_eq] at h) <;> (try simp (disch := omega) only [w64] at h) <;> (try exact zx)) | (with_reducible intro hz; (try exact absurd hz (Nat.succ_ne_zero _)))))
theorem ok_rdNN : SpecOk Try.prog 9 s_enNN := by
  intro args S h; unfold s_enNN at h ⊢; (split at h <;> first | exact False.elim h | skip)
  dsimp only at h ⊢
  refine funW tabOk (E := [(23, s_enNN)]) ⟨ok_enNN, trivial⟩ [(6, [(1, 1), (4, 0), (4, 1)]), (24, [(5, 1)])] (k := 0) (fn := Try.f9) rfl rfl rfl rfl rfl rfl ?_
  (repeat' ((try (conv => whnf)); first | (with_reducible first | refine And.intro ?_ ?_ | refine WX.of ?_) | exact zc | ((with_reducible refine VC.mk ?_); exact zw) | ((with_reducible refine VC.mk ?_); exact h) | (with_reducible first | refine splitT ?_ | refine splitF ?_) | ((with_reducible refine splitM.mk (fun hsm => ?_) (fun hsm => ?_)) <;> (try exact zx)) | ((with_reducible refine splitB.mk (fun h => ?_) (fun h => ?_)) <;> (try simp only [zs, ne_eq] at h) <;> (try simp (disch := omega) only [w64] at h) <;> (try exact zx)) | (with_reducible intro hz; (try exact absurd hz (Nat.succ_ne_zero _)))))
def s_trNN : Spec := fun args S => match args, S with
  | [.agg [.int .i64 up, .int .i64 uq, .nils, .int .i64 vp, .bool vb, .int .i64 gp, .int .i64 gq, .nils], .agg [.int .i64 i, .int .i64 wp, .int .i64 wq, .int .i64 sp, .int .i64 sq]], [] => ⟨True, .tup [.agg [.int .i64 0, .int .i64 0, .int .i64 0, .int .i64 0, .int .i64 0, .int .i64 0, .int .i64 0, .int .i64 0, .int .i64 0, .int .i64 0, .int .i64 0, .int .i64 0, .int .i64 0, .int .i64 0, .int .i64 0], .int .i64 1], []⟩
  | _, _ => noSpec
theorem ok_trNNI : SpecOk Try.prog 12 s_trNN := by
  intro args S h; unfold s_trNN at h ⊢; (split at h <;> first | exact False.elim h | skip)
  dsimp only at h ⊢
  refine funW tabOk (E := [(9, s_enNN)]) ⟨ok_rdNN, trivial⟩ [] (k := 0) (fn := Try.f12) rfl rfl rfl rfl rfl rfl ?_
  (repeat' ((try (conv => whnf)); first | (with_reducible first | refine And.intro ?_ ?_ | refine WX.of ?_) | exact zc | ((with_reducible refine VC.mk ?_); exact zw) | ((with_reducible refine VC.mk ?_); exact h) | (with_reducible first | refine splitT ?_ | refine splitF ?_) | ((with_reducible refine splitM.mk (fun hsm => ?_) (fun hsm => ?_)) <;> (try exact zx)) | ((with_reducible refine splitB.mk (fun h => ?_) (fun h => ?_)) <;> (try simp only [zs, ne_eq] at h) <;> (try simp (disch := omega) only [w64] at h) <;> (try exact zx)) | (with_reducible intro hz; (try exact absurd hz (Nat.succ_ne_zero _)))))
def s_loNN : Spec := fun args S => match args, S with
  | [.ptr 0 0 0], [.box [.int .i64 up, .int .i64 uq, .nils, .int .i64 vp, .bool vb, .int .i64 gp, .int .i64 gq, .nils] true false] => ⟨True, .bool false, [.box [.int .i64 up, .int .i64 uq, .nils, .int .i64 vp, .bool vb, .int .i64 gp, .int .i64 gq, .nils] true false]⟩
  | _, _ => noSpec
theorem ok_loNN : SpecOk Try.prog 73 s_loNN := by
  intro args S h; unfold s_loNN at h ⊢; (split at h <;> first | exact False.elim h | skip)
  dsimp only at h ⊢
  refine funW tabOk (E := [(77, s_wi), (78, s_within)]) ⟨ok_l02Within, ok_l00In, trivial⟩ [(7, [(12, 1), (18, 1), (20, 1)])] (k := 1) (fn := Try.f73) rfl rfl rfl rfl rfl rfl ?_
  (repeat' ((try (conv => whnf)); first | (with_reducible first | refine And.intro ?_ ?_ | refine WX.of ?_) | exact zc | ((with_reducible refine VC.mk ?_); exact zw) | (with_reducible first | refine splitT ?_ | refine splitF ?_) | ((with_reducible refine splitM.mk (fun hsm => ?_) (fun hsm => ?_)) <;> (try exact zx)) | ((with_reducible refine splitB.mk (fun h => ?_) (fun h => ?_)) <;> (try simp only [zs, ne_eq] at h) <;> (try simp (disch := omega) only [w64] at h) <;> (try exact zx)) | (with_reducible intro hz; (try exact absurd hz (Nat.succ_ne_zero _)))))
theorem ok_l7NN : SpecOk Try.prog 41 s_loNN := by
  intro args S h; unfold s_loNN at h ⊢; (split at h <;> first | exact False.elim h | skip)
  dsimp only at h ⊢
  refine funW tabOk (E := [(73, s_loNN)]) ⟨ok_loNN, trivial⟩ [] (k := 1) (fn := Try.f41) rfl rfl rfl rfl rfl rfl ?_
  (repeat' ((try (conv => whnf)); first | (with_reducible first | refine And.intro ?_ ?_ | refine WX.of ?_) | exact zc | ((with_reducible refine VC.mk ?_); exact zw) | ((with_reducible refine VC.mk ?_); exact h) | (with_reducible first | refine splitT ?_ | refine splitF ?_) | ((with_reducible refine splitM.mk (fun hsm => ?_) (fun hsm => ?_)) <;> (try exact zx)) | ((with_reducible refine splitB.mk (fun h => ?_) (fun h => ?_)) <;> (try simp only [zs, ne_eq] at h) <;> (try simp (disch := omega) only [w64] at h) <;> (try exact zx)) | (with_reducible intro hz; (try exact absurd hz (Nat.succ_ne_zero _)))))
theorem ok_shNNS : SpecOk Try.prog 17 s_shNN := by
  intro args S h; unfold s_shNN at h ⊢; (split at h <;> first | exact False.elim h | skip)
  dsimp only at h ⊢
  refine funW tabOk (E := [(41, s_loNN)]) ⟨ok_l7NN, trivial⟩ [] (k := 0) (fn := Try.f17) rfl rfl rfl rfl rfl rfl ?_
  (repeat' ((try (conv => whnf)); first | (with_reducible first | refine And.intro ?_ ?_ | refine WX.of ?_) | exact zc | ((with_reducible refine VC.mk ?_); exact zw) | ((with_reducible refine VC.mk ?_); exact h) | (with_reducible first | refine splitT ?_ | refine splitF ?_) | ((with_reducible refine splitM.mk (fun hsm => ?_) (fun hsm => ?_)) <;> (try exact zx)) | ((with_reducible refine splitB.mk (fun h => ?_) (fun h => ?_)) <;> (try simp only [zs, ne_eq] at h) <;> (try simp (disch := omega) only [w64] at h) <;> (try exact zx)) | (with_reducible intro hz; (try exact absurd hz (Nat.succ_ne_zero _)))))
theorem ok_trNNS : SpecOk Try.prog 13 s_trNN := by
  intro args S h; unfold s_trNN at h ⊢; (split at h <;> first | exact False.elim h | skip)
  dsimp only at h ⊢
  refine funW tabOk (E := [(17, s_shNN)]) ⟨ok_shNNS, trivial⟩ [] (k := 0) (fn := Try.f13) rfl rfl rfl rfl rfl rfl ?_
  (repeat' ((try (conv => whnf)); first | (with_reducible first | refine And.intro ?_ ?_ | refine WX.of ?_) | exact zc | ((with_reducible refine VC.mk ?_); exact zw) | ((with_reducible refine VC.mk ?_); exact h) | (with_reducible first | refine splitT ?_ | refine splitF ?_) | ((with_reducible refine splitM.mk (fun hsm => ?_) (fun hsm => ?_)) <;> (try exact zx)) | ((with_reducible refine splitB.mk (fun h => ?_) (fun h => ?_)) <;> (try simp only [zs, ne_eq] at h) <;> (try simp (disch := omega) only [w64] at h) <;> (try exact zx)) | (with_reducible intro hz; (try exact absurd hz (Nat.succ_ne_zero _)))))
def s_vsNG : Spec := fun args S => match args, S with
  | [.agg [.int .i64 up, .int .i64 uq, .nils]], [] => ⟨True, .bool false, []⟩
  | _, _ => noSpec
theorem ok_vsNG : SpecOk Try.prog 56 s_vsNG := by
  intro args S h; unfold s_vsNG at h ⊢; (split at h <;> first | exact False.elim h | skip)
  dsimp only at h ⊢
  refine funW tabOk (E := [(37, s_fOk), (91, s_isUnit), (71, s_within)]) ⟨ok_ValidFrac, ok_isUnit, ok_within, trivial⟩ [(7, [(6, 0), (10, 0), (12, 0)]), (9, [(5, 0), (7, 0), (7, 1)])] (k := 0) (fn := Try.f56) rfl rfl rfl rfl rfl rfl ?_
  (repeat' ((try (conv => whnf)); first | (with_reducible first | refine And.intro ?_ ?_ | refine WX.of ?_) | exact zc | ((with_reducible refine VC.mk ?_); exact zw) | ((with_reducible refine VC.mk ?_); exact smF_ok (by assumption)) | (with_reducible first | refine splitT ?_ | refine splitF ?_) | ((with_reducible refine splitM.mk (fun hsm => ?_) (fun hsm => ?_)) <;> (try exact zx)) | ((with_reducible refine splitB.mk (fun h => ?_) (fun h => ?_)) <;> (try simp only [zs, ne_eq] at h) <;> (try simp (disch := omega) only [w64] at h) <;> (try exact zx)) | (with_reducible intro hz; (try exact absurd hz (Nat.succ_ne_zero _)))))
def s_vbNG : Spec := fun args S => match args, S with
  | [.agg [.int .i64 up, .int .i64 uq, .nils, .int .i64 vp, .bool vb, .int .i64 gp, .int .i64 gq, .sl 0 0 0 0]], [.gone] => ⟨True, .bool false, [.gone]⟩
  | _, _ => noSpec
set_option maxHeartbeats 1600000 in
theorem ok_vbNG : SpecOk Try.prog 88 s_vbNG := by
  intro args S h; unfold s_vbNG at h ⊢; (split at h <;> first | exact False.elim h | skip)
  dsimp only at h ⊢
  rename_i up uq vp vb gp gq
  refine funW tabOk (E := [(110, s_word), (111, (s_anyTh 112)), (37, s_fOk), (26, s_num), (38, s_cmp), (113, s_gw), (56, s_vsNG), (114, s_ver)]) ⟨ok_isWord, ok_anyTh, ok_ValidFrac, ok_num, ok_compare, ok_isGrowth, ok_vsNG, ok_ValidVernier, trivial⟩ [(6, [(12, 2)])] (k := 1) (fn := Try.f88) rfl rfl rfl rfl rfl rfl ?_
  (repeat' ((try (conv => whnf)); first | (with_reducible first | refine And.intro ?_ ?_ | refine WX.of ?_) | exact zc | ((with_reducible refine VC.mk ?_); exact zw) | (with_reducible first | refine splitT ?_ | refine splitF ?_) | ((with_reducible refine splitM.mk (fun hsm => ?_) (fun hsm => ?_)) <;> (try exact zx)) | ((with_reducible refine splitB.mk (fun h => ?_) (fun h => ?_)) <;> (try simp only [zs, ne_eq] at h) <;> (try simp (disch := omega) only [w64] at h) <;> (try exact zx)) | (with_reducible intro hz; (try exact absurd hz (Nat.succ_ne_zero _)))))
  refine loop1 tabOk (E := [(110, s_word), (111, (s_anyTh 112)), (37, s_fOk), (26, s_num), (38, s_cmp), (113, s_gw), (56, s_vsNG), (114, s_ver)]) ⟨ok_isWord, ok_anyTh, ok_ValidFrac, ok_num, ok_compare, ok_isGrowth, ok_vsNG, ok_ValidVernier, trivial⟩ [(6, [(12, 2)])] ?_
  (repeat' ((try (conv => whnf)); first | (with_reducible first | refine And.intro ?_ ?_ | refine WX.of ?_) | exact zc | ((with_reducible refine VC.mk ?_); exact zw) | (with_reducible first | refine splitT ?_ | refine splitF ?_) | ((with_reducible refine splitM.mk (fun hsm => ?_) (fun hsm => ?_)) <;> (try exact zx)) | ((with_reducible refine splitB.mk (fun h => ?_) (fun h => ?_)) <;> (try simp only [zs, ne_eq] at h) <;> (try simp (disch := omega) only [w64] at h) <;> (try exact zx)) | (with_reducible intro hz; (try exact absurd hz (Nat.succ_ne_zero _)))))
def s_shNG : Spec := fun args S => match args, S with
  | [.agg [.int .i64 up, .int .i64 uq, .nils, .int .i64 vp, .bool vb, .int .i64 gp, .int .i64 gq, .sl 0 0 0 0], .agg [.int .i64 i, .int .i64 wp, .int .i64 wq, .int .i64 sp, .int .i64 sq]], [.gone] => ⟨True, .bool false, [.gone]⟩
  | _, _ => noSpec
def s_itNG : Spec := fun args S => match args, S with
  | [.agg [.int .i64 up, .int .i64 uq, .nils, .int .i64 vp, .bool vb, .int .i64 gp, .int .i64 gq, .sl 0 0 0 0], .int .i64 i], [.gone] => ⟨True, .bool false, [.gone]⟩
  | _, _ => noSpec
theorem ok_itNG : SpecOk Try.prog 89 s_itNG := by
  intro args S h; unfold s_itNG at h ⊢; (split at h <;> first | exact False.elim h | skip)
  dsimp only at h ⊢
  refine funW tabOk (E := [(71, s_within)]) ⟨ok_within, trivial⟩ [] (k := 1) (fn := Try.f89) rfl rfl rfl rfl rfl rfl ?_
  (repeat' ((try (conv => whnf)); first | (with_reducible first | refine And.intro ?_ ?_ | refine WX.of ?_) | exact zc | ((with_reducible refine VC.mk ?_); exact zw) | (with_reducible first | refine splitT ?_ | refine splitF ?_) | ((with_reducible refine splitM.mk (fun hsm => ?_) (fun hsm => ?_)) <;> (try exact zx)) | ((with_reducible refine splitB.mk (fun h => ?_) (fun h => ?_)) <;> (try simp only [zs, ne_eq] at h) <;> (try simp (disch := omega) only [w64] at h) <;> (try exact zx)) | (with_reducible intro hz; (try exact absurd hz (Nat.succ_ne_zero _)))))
  all_goals (refine ⟨congrArg SV.bool ?_⟩; rw [decide_eq_false]; first | omega | (intro hh; rw [w64 (by omega)] at hh; omega))
theorem ok_shNG : SpecOk Try.prog 52 s_shNG := by
  intro args S h; unfold s_shNG at h ⊢; (split at h <;> first | exact False.elim h | skip)
  dsimp only at h ⊢
  refine funW tabOk (E := [(88, s_vbNG), (89, s_itNG)]) ⟨ok_vbNG, ok_itNG, trivial⟩ [] (k := 1) (fn := Try.f52) rfl rfl rfl rfl rfl rfl ?_
  (repeat' ((try (conv => whnf)); first | (with_reducible first | refine And.intro ?_ ?_ | refine WX.of ?_) | exact zc | ((with_reducible refine VC.mk ?_); exact zw) | ((with_reducible refine VC.mk ?_); exact h) | (with_reducible first | refine splitT ?_ | refine splitF ?_) | ((with_reducible refine splitM.mk (fun hsm => ?_) (fun hsm => ?_)) <;> (try exact zx)) | ((with_reducible refine splitB.mk (fun h => ?_) (fun h => ?_)) <;> (try simp only [zs, ne_eq] at h) <;> (try simp (disch := omega) only [w64] at h) <;> (try exact zx)) | (with_reducible intro hz; (try exact absurd hz (Nat.succ_ne_zero _)))))
def s_enNG : Spec := fun args S => match args, S with
  | [.agg [.int .i64 up, .int .i64 uq, .nils, .int .i64 vp, .bool vb, .int .i64 gp, .int .i64 gq, .sl 0 0 0 0], .agg [.int .i64 i, .int .i64 wp, .int .i64 wq, .int .i64 sp, .int .i64 sq]], [.gone] => ⟨True, .tup [.agg [.int .i64 0, .int .i64 0], .agg [.int .i64 0, .int .i64 0], .int .i64 1], [.gone]⟩
  | _, _ => noSpec
theorem ok_enNG : SpecOk Try.prog 23 s_enNG := by
  intro args S h; unfold s_enNG at h ⊢; (split at h <;> first | exact False.elim h | skip)
  dsimp only at h ⊢
  refine funW tabOk (E := [(52, s_shNG)]) ⟨ok_shNG, trivial⟩ [(4, [(2, 1), (2, 2), (5, 1), (14, 0), (14, 1), (14, 2)]), (7, [(2, 1)])] (k := 1) (fn := Try.f23) rfl rfl rfl rfl rfl rfl ?_
  (repeat' ((try (conv => whnf)); first | (with_reducible first | refine And.intro ?_ ?_ | refine WX.of ?_) | exact zc | ((with_reducible refine VC.mk ?_); exact zw) | ((with_reducible refine VC.mk ?_); exact h) | (with_reducible first | refine splitT ?_ | refine splitF ?_) | ((with_reducible refine splitM.mk (fun hsm => ?_) (fun hsm => ?_)) <;> (try exact zx)) | ((with_reducible refine splitB.mk (fun h => ?_) (fun h => ?_)) <;> (try simp only [zs, ne_eq] at h) <;> (try simp (disch := omega) only [w64] at h) <;> (try exact zx)) | (with_reducible intro hz; (try exact absurd hz (Nat.succ_ne_zero _)))))
theorem ok_rdNG : SpecOk Try.prog 9 s_enNG := by
  intro args S h; unfold s_enNG at h ⊢; (split at h <;> first | exact False.elim h | skip)
  dsimp only at h ⊢
  refine funW tabOk (E := [(23, s_enNG)]) ⟨ok_enNG, trivial⟩ [(6, [(1, 1), (4, 0), (4, 1)]), (24, [(5, 1)])] (k := 1) (fn := Try.f9) rfl rfl rfl rfl rfl rfl ?_
  (repeat' ((try (conv => whnf)); first | (with_reducible first | refine And.intro ?_ ?_ | refine WX.of ?_) | exact zc | ((with_reducible refine VC.mk ?_); exact zw) | ((with_reducible refine VC.mk ?_); exact h) | (with_reducible first | refine splitT ?_ | refine splitF ?_) | ((with_reducible refine splitM.mk (fun hsm => ?_) (fun hsm => ?_)) <;> (try exact zx)) | ((with_reducible refine splitB.mk (fun h => ?_) (fun h => ?_)) <;> (try simp only [zs, ne_eq] at h) <;> (try simp (disch := omega) only [w64] at h) <;> (try exact zx)) | (with_reducible intro hz; (try exact absurd hz (Nat.succ_ne_zero _)))))
def s_trNG : Spec := fun args S => match args, S with
  | [.agg [.int .i64 up, .int .i64 uq, .nils, .int .i64 vp, .bool vb, .int .i64 gp, .int .i64 gq, .sl 0 0 0 0], .agg [.int .i64 i, .int .i64 wp, .int .i64 wq, .int .i64 sp, .int .i64 sq]], [.gone] => ⟨True, .tup [.agg [.int .i64 0, .int .i64 0, .int .i64 0, .int .i64 0, .int .i64 0, .int .i64 0, .int .i64 0, .int .i64 0, .int .i64 0, .int .i64 0, .int .i64 0, .int .i64 0, .int .i64 0, .int .i64 0, .int .i64 0], .int .i64 1], [.gone]⟩
  | _, _ => noSpec
theorem ok_trNGI : SpecOk Try.prog 12 s_trNG := by
  intro args S h; unfold s_trNG at h ⊢; (split at h <;> first | exact False.elim h | skip)
  dsimp only at h ⊢
  refine funW tabOk (E := [(9, s_enNG)]) ⟨ok_rdNG, trivial⟩ [] (k := 1) (fn := Try.f12) rfl rfl rfl rfl rfl rfl ?_
  (repeat' ((try (conv => whnf)); first | (with_reducible first | refine And.intro ?_ ?_ | refine WX.of ?_) | exact zc | ((with_reducible refine VC.mk ?_); exact zw) | ((with_reducible refine VC.mk ?_); exact h) | (with_reducible first | refine splitT ?_ | refine splitF ?_) | ((with_reducible refine splitM.mk (fun hsm => ?_) (fun hsm => ?_)) <;> (try exact zx)) | ((with_reducible refine splitB.mk (fun h => ?_) (fun h => ?_)) <;> (try simp only [zs, ne_eq] at h) <;> (try simp (disch := omega) only [w64] at h) <;> (try exact zx)) | (with_reducible intro hz; (try exact absurd hz (Nat.succ_ne_zero _)))))
def s_loNG : Spec := fun args S => match args, S with
  | [.ptr 0 0 0], [.box [.int .i64 up, .int .i64 uq, .nils, .int .i64 vp, .bool vb, .int .i64 gp, .int .i64 gq, .sl 1 0 0 0] true false, .gone] => ⟨True, .bool false, [.box [.int .i64 up, .int .i64 uq, .nils, .int .i64 vp, .bool vb, .int .i64 gp, .int .i64 gq, .sl 1 0 0 0] true false, .gone]⟩
  | _, _ => noSpec
theorem ok_loNG : SpecOk Try.prog 73 s_loNG := by
  intro args S h; unfold s_loNG at h ⊢; (split at h <;> first | exact False.elim h | skip)
  dsimp only at h ⊢
  refine funW tabOk (E := [(77, s_wi), (78, s_within)]) ⟨ok_l02Within, ok_l00In, trivial⟩ [(7, [(12, 1), (18, 1), (20, 1)])] (k := 2) (fn := Try.f73) rfl rfl rfl rfl rfl rfl ?_
  (repeat' ((try (conv => whnf)); first | (with_reducible first | refine And.intro ?_ ?_ | refine WX.of ?_) | exact zc | ((with_reducible refine VC.mk ?_); exact zw) | (with_reducible first | refine splitT ?_ | refine splitF ?_) | ((with_reducible refine splitM.mk (fun hsm => ?_) (fun hsm => ?_)) <;> (try exact zx)) | ((with_reducible refine splitB.mk (fun h => ?_) (fun h => ?_)) <;> (try simp only [zs, ne_eq] at h) <;> (try simp (disch := omega) only [w64] at h) <;> (try exact zx)) | (with_reducible intro hz; (try exact absurd hz (Nat.succ_ne_zero _)))))
theorem ok_l7NG : SpecOk Try.prog 41 s_loNG := by
  intro args S h; unfold s_loNG at h ⊢; (split at h <;> first | exact False.elim h | skip)
  dsimp only at h ⊢
  refine funW tabOk (E := [(73, s_loNG)]) ⟨ok_loNG, trivial⟩ [] (k := 2) (fn := Try.f41) rfl rfl rfl rfl rfl rfl ?_
  (repeat' ((try (conv => whnf)); first | (with_reducible first | refine And.intro ?_ ?_ | refine WX.of ?_) | exact zc | ((with_reducible refine VC.mk ?_); exact zw) | ((with_reducible refine VC.mk ?_); exact h) | (with_reducible first | refine splitT ?_ | refine splitF ?_) | ((with_reducible refine splitM.mk (fun hsm => ?_) (fun hsm => ?_)) <;> (try exact zx)) | ((with_reducible refine splitB.mk (fun h => ?_) (fun h => ?_)) <;> (try simp only [zs, ne_eq] at h) <;> (try simp (disch := omega) only [w64] at h) <;> (try exact zx)) | (with_reducible intro hz; (try exact absurd hz (Nat.succ_ne_zero _)))))
theorem ok_shNGS : SpecOk Try.prog 17 s_shNG := by
  intro args S h; unfold s_shNG at h ⊢; (split at h <;> first | exact False.elim h | skip)
  dsimp only at h ⊢
  refine funW tabOk (E := [(41, s_loNG)]) ⟨ok_l7NG, trivial⟩ [] (k := 1) (fn := Try.f17) rfl rfl rfl rfl rfl rfl ?_
  (repeat' ((try (conv => whnf)); first | (with_reducible first | refine And.intro ?_ ?_ | refine WX.of ?_) | exact zc | ((with_reducible refine VC.mk ?_); exact zw) | ((with_reducible refine VC.mk ?_); exact h) | (with_reducible first | refine splitT ?_ | refine splitF ?_) | ((with_reducible refine splitM.mk (fun hsm => ?_) (fun hsm => ?_)) <;> (try exact zx)) | ((with_reducible refine splitB.mk (fun h => ?_) (fun h => ?_)) <;> (try simp only [zs, ne_eq] at h) <;> (try simp (disch := omega) only [w64] at h) <;> (try exact zx)) | (with_reducible intro hz; (try exact absurd hz (Nat.succ_ne_zero _)))))
theorem ok_trNGS : SpecOk Try.prog 13 s_trNG := by
  intro args S h; unfold s_trNG at h ⊢; (split at h <;> first | exact False.elim h | skip)
  dsimp only at h ⊢
  refine funW tabOk (E := [(17, s_shNG)]) ⟨ok_shNGS, trivial⟩ [] (k := 1) (fn := Try.f13) rfl rfl rfl rfl rfl rfl ?_
  (repeat' ((try (conv => whnf)); first | (with_reducible first | refine And.intro ?_ ?_ | refine WX.of ?_) | exact zc | ((with_reducible refine VC.mk ?_); exact zw) | ((with_reducible refine VC.mk ?_); exact h) | (with_reducible first | refine splitT ?_ | refine splitF ?_) | ((with_reducible refine splitM.mk (fun hsm => ?_) (fun hsm => ?_)) <;> (try exact zx)) | ((with_reducible refine splitB.mk (fun h => ?_) (fun h => ?_)) <;> (try simp only [zs, ne_eq] at h) <;> (try simp (disch := omega) only [w64] at h) <;> (try exact zx)) | (with_reducible intro hz; (try exact absurd hz (Nat.succ_ne_zero _)))))
def s_vsNR : Spec := fun args S => match args, S with
  | [.agg [.int .i64 up, .int .i64 uq, .nils]], [] => ⟨True, .bool false, []⟩
  | _, _ => noSpec
theorem ok_vsNR : SpecOk Try.prog 56 s_vsNR := by
  intro args S h; unfold s_vsNR at h ⊢; (split at h <;> first | exact False.elim h | skip)
  dsimp only at h ⊢
  refine funW tabOk (E := [(37, s_fOk), (91, s_isUnit), (71, s_within)]) ⟨ok_ValidFrac, ok_isUnit, ok_within, trivial⟩ [(7, [(6, 0), (10, 0), (12, 0)]), (9, [(5, 0), (7, 0), (7, 1)])] (k := 0) (fn := Try.f56) rfl rfl rfl rfl rfl rfl ?_
  (repeat' ((try (conv => whnf)); first | (with_reducible first | refine And.intro ?_ ?_ | refine WX.of ?_) | exact zc | ((with_reducible refine VC.mk ?_); exact zw) | ((with_reducible refine VC.mk ?_); exact smF_ok (by assumption)) | (with_reducible first | refine splitT ?_ | refine splitF ?_) | ((with_reducible refine splitM.mk (fun hsm => ?_) (fun hsm => ?_)) <;> (try exact zx)) | ((with_reducible refine splitB.mk (fun h => ?_) (fun h => ?_)) <;> (try simp only [zs, ne_eq] at h) <;> (try simp (disch := omega) only [w64] at h) <;> (try exact zx)) | (with_reducible intro hz; (try exact absurd hz (Nat.succ_ne_zero _)))))
def s_vbNR : Spec := fun args S => match args, S with
  | [.agg [.int .i64 up, .int .i64 uq, .nils, .int .i64 vp, .bool vb, .int .i64 gp, .int .i64 gq, .sl 0 t m y]], [.arr (.prod .str (.prod (.prod (.int .i64) (.int .i64)) (.prod (.int .i64) (.int .i64)))) T 5 wT] => ⟨(t + m ≤ T.length ∧ m ≤ 9223372036854775807) ∧ (∀ (j : Nat) (a : ThT), T[j]? = some a → a.1.length < 9223372036854775808), .bool false, [.arr (.prod .str (.prod (.prod (.int .i64) (.int .i64)) (.prod (.int .i64) (.int .i64)))) T 5 wT]⟩
  | _, _ => noSpec
set_option maxHeartbeats 1600000 in
theorem ok_vbNR : SpecOk Try.prog 88 s_vbNR := by
  intro args S h; unfold s_vbNR at h ⊢; (split at h <;> first | exact False.elim h | skip)
  dsimp only at h ⊢
  rename_i up uq vp vb gp gq t m y T wT
  refine funW tabOk (E := [(110, s_word), (111, (s_anyTh 112)), (37, s_fOk), (26, s_num), (38, s_cmp), (113, s_gw), (56, s_vsNR), (114, s_ver)]) ⟨ok_isWord, ok_anyTh, ok_ValidFrac, ok_num, ok_compare, ok_isGrowth, ok_vsNR, ok_ValidVernier, trivial⟩ [(6, [(12, 2)])] (k := 1) (fn := Try.f88) rfl rfl rfl rfl rfl rfl ?_
  (repeat' ((try (conv => whnf)); first | (with_reducible first | refine And.intro ?_ ?_ | refine WX.of ?_) | exact zc | ((with_reducible refine VC.mk ?_); exact zw) | (with_reducible first | refine splitT ?_ | refine splitF ?_) | ((with_reducible refine splitM.mk (fun hsm => ?_) (fun hsm => ?_)) <;> (try exact zx)) | ((with_reducible refine splitB.mk (fun h => ?_) (fun h => ?_)) <;> (try simp only [zs, ne_eq] at h) <;> (try simp (disch := omega) only [w64] at h) <;> (try exact zx)) | (with_reducible intro hz; (try exact absurd hz (Nat.succ_ne_zero _)))))
  obtain ⟨⟨h3, h4⟩, ho⟩ := h
  have hM := seg_len h3
  refine loopW tabOk (E := [(110, s_word), (111, (s_anyTh 112)), (37, s_fOk), (26, s_num), (38, s_cmp), (113, s_gw), (56, s_vsNR), (114, s_ver)]) ⟨ok_isWord, ok_anyTh, ok_ValidFrac, ok_num, ok_compare, ok_isGrowth, ok_vsNR, ok_ValidVernier, trivial⟩ [(6, [(12, 2)])] (σ := Nat) (fun i => [(1, .ptr 1 0 0), (6, .sl 0 t m y), (7, .int .i64 m), (8, .int .i64 i)]) (fun i => [.arr (.prod .str (.prod (.prod (.int .i64) (.int .i64)) (.prod (.int .i64) (.int .i64)))) T 5 wT, .box [.int .i64 up, .int .i64 uq, .nils, .int .i64 vp, .bool vb, .int .i64 gp, .int .i64 gq, .sl 0 t m y] true false]) (fun i => m - i) (fun i => i ≤ m) 0 (Nat.zero_le _) ?_ ?_
  · (repeat' ((try (conv => whnf)); first | (with_reducible first | refine And.intro ?_ ?_ | refine WX.of ?_) | exact zc | ((with_reducible refine VC.mk ?_); exact zw) | (with_reducible first | refine splitT ?_ | refine splitF ?_) | ((with_reducible refine splitM.mk (fun hsm => ?_) (fun hsm => ?_)) <;> (try exact zx)) | ((with_reducible refine splitB.mk (fun h => ?_) (fun h => ?_)) <;> (try simp only [zs, ne_eq] at h) <;> (try simp (disch := omega) only [w64] at h) <;> (try exact zx)) | (with_reducible intro hz; (try exact absurd hz (Nat.succ_ne_zero _)))))
  · intro i hi
    by_cases hlt : i < m
    · obtain ⟨⟨nm, ⟨p, q⟩, r, s0⟩, ha⟩ := get_some (l := seg T t m) (i := i) (by omega)
      have hno := ho _ _ (seg_get ha).1
      dsimp only at hno
      (repeat' ((try (conv => whnf)); first | (with_reducible first | refine And.intro ?_ ?_ | refine WX.of ?_) | exact zc | ((with_reducible refine VC.mk ?_); exact zw) | with_reducible refine atL_i ha ?_ | ((with_reducible refine VC.mk ?_); exact ⟨smF_ok (by assumption), smF_1 (by omega)⟩) | (with_reducible first | refine splitT ?_ | refine splitF ?_) | ((with_reducible refine splitM.mk (fun hsm => ?_) (fun hsm => ?_)) <;> (try exact zx)) | ((with_reducible refine splitB.mk (fun h => ?_) (fun h => ?_)) <;> (try simp only [zs, ne_eq] at h) <;> (try simp (disch := omega) only [w64] at h) <;> (try exact zx)) | (with_reducible intro hz; (try exact absurd hz (Nat.succ_ne_zero _)))))
      refine ⟨i + 1, by omega, hlt, ?_⟩
      (repeat' ((try (conv => whnf)); first | (with_reducible first | refine And.intro ?_ ?_ | refine WX.of ?_) | exact zc | ((with_reducible refine VC.mk ?_); exact zw) | (with_reducible first | refine splitT ?_ | refine splitF ?_) | ((with_reducible refine splitM.mk (fun hsm => ?_) (fun hsm => ?_)) <;> (try exact zx)) | ((with_reducible refine splitB.mk (fun h => ?_) (fun h => ?_)) <;> (try simp only [zs, ne_eq] at h) <;> (try simp (disch := omega) only [w64] at h) <;> (try exact zx)) | (with_reducible intro hz; (try exact absurd hz (Nat.succ_ne_zero _)))))
    · obtain rfl : i = m := by omega
      (repeat' ((try (conv => whnf)); first | (with_reducible first | refine And.intro ?_ ?_ | refine WX.of ?_) | exact zc | ((with_reducible refine VC.mk ?_); exact zw) | (with_reducible first | refine splitT ?_ | refine splitF ?_) | ((with_reducible refine splitM.mk (fun hsm => ?_) (fun hsm => ?_)) <;> (try exact zx)) | ((with_reducible refine splitB.mk (fun h => ?_) (fun h => ?_)) <;> (try simp only [zs, ne_eq] at h) <;> (try simp (disch := omega) only [w64] at h) <;> (try exact zx)) | (with_reducible intro hz; (try exact absurd hz (Nat.succ_ne_zero _)))))
def s_shNR : Spec := fun args S => match args, S with
  | [.agg [.int .i64 up, .int .i64 uq, .nils, .int .i64 vp, .bool vb, .int .i64 gp, .int .i64 gq, .sl 0 t m y], .agg [.int .i64 i, .int .i64 wp, .int .i64 wq, .int .i64 sp, .int .i64 sq]], [.arr (.prod .str (.prod (.prod (.int .i64) (.int .i64)) (.prod (.int .i64) (.int .i64)))) T 5 wT] => ⟨(t + m ≤ T.length ∧ m ≤ 9223372036854775807) ∧ (∀ (j : Nat) (a : ThT), T[j]? = some a → a.1.length < 9223372036854775808), .bool false, [.arr (.prod .str (.prod (.prod (.int .i64) (.int .i64)) (.prod (.int .i64) (.int .i64)))) T 5 wT]⟩
  | _, _ => noSpec
theorem ok_shNR : SpecOk Try.prog 52 s_shNR := by
  intro args S h; unfold s_shNR at h ⊢; (split at h <;> first | exact False.elim h | skip)
  dsimp only at h ⊢
  refine funW tabOk (E := [(88, s_vbNR)]) ⟨ok_vbNR, trivial⟩ [] (k := 1) (fn := Try.f52) rfl rfl rfl rfl rfl rfl ?_
  (repeat' ((try (conv => whnf)); first | (with_reducible first | refine And.intro ?_ ?_ | refine WX.of ?_) | exact zc | ((with_reducible refine VC.mk ?_); exact zw) | ((with_reducible refine VC.mk ?_); exact h) | (with_reducible first | refine splitT ?_ | refine splitF ?_) | ((with_reducible refine splitM.mk (fun hsm => ?_) (fun hsm => ?_)) <;> (try exact zx)) | ((with_reducible refine splitB.mk (fun h => ?_) (fun h => ?_)) <;> (try simp only [zs, ne_eq] at h) <;> (try simp (disch := omega) only [w64] at h) <;> (try exact zx)) | (with_reducible intro hz; (try exact absurd hz (Nat.succ_ne_zero _)))))
def s_enNR : Spec := fun args S => match args, S with
  | [.agg [.int .i64 up, .int .i64 uq, .nils, .int .i64 vp, .bool vb, .int .i64 gp, .int .i64 gq, .sl 0 t m y], .agg [.int .i64 i, .int .i64 wp, .int .i64 wq, .int .i64 sp, .int .i64 sq]], [.arr (.prod .str (.prod (.prod (.int .i64) (.int .i64)) (.prod (.int .i64) (.int .i64)))) T 5 wT] => ⟨(t + m ≤ T.length ∧ m ≤ 9223372036854775807) ∧ (∀ (j : Nat) (a : ThT), T[j]? = some a → a.1.length < 9223372036854775808), .tup [.agg [.int .i64 0, .int .i64 0], .agg [.int .i64 0, .int .i64 0], .int .i64 1], [.arr (.prod .str (.prod (.prod (.int .i64) (.int .i64)) (.prod (.int .i64) (.int .i64)))) T 5 wT]⟩
  | _, _ => noSpec
theorem ok_enNR : SpecOk Try.prog 23 s_enNR := by
  intro args S h; unfold s_enNR at h ⊢; (split at h <;> first | exact False.elim h | skip)
  dsimp only at h ⊢
  refine funW tabOk (E := [(52, s_shNR)]) ⟨ok_shNR, trivial⟩ [(4, [(2, 1), (2, 2), (5, 1), (14, 0), (14, 1), (14, 2)]), (7, [(2, 1)])] (k := 1) (fn := Try.f23) rfl rfl rfl rfl rfl rfl ?_
  (repeat' ((try (conv => whnf)); first | (with_reducible first | refine And.intro ?_ ?_ | refine WX.of ?_) | exact zc | ((with_reducible refine VC.mk ?_); exact zw) | ((with_reducible refine VC.mk ?_); exact h) | (with_reducible first | refine splitT ?_ | refine splitF ?_) | ((with_reducible refine splitM.mk (fun hsm => ?_) (fun hsm => ?_)) <;> (try exact zx)) | ((with_reducible refine splitB.mk (fun h => ?_) (fun h => ?_)) <;> (try simp only [zs, ne_eq] at h) <;> (try simp (disch := omega) only [w64] at h) <;> (try exact zx)) | (with_reducible intro hz; (try exact absurd hz (Nat.succ_ne_zero _)))))
theorem ok_rdNR : SpecOk Try.prog 9 s_enNR := by
  intro args S h; unfold s_enNR at h ⊢; (split at h <;> first | exact False.elim h | skip)
  dsimp only at h ⊢
  refine funW tabOk (E := [(23, s_enNR)]) ⟨ok_enNR, trivial⟩ [(6, [(1, 1), (4, 0), (4, 1)]), (24, [(5, 1)])] (k := 1) (fn := Try.f9) rfl rfl rfl rfl rfl rfl ?_
  (repeat' ((try (conv => whnf)); first | (with_reducible first | refine And.intro ?_ ?_ | refine WX.of ?_) | exact zc | ((with_reducible refine VC.mk ?_); exact zw) | ((with_reducible refine VC.mk ?_); exact h) | (with_reducible first | refine splitT ?_ | refine splitF ?_) | ((with_reducible refine splitM.mk (fun hsm => ?_) (fun hsm => ?_)) <;> (try exact zx)) | ((with_reducible refine splitB.mk (fun h => ?_) (fun h => ?_)) <;> (try simp only [zs, ne_eq] at h) <;> (try simp (disch := omega) only [w64] at h) <;> (try exact zx)) | (with_reducible intro hz; (try exact absurd hz (Nat.succ_ne_zero _)))))
def s_trNR : Spec := fun args S => match args, S with
  | [.agg [.int .i64 up, .int .i64 uq, .nils, .int .i64 vp, .bool vb, .int .i64 gp, .int .i64 gq, .sl 0 t m y], .agg [.int .i64 i, .int .i64 wp, .int .i64 wq, .int .i64 sp, .int .i64 sq]], [.arr (.prod .str (.prod (.prod (.int .i64) (.int .i64)) (.prod (.int .i64) (.int .i64)))) T 5 wT] => ⟨(t + m ≤ T.length ∧ m ≤ 9223372036854775807) ∧ (∀ (j : Nat) (a : ThT), T[j]? = some a → a.1.length < 9223372036854775808), .tup [.agg [.int .i64 0, .int .i64 0, .int .i64 0, .int .i64 0, .int .i64 0, .int .i64 0, .int .i64 0, .int .i64 0, .int .i64 0, .int .i64 0, .int .i64 0, .int .i64 0, .int .i64 0, .int .i64 0, .int .i64 0], .int .i64 1], [.arr (.prod .str (.prod (.prod (.int .i64) (.int .i64)) (.prod (.int .i64) (.int .i64)))) T 5 wT]⟩
  | _, _ => noSpec
theorem ok_trNRI : SpecOk Try.prog 12 s_trNR := by
  intro args S h; unfold s_trNR at h ⊢; (split at h <;> first | exact False.elim h | skip)
  dsimp only at h ⊢
  refine funW tabOk (E := [(9, s_enNR)]) ⟨ok_rdNR, trivial⟩ [] (k := 1) (fn := Try.f12) rfl rfl rfl rfl rfl rfl ?_
  (repeat' ((try (conv => whnf)); first | (with_reducible first | refine And.intro ?_ ?_ | refine WX.of ?_) | exact zc | ((with_reducible refine VC.mk ?_); exact zw) | ((with_reducible refine VC.mk ?_); exact h) | (with_reducible first | refine splitT ?_ | refine splitF ?_) | ((with_reducible refine splitM.mk (fun hsm => ?_) (fun hsm => ?_)) <;> (try exact zx)) | ((with_reducible refine splitB.mk (fun h => ?_) (fun h => ?_)) <;> (try simp only [zs, ne_eq] at h) <;> (try simp (disch := omega) only [w64] at h) <;> (try exact zx)) | (with_reducible intro hz; (try exact absurd hz (Nat.succ_ne_zero _)))))
def s_loNR : Spec := fun args S => match args, S with
  | [.ptr 0 0 0], [.box [.int .i64 up, .int .i64 uq, .nils, .int .i64 vp, .bool vb, .int .i64 gp, .int .i64 gq, .sl 1 t m y] true false, .arr (.prod .str (.prod (.prod (.int .i64) (.int .i64)) (.prod (.int .i64) (.int .i64)))) T 5 wT] => ⟨(t + m ≤ T.length ∧ m ≤ 9223372036854775807) ∧ (∀ (j : Nat) (a : ThT), T[j]? = some a → a.1.length < 9223372036854775808), .bool false, [.box [.int .i64 up, .int .i64 uq, .nils, .int .i64 vp, .bool vb, .int .i64 gp, .int .i64 gq, .sl 1 t m y] true false, .arr (.prod .str (.prod (.prod (.int .i64) (.int .i64)) (.prod (.int .i64) (.int .i64)))) T 5 wT]⟩
  | _, _ => noSpec
theorem ok_loNR : SpecOk Try.prog 73 s_loNR := by
  intro args S h; unfold s_loNR at h ⊢; (split at h <;> first | exact False.elim h | skip)
  dsimp only at h ⊢
  refine funW tabOk (E := [(77, s_wi), (78, s_within)]) ⟨ok_l02Within, ok_l00In, trivial⟩ [(7, [(12, 1), (18, 1), (20, 1)])] (k := 2) (fn := Try.f73) rfl rfl rfl rfl rfl rfl ?_
  (repeat' ((try (conv => whnf)); first | (with_reducible first | refine And.intro ?_ ?_ | refine WX.of ?_) | exact zc | ((with_reducible refine VC.mk ?_); exact zw) | (with_reducible first | refine splitT ?_ | refine splitF ?_) | ((with_reducible refine splitM.mk (fun hsm => ?_) (fun hsm => ?_)) <;> (try exact zx)) | ((with_reducible refine splitB.mk (fun h => ?_) (fun h => ?_)) <;> (try simp only [zs, ne_eq] at h) <;> (try simp (disch := omega) only [w64] at h) <;> (try exact zx)) | (with_reducible intro hz; (try exact absurd hz (Nat.succ_ne_zero _)))))
theorem ok_l7NR : SpecOk Try.prog 41 s_loNR := by
  intro args S h; unfold s_loNR at h ⊢; (split at h <;> first | exact False.elim h | skip)
  dsimp only at h ⊢
  refine funW tabOk (E := [(73, s_loNR)]) ⟨ok_loNR, trivial⟩ [] (k := 2) (fn := Try.f41) rfl rfl rfl rfl rfl rfl ?_
  (repeat' ((try (conv => whnf)); first | (with_reducible first | refine And.intro ?_ ?_ | refine WX.of ?_) | exact zc | ((with_reducible refine VC.mk ?_); exact zw) | ((with_reducible refine VC.mk ?_); exact h) | (with_reducible first | refine splitT ?_ | refine splitF ?_) | ((with_reducible refine splitM.mk (fun hsm => ?_) (fun hsm => ?_)) <;> (try exact zx)) | ((with_reducible refine splitB.mk (fun h => ?_) (fun h => ?_)) <;> (try simp only [zs, ne_eq] at h) <;> (try simp (disch := omega) only [w64] at h) <;> (try exact zx)) | (with_reducible intro hz; (try exact absurd hz (Nat.succ_ne_zero _)))))
theorem ok_shNRS : SpecOk Try.prog 17 s_shNR := by
  intro args S h; unfold s_shNR at h ⊢; (split at h <;> first | exact False.elim h | skip)
  dsimp only at h ⊢
  refine funW tabOk (E := [(41, s_loNR)]) ⟨ok_l7NR, trivial⟩ [] (k := 1) (fn := Try.f17) rfl rfl rfl rfl rfl rfl ?_
  (repeat' ((try (conv => whnf)); first | (with_reducible first | refine And.intro ?_ ?_ | refine WX.of ?_) | exact zc | ((with_reducible refine VC.mk ?_); exact zw) | ((with_reducible refine VC.mk ?_); exact h) | (with_reducible first | refine splitT ?_ | refine splitF ?_) | ((with_reducible refine splitM.mk (fun hsm => ?_) (fun hsm => ?_)) <;> (try exact zx)) | ((with_reducible refine splitB.mk (fun h => ?_) (fun h => ?_)) <;> (try simp only [zs, ne_eq] at h) <;> (try simp (disch := omega) only [w64] at h) <;> (try exact zx)) | (with_reducible intro hz; (try exact absurd hz (Nat.succ_ne_zero _)))))
theorem ok_trNRS : SpecOk Try.prog 13 s_trNR := by
  intro args S h; unfold s_trNR at h ⊢; (split at h <;> first | exact False.elim h | skip)
  dsimp only at h ⊢
  refine funW tabOk (E := [(17, s_shNR)]) ⟨ok_shNRS, trivial⟩ [] (k := 1) (fn := Try.f13) rfl rfl rfl rfl rfl rfl ?_
  (repeat' ((try (conv => whnf)); first | (with_reducible first | refine And.intro ?_ ?_ | refine WX.of ?_) | exact zc | ((with_reducible refine VC.mk ?_); exact zw) | ((with_reducible refine VC.mk ?_); exact h) | (with_reducible first | refine splitT ?_ | refine splitF ?_) | ((with_reducible refine splitM.mk (fun hsm => ?_) (fun hsm => ?_)) <;> (try exact zx)) | ((with_reducible refine splitB.mk (fun h => ?_) (fun h => ?_)) <;> (try simp only [zs, ne_eq] at h) <;> (try simp (disch := omega) only [w64] at h) <;> (try exact zx)) | (with_reducible intro hz; (try exact absurd hz (Nat.succ_ne_zero _)))))
def s_vsGN : Spec := fun args S => match args, S with
  | [.agg [.int .i64 up, .int .i64 uq, .sl 0 0 0 0]], [.gone] => ⟨True, .bool false, [.gone]⟩
  | _, _ => noSpec
theorem ok_vsGN : SpecOk Try.prog 56 s_vsGN := by
  intro args S h; unfold s_vsGN at h ⊢; (split at h <;> first | exact False.elim h | skip)
  dsimp only at h ⊢
  refine funW tabOk (E := [(37, s_fOk), (91, s_isUnit), (71, s_within)]) ⟨ok_ValidFrac, ok_isUnit, ok_within, trivial⟩ [(7, [(6, 0), (10, 0), (12, 0)]), (9, [(5, 0), (7, 0), (7, 1)])] (k := 1) (fn := Try.f56) rfl rfl rfl rfl rfl rfl ?_
  (repeat' ((try (conv => whnf)); first | (with_reducible first | refine And.intro ?_ ?_ | refine WX.of ?_) | exact zc | ((with_reducible refine VC.mk ?_); exact zw) | ((with_reducible refine VC.mk ?_); exact smF_ok (by assumption)) | (with_reducible first | refine splitT ?_ | refine splitF ?_) | ((with_reducible refine splitM.mk (fun hsm => ?_) (fun hsm => ?_)) <;> (try exact zx)) | ((with_reducible refine splitB.mk (fun h => ?_) (fun h => ?_)) <;> (try simp only [zs, ne_eq] at h) <;> (try simp (disch := omega) only [w64] at h) <;> (try exact zx)) | (with_reducible intro hz; (try exact absurd hz (Nat.succ_ne_zero _)))))
def s_vbGN : Spec := fun args S => match args, S with
  | [.agg [.int .i64 up, .int .i64 uq, .sl 0 0 0 0, .int .i64 vp, .bool vb, .int .i64 gp, .int .i64 gq, .nils]], [.gone] => ⟨True, .bool false, [.gone]⟩
  | _, _ => noSpec
set_option maxHeartbeats 1600000 in
theorem ok_vbGN : SpecOk Try.prog 88 s_vbGN := by
  intro args S h; unfold s_vbGN at h ⊢; (split at h <;> first | exact False.elim h | skip)
  dsimp only at h ⊢
  rename_i up uq vp vb gp gq
  refine funW tabOk (E := [(110, s_word), (111, (s_anyTh 112)), (37, s_fOk), (26, s_num), (38, s_cmp), (113, s_gw), (56, s_vsGN), (114, s_ver)]) ⟨ok_isWord, ok_anyTh, ok_ValidFrac, ok_num, ok_compare, ok_isGrowth, ok_vsGN, ok_ValidVernier, trivial⟩ [(6, [(12, 2)])] (k := 1) (fn := Try.f88) rfl rfl rfl rfl rfl rfl ?_
  (repeat' ((try (conv => whnf)); first | (with_reducible first | refine And.intro ?_ ?_ | refine WX.of ?_) | exact zc | ((with_reducible refine VC.mk ?_); exact zw) | (with_reducible first | refine splitT ?_ | refine splitF ?_) | ((with_reducible refine splitM.mk (fun hsm => ?_) (fun hsm => ?_)) <;> (try exact zx)) | ((with_reducible refine splitB.mk (fun h => ?_) (fun h => ?_)) <;> (try simp only [zs, ne_eq] at h) <;> (try simp (disch := omega) only [w64] at h) <;> (try exact zx)) | (with_reducible intro hz; (try exact absurd hz (Nat.succ_ne_zero _)))))
  refine loop1 tabOk (E := [(110, s_word), (111, (s_anyTh 112)), (37, s_fOk), (26, s_num), (38, s_cmp), (113, s_gw), (56, s_vsGN), (114, s_ver)]) ⟨ok_isWord, ok_anyTh, ok_ValidFrac, ok_num, ok_compare, ok_isGrowth, ok_vsGN, ok_ValidVernier, trivial⟩ [(6, [(12, 2)])] ?_
  (repeat' ((try (conv => whnf)); first | (with_reducible first | refine And.intro ?_ ?_ | refine WX.of ?_) | exact zc | ((with_reducible refine VC.mk ?_); exact zw) | (with_reducible first | refine splitT ?_ | refine splitF ?_) | ((with_reducible refine splitM.mk (fun hsm => ?_) (fun hsm => ?_)) <;> (try exact zx)) | ((with_reducible refine splitB.mk (fun h => ?_) (fun h => ?_)) <;> (try simp only [zs, ne_eq] at h) <;> (try simp (disch := omega) only [w64] at h) <;> (try exact zx)) | (with_reducible intro hz; (try exact absurd hz (Nat.succ_ne_zero _)))))
def s_shGN : Spec := fun args S => match args, S with
  | [.agg [.int .i64 up, .int .i64 uq, .sl 0 0 0 0, .int .i64 vp, .bool vb, .int .i64 gp, .int .i64 gq, .nils], .agg [.int .i64 i, .int .i64 wp, .int .i64 wq, .int .i64 sp, .int .i64 sq]], [.gone] => ⟨True, .bool false, [.gone]⟩
  | _, _ => noSpec
def s_itGN : Spec := fun args S => match args, S with
  | [.agg [.int .i64 up, .int .i64 uq, .sl 0 0 0 0, .int .i64 vp, .bool vb, .int .i64 gp, .int .i64 gq, .nils], .int .i64 i], [.gone] => ⟨True, .bool false, [.gone]⟩
  | _, _ => noSpec
theorem ok_itGN : SpecOk Try.prog 89 s_itGN := by
  intro args S h; unfold s_itGN at h ⊢; (split at h <;> first | exact False.elim h | skip)
  dsimp only at h ⊢
  refine funW tabOk (E := [(71, s_within)]) ⟨ok_within, trivial⟩ [] (k := 1) (fn := Try.f89) rfl rfl rfl rfl rfl rfl ?_
  (repeat' ((try (conv => whnf)); first | (with_reducible first | refine And.intro ?_ ?_ | refine WX.of ?_) | exact zc | ((with_reducible refine VC.mk ?_); exact zw) | (with_reducible first | refine splitT ?_ | refine splitF ?_) | ((with_reducible refine splitM.mk (fun hsm => ?_) (fun hsm => ?_)) <;> (try exact zx)) | ((with_reducible refine splitB.mk (fun h => ?_) (fun h => ?_)) <;> (try simp only [zs, ne_eq] at h) <;> (try simp (disch := omega) only [w64] at h) <;> (try exact zx)) | (with_reducible intro hz; (try exact absurd hz (Nat.succ_ne_zero _)))))
  all_goals (refine ⟨congrArg SV.bool ?_⟩; rw [decide_eq_false]; first | omega | (intro hh; rw [w64 (by omega)] at hh; omega))
theorem ok_shGN : SpecOk Try.prog 52 s_shGN := by
  intro args S h; unfold s_shGN at h ⊢; (split at h <;> first | exact False.elim h | skip)
  dsimp only at h ⊢
  refine funW tabOk (E := [(88, s_vbGN), (89, s_itGN)]) ⟨ok_vbGN, ok_itGN, trivial⟩ [] (k := 1) (fn := Try.f52) rfl rfl rfl rfl rfl rfl ?_
  (repeat' ((try (conv => whnf)); first | (with_reducible first | refine And.intro ?_ ?_ | refine WX.of ?_) | exact zc | ((with_reducible refine VC.mk ?_); exact zw) | ((with_reducible refine VC.mk ?_); exact h) | (with_reducible first | refine splitT ?_ | refine splitF ?_) | ((with_reducible refine splitM.mk (fun hsm => ?_) (fun hsm => ?_)) <;> (try exact zx)) | ((with_reducible refine splitB.mk (fun h => ?_) (fun h => ?_)) <;> (try simp only [zs, ne_eq] at h) <;> (try simp (disch := omega) only [w64] at h) <;> (try exact zx)) | (with_reducible intro hz; (try exact absurd hz (Nat.succ_ne_zero _)))))
def s_enGN : Spec := fun args S => match args, S with
  | [.agg [.int .i64 up, .int .i64 uq, .sl 0 0 0 0, .int .i64 vp, .bool vb, .int .i64 gp, .int .i64 gq, .nils], .agg [.int .i64 i, .int .i64 wp, .int .i64 wq, .int .i64 sp, .int .i64 sq]], [.gone] => ⟨True, .tup [.agg [.int .i64 0, .int .i64 0], .agg [.int .i64 0, .int .i64 0], .int .i64 1], [.gone]⟩
  | _, _ => noSpec
theorem ok_enGN : SpecOk Try.prog 23 s_enGN := by
  intro args S h; unfold s_enGN at h ⊢; (split at h <;> first | exact False.elim h | skip)
  dsimp only at h ⊢
  refine funW tabOk (E := [(52, s_shGN)]) ⟨ok_shGN, trivial⟩ [(4, [(2, 1), (2, 2), (5, 1), (14, 0), (14, 1), (14, 2)]), (7, [(2, 1)])] (k := 1) (fn := Try.f23) rfl rfl rfl rfl rfl rfl ?_
  (repeat' ((try (conv => whnf)); first | (with_reducible first | refine And.intro ?_ ?_ | refine WX.of ?_) | exact zc | ((with_reducible refine VC.mk ?_); exact zw) | ((with_reducible refine VC.mk ?_); exact h) | (with_reducible first | refine splitT ?_ | refine splitF ?_) | ((with_reducible refine splitM.mk (fun hsm => ?_) (fun hsm => ?_)) <;> (try exact zx)) | ((with_reducible refine splitB.mk (fun h => ?_) (fun h => ?_)) <;> (try simp only [zs, ne_eq] at h) <;> (try simp (disch := omega) only [w64] at h) <;> (try exact zx)) | (with_reducible intro hz; (try exact absurd hz (Nat.succ_ne_zero _)))))
theorem ok_rdGN : SpecOk Try.prog 9 s_enGN := by
  intro args S h; unfold s_enGN at h ⊢; (split at h <;> first | exact False.elim h | skip)
  dsimp only at h ⊢
  refine funW tabOk (E := [(23, s_enGN)]) ⟨ok_enGN, trivial⟩ [(6, [(1, 1), (4, 0), (4, 1)]), (24, [(5, 1)])] (k := 1) (fn := Try.f9) rfl rfl rfl rfl rfl rfl ?_
  (repeat' ((try (conv => whnf)); first | (with_reducible first | refine And.intro ?_ ?_ | refine WX.of ?_) | exact zc | ((with_reducible refine VC.mk ?_); exact zw) | ((with_reducible refine VC.mk ?_); exact h) | (with_reducible first | refine splitT ?_ | refine splitF ?_) | ((with_reducible refine splitM.mk (fun hsm => ?_) (fun hsm => ?_)) <;> (try exact zx)) | ((with_reducible refine splitB.mk (fun h => ?_) (fun h => ?_)) <;> (try simp only [zs, ne_eq] at h) <;> (try simp (disch := omega) only [w64] at h) <;> (try exact zx)) | (with_reducible intro hz; (try exact absurd hz (Nat.succ_ne_zero _)))))
def s_trGN : Spec := fun args S => match args, S with
  | [.agg [.int .i64 up, .int .i64 uq, .sl 0 0 0 0, .int .i64 vp, .bool vb, .int .i64 gp, .int .i64 gq, .nils], .agg [.int .i64 i, .int .i64 wp, .int .i64 wq, .int .i64 sp, .int .i64 sq]], [.gone] => ⟨True, .tup [.agg [.int .i64 0, .int .i64 0, .int .i64 0, .int .i64 0, .int .i64 0, .int .i64 0, .int .i64 0, .int .i64 0, .int .i64 0, .int .i64 0, .int .i64 0, .int .i64 0, .int .i64 0, .int .i64 0, .int .i64 0], .int .i64 1], [.gone]⟩
  | _, _ => noSpec
theorem ok_trGNI : SpecOk Try.prog 12 s_trGN := by
  intro args S h; unfold s_trGN at h ⊢; (split at h <;> first | exact False.elim h | skip)
  dsimp only at h ⊢
  refine funW tabOk (E := [(9, s_enGN)]) ⟨ok_rdGN, trivial⟩ [] (k := 1) (fn := Try.f12) rfl rfl rfl rfl rfl rfl ?_
  (repeat' ((try (conv => whnf)); first | (with_reducible first | refine And.intro ?_ ?_ | refine WX.of ?_) | exact zc | ((with_reducible refine VC.mk ?_); exact zw) | ((with_reducible refine VC.mk ?_); exact h) | (with_reducible first | refine splitT ?_ | refine splitF ?_) | ((with_reducible refine splitM.mk (fun hsm => ?_) (fun hsm => ?_)) <;> (try exact zx)) | ((with_reducible refine splitB.mk (fun h => ?_) (fun h => ?_)) <;> (try simp only [zs, ne_eq] at h) <;> (try simp (disch := omega) only [w64] at h) <;> (try exact zx)) | (with_reducible intro hz; (try exact absurd hz (Nat.succ_ne_zero _)))))
def s_loGN : Spec := fun args S => match args, S with
  | [.ptr 0 0 0], [.box [.int .i64 up, .int .i64 uq, .sl 1 0 0 0, .int .i64 vp, .bool vb, .int .i64 gp, .int .i64 gq, .nils] true false, .gone] => ⟨True, .bool false, [.box [.int .i64 up, .int .i64 uq, .sl 1 0 0 0, .int .i64 vp, .bool vb, .int .i64 gp, .int .i64 gq, .nils] true false, .gone]⟩
  | _, _ => noSpec
theorem ok_loGN : SpecOk Try.prog 73 s_loGN := by
  intro args S h; unfold s_loGN at h ⊢; (split at h <;> first | exact False.elim h | skip)
  dsimp only at h ⊢
  refine funW tabOk (E := [(77, s_wi), (78, s_within)]) ⟨ok_l02Within, ok_l00In, trivial⟩ [(7, [(12, 1), (18, 1), (20, 1)])] (k := 2) (fn := Try.f73) rfl rfl rfl rfl rfl rfl ?_
  (repeat' ((try (conv => whnf)); first | (with_reducible first | refine And.intro ?_ ?_ | refine WX.of ?_) | exact zc | ((with_reducible refine VC.mk ?_); exact zw) | (with_reducible first | refine splitT ?_ | refine splitF ?_) | ((with_reducible refine splitM.mk (fun hsm => ?_) (fun hsm => ?_)) <;> (try exact zx)) | ((with_reducible refine splitB.mk (fun h => ?_) (fun h => ?_)) <;> (try simp only [zs, ne_eq] at h) <;> (try simp (disch := omega) only [w64] at h) <;> (try exact zx)) | (with_reducible intro hz; (try exact absurd hz (Nat.succ_ne_zero _)))))
theorem ok_l7GN : SpecOk Try.prog 41 s_loGN := by
  intro args S h; unfold s_loGN at h ⊢; (split at h <;> first | exact False.elim h | skip)
  dsimp only at h ⊢
  refine funW tabOk (E := [(73, s_loGN)]) ⟨ok_loGN, trivial⟩ [] (k := 2) (fn := Try.f41) rfl rfl rfl rfl rfl rfl ?_
  (repeat' ((try (conv => whnf)); first | (with_reducible first | refine And.intro ?_ ?_ | refine WX.of ?_) | exact zc | ((with_reducible refine VC.mk ?_); exact zw) | ((with_reducible refine VC.mk ?_); exact h) | (with_reducible first | refine splitT ?_ | refine splitF ?_) | ((with_reducible refine splitM.mk (fun hsm => ?_) (fun hsm => ?_)) <;> (try exact zx)) | ((with_reducible refine splitB.mk (fun h => ?_) (fun h => ?_)) <;> (try simp only [zs, ne_eq] at h) <;> (try simp (disch := omega) only [w64] at h) <;> (try exact zx)) | (with_reducible intro hz; (try exact absurd hz (Nat.succ_ne_zero _)))))
theorem ok_shGNS : SpecOk Try.prog 17 s_shGN := by
  intro args S h; unfold s_shGN at h ⊢; (split at h <;> first | exact False.elim h | skip)
  dsimp only at h ⊢
  refine funW tabOk (E := [(41, s_loGN)]) ⟨ok_l7GN, trivial⟩ [] (k := 1) (fn := Try.f17) rfl rfl rfl rfl rfl rfl ?_
  (repeat' ((try (conv => whnf)); first | (with_reducible first | refine And.intro ?_ ?_ | refine WX.of ?_) | exact zc | ((with_reducible refine VC.mk ?_); exact zw) | ((with_reducible refine VC.mk ?_); exact h) | (with_reducible first | refine splitT ?_ | refine splitF ?_) | ((with_reducible refine splitM.mk (fun hsm => ?_) (fun hsm => ?_)) <;> (try exact zx)) | ((with_reducible refine splitB.mk (fun h => ?_) (fun h => ?_)) <;> (try simp only [zs, ne_eq] at h) <;> (try simp (disch := omega) only [w64] at h) <;> (try exact zx)) | (with_reducible intro hz; (try exact absurd hz (Nat.succ_ne_zero _)))))
theorem ok_trGNS : SpecOk Try.prog 13 s_trGN := by
  intro args S h; unfold s_trGN at h ⊢; (split at h <;> first | exact False.elim h | skip)
  dsimp only at h ⊢
  refine funW tabOk (E := [(17, s_shGN)]) ⟨ok_shGNS, trivial⟩ [] (k := 1) (fn := Try.f13) rfl rfl rfl rfl rfl rfl ?_
  (repeat' ((try (conv => whnf)); first | (with_reducible first | refine And.intro ?_ ?_ | refine WX.of ?_) | exact zc | ((with_reducible refine VC.mk ?_); exact zw) | ((with_reducible refine VC.mk ?_); exact h) | (with_reducible first | refine splitT ?_ | refine splitF ?_) | ((with_reducible refine splitM.mk (fun hsm => ?_) (fun hsm => ?_)) <;> (try exact zx)) | ((with_reducible refine splitB.mk (fun h => ?_) (fun h => ?_)) <;> (try simp only [zs, ne_eq] at h) <;> (try simp (disch := omega) only [w64] at h) <;> (try exact zx)) | (with_reducible intro hz; (try exact absurd hz (Nat.succ_ne_zero _)))))
def s_vsGG : Spec := fun args S => match args, S with
  | [.agg [.int .i64 up, .int .i64 uq, .sl 0 0 0 0]], [.gone] => ⟨True, .bool false, [.gone]⟩
  | _, _ => noSpec
theorem ok_vsGG : SpecOk Try.prog 56 s_vsGG := by
  intro args S h; unfold s_vsGG at h ⊢; (split at h <;> first | exact False.elim h | skip)
  dsimp only at h ⊢
  refine funW tabOk (E := [(37, s_fOk), (91, s_isUnit), (71, s_within)]) ⟨ok_ValidFrac, ok_isUnit, ok_within, trivial⟩ [(7, [(6, 0), (10, 0), (12, 0)]), (9, [(5, 0), (7, 0), (7, 1)])] (k := 1) (fn := Try.f56) rfl rfl rfl rfl rfl rfl ?_
  (repeat' ((try (conv => whnf)); first | (with_reducible first | refine And.intro ?_ ?_ | refine WX.of ?_) | exact zc | ((with_reducible refine VC.mk ?_); exact zw) | ((with_reducible refine VC.mk ?_); exact smF_ok (by assumption)) | (with_reducible first | refine splitT ?_ | refine splitF ?_) | ((with_reducible refine splitM.mk (fun hsm => ?_) (fun hsm => ?_)) <;> (try exact zx)) | ((with_reducible refine splitB.mk (fun h => ?_) (fun h => ?_)) <;> (try simp only [zs, ne_eq] at h) <;> (try simp (disch := omega) only [w64] at h) <;> (try exact zx)) | (with_reducible intro hz; (try exact absurd hz (Nat.succ_ne_zero _)))))
def s_vbGG : Spec := fun args S => match args, S with
  | [.agg [.int .i64 up, .int .i64 uq, .sl 0 0 0 0, .int .i64 vp, .bool vb, .int .i64 gp, .int .i64 gq, .sl 1 0 0 0]], [.gone, .gone] => ⟨True, .bool false, [.gone, .gone]⟩
  | _, _ => noSpec
set_option maxHeartbeats 1600000 in
theorem ok_vbGG : SpecOk Try.prog 88 s_vbGG := by
  intro args S h; unfold s_vbGG at h ⊢; (split at h <;> first | exact False.elim h | skip)
  dsimp only at h ⊢
  rename_i up uq vp vb gp gq
  refine funW tabOk (E := [(110, s_word), (111, (s_anyTh 112)), (37, s_fOk), (26, s_num), (38, s_cmp), (113, s_gw), (56, s_vsGG), (114, s_ver)]) ⟨ok_isWord, ok_anyTh, ok_ValidFrac, ok_num, ok_compare, ok_isGrowth, ok_vsGG, ok_ValidVernier, trivial⟩ [(6, [(12, 2)])] (k := 2) (fn := Try.f88) rfl rfl rfl rfl rfl rfl ?_
  (repeat' ((try (conv => whnf)); first | (with_reducible first | refine And.intro ?_ ?_ | refine WX.of ?_) | exact zc | ((with_reducible refine VC.mk ?_); exact zw) | (with_reducible first | refine splitT ?_ | refine splitF ?_) | ((with_reducible refine splitM.mk (fun hsm => ?_) (fun hsm => ?_)) <;> (try exact zx)) | ((with_reducible refine splitB.mk (fun h => ?_) (fun h => ?_)) <;> (try simp only [zs, ne_eq] at h) <;> (try simp (disch := omega) only [w64] at h) <;> (try exact zx)) | (with_reducible intro hz; (try exact absurd hz (Nat.succ_ne_zero _)))))
  refine loop1 tabOk (E := [(110, s_word), (111, (s_anyTh 112)), (37, s_fOk), (26, s_num), (38, s_cmp), (113, s_gw), (56, s_vsGG), (114, s_ver)]) ⟨ok_isWord, ok_anyTh, ok_ValidFrac, ok_num, ok_compare, ok_isGrowth, ok_vsGG, ok_ValidVernier, trivial⟩ [(6, [(12, 2)])] ?_
  (repeat' ((try (conv => whnf)); first | (with_reducible first | refine And.intro ?_ ?_ | refine WX.of ?_) | exact zc | ((with_reducible refine VC.mk ?_); exact zw) | (with_reducible first | refine splitT ?_ | refine splitF ?_) | ((with_reducible refine splitM.mk (fun hsm => ?_) (fun hsm => ?_)) <;> (try exact zx)) | ((with_reducible refine splitB.mk (fun h => ?_) (fun h => ?_)) <;> (try simp only [zs, ne_eq] at h) <;> (try simp (disch := omega) only [w64] at h) <;> (try exact zx)) | (with_reducible intro hz; (try exact absurd hz (Nat.succ_ne_zero _)))))
def s_shGG : Spec := fun args S => match args, S with
  | [.agg [.int .i64 up, .int .i64 uq, .sl 0 0 0 0, .int .i64 vp, .bool vb, .int .i64 gp, .int .i64 gq, .sl 1 0 0 0], .agg [.int .i64 i, .int .i64 wp, .int .i64 wq, .int .i64 sp, .int .i64 sq]], [.gone, .gone] => ⟨True, .bool false, [.gone, .gone]⟩
  | _, _ => noSpec
def s_itGG : Spec := fun args S => match args, S with
  | [.agg [.int .i64 up, .int .i64 uq, .sl 0 0 0 0, .int .i64 vp, .bool vb, .int .i64 gp, .int .i64 gq, .sl 1 0 0 0], .int .i64 i], [.gone, .gone] => ⟨True, .bool false, [.gone, .gone]⟩
  | _, _ => noSpec
theorem ok_itGG : SpecOk Try.prog 89 s_itGG := by
  intro args S h; unfold s_itGG at h ⊢; (split at h <;> first | exact False.elim h | skip)
  dsimp only at h ⊢
  refine funW tabOk (E := [(71, s_within)]) ⟨ok_within, trivial⟩ [] (k := 2) (fn := Try.f89) rfl rfl rfl rfl rfl rfl ?_
  (repeat' ((try (conv => whnf)); first | (with_reducible first | refine And.intro ?_ ?_ | refine WX.of ?_) | exact zc | ((with_reducible refine VC.mk ?_); exact zw) | (with_reducible first | refine splitT ?_ | refine splitF ?_) | ((with_reducible refine splitM.mk (fun hsm => ?_) (fun hsm => ?_)) <;> (try exact zx)) | ((with_reducible refine splitB.mk (fun h => ?_) (fun h => ?_)) <;> (try simp only [zs, ne_eq] at h) <;> (try simp (disch := omega) only [w64] at h) <;> (try exact zx)) | (with_reducible intro hz; (try exact absurd hz (Nat.succ_ne_zero _)))))
  all_goals (refine ⟨congrArg SV.bool ?_⟩; rw [decide_eq_false]; first | omega | (intro hh; rw [w64 (by omega)] at hh; omega))
theorem ok_shGG : SpecOk Try.prog 52 s_shGG := by
  intro args S h; unfold s_shGG at h ⊢; (split at h <;> first | exact False.elim h | skip)
  dsimp only at h ⊢
  refine funW tabOk (E := [(88, s_vbGG), (89, s_itGG)]) ⟨ok_vbGG, ok_itGG, trivial⟩ [] (k := 2) (fn := Try.f52) rfl rfl rfl rfl rfl rfl ?_
  (repeat' ((try (conv => whnf)); first | (with_reducible first | refine And.intro ?_ ?_ | refine WX.of ?_) | exact zc | ((with_reducible refine VC.mk ?_); exact zw) | ((with_reducible refine VC.mk ?_); exact h) | (with_reducible first | refine splitT ?_ | refine splitF ?_) | ((with_reducible refine splitM.mk (fun hsm => ?_) (fun hsm => ?_)) <;> (try exact zx)) | ((with_reducible refine splitB.mk (fun h => ?_) (fun h => ?_)) <;> (try simp only [zs, ne_eq] at h) <;> (try simp (disch := omega) only [w64] at h) <;> (try exact zx)) | (with_reducible intro hz; (try exact absurd hz (Nat.succ_ne_zero _)))))
def s_enGG : Spec := fun args S => match args, S with
  | [.agg [.int .i64 up, .int .i64 uq, .sl 0 0 0 0, .int .i64 vp, .bool vb, .int .i64 gp, .int .i64 gq, .sl 1 0 0 0], .agg [.int .i64 i, .int .i64 wp, .int .i64 wq, .int .i64 sp, .int .i64 sq]], [.gone, .gone] => ⟨True, .tup [.agg [.int .i64 0, .int .i64 0], .agg [.int .i64 0, .int .i64 0], .int .i64 1], [.gone, .gone]⟩
  | _, _ => noSpec
theorem ok_enGG : SpecOk Try.prog 23 s_enGG := by
  intro args S h; unfold s_enGG at h ⊢; (split at h <;> first | exact False.elim h | skip)
  dsimp only at h ⊢
  refine funW tabOk (E := [(52, s_shGG)]) ⟨ok_shGG, trivial⟩ [(4, [(2, 1), (2, 2), (5, 1), (14, 0), (14, 1), (14, 2)]), (7, [(2, 1)])] (k := 2) (fn := Try.f23) rfl rfl rfl rfl rfl rfl ?_
  (repeat' ((try (conv => whnf)); first | (with_reducible first | refine And.intro ?_ ?_ | refine WX.of ?_) | exact zc | ((with_reducible refine VC.mk ?_); exact zw) | ((with_reducible refine VC.mk ?_); exact h) | (with_reducible first | refine splitT ?_ | refine splitF ?_) | ((with_reducible refine splitM.mk (fun hsm => ?_) (fun hsm => ?_)) <;> (try exact zx)) | ((with_reducible refine splitB.mk (fun h => ?_) (fun h => ?_)) <;> (try simp only [zs, ne_eq] at h) <;> (try simp (disch := omega) only [w64] at h) <;> (try exact zx)) | (with_reducible intro hz; (try exact absurd hz (Nat.succ_ne_zero _)))))
theorem ok_rdGG : SpecOk Try.prog 9 s_enGG := by
  intro args S h; unfold s_enGG at h ⊢; (split at h <;> first | exact False.elim h | skip)
  dsimp only at h ⊢
  refine funW tabOk (E := [(23, s_enGG)]) ⟨ok_enGG, trivial⟩ [(6, [(1, 1), (4, 0), (4, 1)]), (24, [(5, 1)])] (k := 2) (fn := Try.f9) rfl rfl rfl rfl rfl rfl ?_
  (repeat' ((try (conv => whnf)); first | (with_reducible first | refine And.intro ?_ ?_ | refine WX.of ?_) | exact zc | ((with_reducible refine VC.mk ?_); exact zw) | ((with_reducible refine VC.mk ?_); exact h) | (with_reducible first | refine splitT ?_ | refine splitF ?_) | ((with_reducible refine splitM.mk (fun hsm => ?_) (fun hsm => ?_)) <;> (try exact zx)) | ((with_reducible refine splitB.mk (fun h => ?_) (fun h => ?_)) <;> (try simp only [zs, ne_eq] at h) <;> (try simp (disch := omega) only [w64] at h) <;> (try exact zx)) | (with_reducible intro hz; (try exact absurd hz (Nat.succ_ne_zero _)))))
def s_trGG : Spec := fun args S => match args, S with
  | [.agg [.int .i64 up, .int .i64 uq, .sl 0 0 0 0, .int .i64 vp, .bool vb, .int .i64 gp, .int .i64 gq, .sl 1 0 0 0], .agg [.int .i64 i, .int .i64 wp, .int .i64 wq, .int .i64 sp, .int .i64 sq]], [.gone, .gone] => ⟨True, .tup [.agg [.int .i64 0, .int .i64 0, .int .i64 0, .int .i64 0, .int .i64 0, .int .i64 0, .int .i64 0, .int .i64 0, .int .i64 0, .int .i64 0, .int .i64 0, .int .i64 0, .int .i64 0, .int .i64 0, .int .i64 0], .int .i64 1], [.gone, .gone]⟩
  | _, _ => noSpec
theorem ok_trGGI : SpecOk Try.prog 12 s_trGG := by
  intro args S h; unfold s_trGG at h ⊢; (split at h <;> first | exact False.elim h | skip)
  dsimp only at h ⊢
  refine funW tabOk (E := [(9, s_enGG)]) ⟨ok_rdGG, trivial⟩ [] (k := 2) (fn := Try.f12) rfl rfl rfl rfl rfl rfl ?_
  (repeat' ((try (conv => whnf)); first | (with_reducible first | refine And.intro ?_ ?_ | refine WX.of ?_) | exact zc | ((with_reducible refine VC.mk ?_); exact zw) | ((with_reducible refine VC.mk ?_); exact h) | (with_reducible first | refine splitT ?_ | refine splitF ?_) | ((with_reducible refine splitM.mk (fun hsm => ?_) (fun hsm => ?_)) <;> (try exact zx)) | ((with_reducible refine splitB.mk (fun h => ?_) (fun h => ?_)) <;> (try simp only [zs, ne_eq] at h) <;> (try simp (disch := omega) only [w64] at h) <;> (try exact zx)) | (with_reducible intro hz; (try exact absurd hz (Nat.succ_ne_zero _)))))
def s_loGG : Spec := fun args S => match args, S with
  | [.ptr 0 0 0], [.box [.int .i64 up, .int .i64 uq, .sl 1 0 0 0, .int .i64 vp, .bool vb, .int .i64 gp, .int .i64 gq, .sl 2 0 0 0] true false, .gone, .gone] => ⟨True, .bool false, [.box [.int .i64 up, .int .i64 uq, .sl 1 0 0 0, .int .i64 vp, .bool vb, .int .i64 gp, .int .i64 gq, .sl 2 0 0 0] true false, .gone, .gone]⟩
  | _, _ => noSpec
theorem ok_loGG : SpecOk Try.prog 73 s_loGG := by
  intro args S h; unfold s_loGG at h ⊢; (split at h <;> first | exact False.elim h | skip)
  dsimp only at h ⊢
  refine funW tabOk (E := [(77, s_wi), (78, s_within)]) ⟨ok_l02Within, ok_l00In, trivial⟩ [(7, [(12, 1), (18, 1), (20, 1)])] (k := 3) (fn := Try.f73) rfl rfl rfl rfl rfl rfl ?_
  (repeat' ((try (conv => whnf)); first | (with_reducible first | refine And.intro ?_ ?_ | refine WX.of ?_) | exact zc | ((with_reducible refine VC.mk ?_); exact zw) | (with_reducible first | refine splitT ?_ | refine splitF ?_) | ((with_reducible refine splitM.mk (fun hsm => ?_) (fun hsm => ?_)) <;> (try exact zx)) | ((with_reducible refine splitB.mk (fun h => ?_) (fun h => ?_)) <;> (try simp only [zs, ne_eq] at h) <;> (try simp (disch := omega) only [w64] at h) <;> (try exact zx)) | (with_reducible intro hz; (try exact absurd hz (Nat.succ_ne_zero _)))))
theorem ok_l7GG : SpecOk Try.prog 41 s_loGG := by
  intro args S h; unfold s_loGG at h ⊢; (split at h <;> first | exact False.elim h | skip)
  dsimp only at h ⊢
  refine funW tabOk (E := [(73, s_loGG)]) ⟨ok_loGG, trivial⟩ [] (k := 3) (fn := Try.f41) rfl rfl rfl rfl rfl rfl ?_
  (repeat' ((try (conv => whnf)); first | (with_reducible first | refine And.intro ?_ ?_ | refine WX.of ?_) | exact zc | ((with_reducible refine VC.mk ?_); exact zw) | ((with_reducible refine VC.mk ?_); exact h) | (with_reducible first | refine splitT ?_ | refine splitF ?_) | ((with_reducible refine splitM.mk (fun hsm => ?_) (fun hsm => ?_)) <;> (try exact zx)) | ((with_reducible refine splitB.mk (fun h => ?_) (fun h => ?_)) <;> (try simp only [zs, ne_eq] at h) <;> (try simp (disch := omega) only [w64] at h) <;> (try exact zx)) | (with_reducible intro hz; (try exact absurd hz (Nat.succ_ne_zero _)))))
theorem ok_shGGS : SpecOk Try.prog 17 s_shGG := by
  intro args S h; unfold s_shGG at h ⊢; (split at h <;> first | exact False.elim h | skip)
  dsimp only at h ⊢
  refine funW tabOk (E := [(41, s_loGG)]) ⟨ok_l7GG, trivial⟩ [] (k := 2) (fn := Try.f17) rfl rfl rfl rfl rfl rfl ?_
  (repeat' ((try (conv => whnf)); first | (with_reducible first | refine And.intro ?_ ?_ | refine WX.of ?_) | exact zc | ((with_reducible refine VC.mk ?_); exact zw) | ((with_reducible refine VC.mk ?_); exact h) | (with_reducible first | refine splitT ?_ | refine splitF ?_) | ((with_reducible refine splitM.mk (fun hsm => ?_) (fun hsm => ?_)) <;> (try exact zx)) | ((with_reducible refine splitB.mk (fun h => ?_) (fun h => ?_)) <;> (try simp only [zs, ne_eq] at h) <;> (try simp (disch := omega) only [w64] at h) <;> (try exact zx)) | (with_reducible intro hz; (try exact absurd hz (Nat.succ_ne_zero _)))))
theorem ok_trGGS : SpecOk Try.prog 13 s_trGG := by
  intro args S h; unfold s_trGG at h ⊢; (split at h <;> first | exact False.elim h | skip)
  dsimp only at h ⊢
  refine funW tabOk (E := [(17, s_shGG)]) ⟨ok_shGGS, trivial⟩ [] (k := 2) (fn := Try.f13) rfl rfl rfl rfl rfl rfl ?_
  (repeat' ((try (conv => whnf)); first | (with_reducible first | refine And.intro ?_ ?_ | refine WX.of ?_) | exact zc | ((with_reducible refine VC.mk ?_); exact zw) | ((with_reducible refine VC.mk ?_); exact h) | (with_reducible first | refine splitT ?_ | refine splitF ?_) | ((with_reducible refine splitM.mk (fun hsm => ?_) (fun hsm => ?_)) <;> (try exact zx)) | ((with_reducible refine splitB.mk (fun h => ?_) (fun h => ?_)) <;> (try simp only [zs, ne_eq] at h) <;> (try simp (disch := omega) only [w64] at h) <;> (try exact zx)) | (with_reducible intro hz; (try exact absurd hz (Nat.succ_ne_zero _)))))
def s_vsGR : Spec := fun args S => match args, S with
  | [.agg [.int .i64 up, .int .i64 uq, .sl 0 0 0 0]], [.gone] => ⟨True, .bool false, [.gone]⟩
  | _, _ => noSpec
theorem ok_vsGR : SpecOk Try.prog 56 s_vsGR := by
  intro args S h; unfold s_vsGR at h ⊢; (split at h <;> first | exact False.elim h | skip)
  dsimp only at h ⊢
  refine funW tabOk (E := [(37, s_fOk), (91, s_isUnit), (71, s_within)]) ⟨ok_ValidFrac, ok_isUnit, ok_within, trivial⟩ [(7, [(6, 0), (10, 0), (12, 0)]), (9, [(5, 0), (7, 0), (7, 1)])] (k := 1) (fn := Try.f56) rfl rfl rfl rfl rfl rfl ?_
  (repeat' ((try (conv => whnf)); first | (with_reducible first | refine And.intro ?_ ?_ | refine WX.of ?_) | exact zc | ((with_reducible refine VC.mk ?_); exact zw) | ((with_reducible refine VC.mk ?_); exact smF_ok (by assumption)) | (with_reducible first | refine splitT ?_ | refine splitF ?_) | ((with_reducible refine splitM.mk (fun hsm => ?_) (fun hsm => ?_)) <;> (try exact zx)) | ((with_reducible refine splitB.mk (fun h => ?_) (fun h => ?_)) <;> (try simp only [zs, ne_eq] at h) <;> (try simp (disch := omega) only [w64] at h) <;> (try exact zx)) | (with_reducible intro hz; (try exact absurd hz (Nat.succ_ne_zero _)))))
def s_vbGR : Spec := fun args S => match args, S with
  | [.agg [.int .i64 up, .int .i64 uq, .sl 0 0 0 0, .int .i64 vp, .bool vb, .int .i64 gp, .int .i64 gq, .sl 1 t m y]], [.gone, .arr (.prod .str (.prod (.prod (.int .i64) (.int .i64)) (.prod (.int .i64) (.int .i64)))) T 5 wT] => ⟨(t + m ≤ T.length ∧ m ≤ 9223372036854775807) ∧ (∀ (j : Nat) (a : ThT), T[j]? = some a → a.1.length < 9223372036854775808), .bool false, [.gone, .arr (.prod .str (.prod (.prod (.int .i64) (.int .i64)) (.prod (.int .i64) (.int .i64)))) T 5 wT]⟩
  | _, _ => noSpec
set_option maxHeartbeats 1600000 in
theorem ok_vbGR : SpecOk Try.prog 88 s_vbGR := by
  intro args S h; unfold s_vbGR at h ⊢; (split at h <;> first | exact False.elim h | skip)
  dsimp only at h ⊢
  rename_i up uq vp vb gp gq t m y T wT
  refine funW tabOk (E := [(110, s_word), (111, (s_anyTh 112)), (37, s_fOk), (26, s_num), (38, s_cmp), (113, s_gw), (56, s_vsGR), (114, s_ver)]) ⟨ok_isWord, ok_anyTh, ok_ValidFrac, ok_num, ok_compare, ok_isGrowth, ok_vsGR, ok_ValidVernier, trivial⟩ [(6, [(12, 2)])] (k := 2) (fn := Try.f88) rfl rfl rfl rfl rfl rfl ?_
  (repeat' ((try (conv => whnf)); first | (with_reducible first | refine And.intro ?_ ?_ | refine WX.of ?_) | exact zc | ((with_reducible refine VC.mk ?_); exact zw) | (with_reducible first | refine splitT ?_ | refine splitF ?_) | ((with_reducible refine splitM.mk (fun hsm => ?_) (fun hsm => ?_)) <;> (try exact zx)) | ((with_reducible refine splitB.mk (fun h => ?_) (fun h => ?_)) <;> (try simp only [zs, ne_eq] at h) <;> (try simp (disch := omega) only [w64] at h) <;> (try exact zx)) | (with_reducible intro hz; (try exact absurd hz (Nat.succ_ne_zero _)))))
  obtain ⟨⟨h3, h4⟩, ho⟩ := h
  have hM := seg_len h3
  refine loopW tabOk (E := [(110, s_word), (111, (s_anyTh 112)), (37, s_fOk), (26, s_num), (38, s_cmp), (113, s_gw), (56, s_vsGR), (114, s_ver)]) ⟨ok_isWord, ok_anyTh, ok_ValidFrac, ok_num, ok_compare, ok_isGrowth, ok_vsGR, ok_ValidVernier, trivial⟩ [(6, [(12, 2)])] (σ := Nat) (fun i => [(1, .ptr 2 0 0), (6, .sl 1 t m y), (7, .int .i64 m), (8, .int .i64 i)]) (fun i => [.gone, .arr (.prod .str (.prod (.prod (.int .i64) (.int .i64)) (.prod (.int .i64) (.int .i64)))) T 5 wT, .box [.int .i64 up, .int .i64 uq, .sl 0 0 0 0, .int .i64 vp, .bool vb, .int .i64 gp, .int .i64 gq, .sl 1 t m y] true false]) (fun i => m - i) (fun i => i ≤ m) 0 (Nat.zero_le _) ?_ ?_
  · (repeat' ((try (conv => whnf)); first | (with_reducible first | refine And.intro ?_ ?_ | refine WX.of ?_) | exact zc | ((with_reducible refine VC.mk ?_); exact zw) | (with_reducible first | refine splitT ?_ | refine splitF ?_) | ((with_reducible refine splitM.mk (fun hsm => ?_) (fun hsm => ?_)) <;> (try exact zx)) | ((with_reducible refine splitB.mk (fun h => ?_) (fun h => ?_)) <;> (try simp only [zs, ne_eq] at h) <;> (try simp (disch := omega) only [w64] at h) <;> (try exact zx)) | (with_reducible intro hz; (try exact absurd hz (Nat.succ_ne_zero _)))))
  · intro i hi
    by_cases hlt : i < m
    · obtain ⟨⟨nm, ⟨p, q⟩, r, s0⟩, ha⟩ := get_some (l := seg T t m) (i := i) (by omega)
      have hno := ho _ _ (seg_get ha).1
      dsimp only at hno
      (repeat' ((try (conv => whnf)); first | (with_reducible first | refine And.intro ?_ ?_ | refine WX.of ?_) | exact zc | ((with_reducible refine VC.mk ?_); exact zw) | with_reducible refine atL_i ha ?_ | ((with_reducible refine VC.mk ?_); exact ⟨smF_ok (by assumption), smF_1 (by omega)⟩) | (with_reducible first | refine splitT ?_ | refine splitF ?_) | ((with_reducible refine splitM.mk (fun hsm => ?_) (fun hsm => ?_)) <;> (try exact zx)) | ((with_reducible refine splitB.mk (fun h => ?_) (fun h => ?_)) <;> (try simp only [zs, ne_eq] at h) <;> (try simp (disch := omega) only [w64] at h) <;> (try exact zx)) | (with_reducible intro hz; (try exact absurd hz (Nat.succ_ne_zero _)))))
      refine ⟨i + 1, by omega, hlt, ?_⟩
      (repeat' ((try (conv => whnf)); first | (with_reducible first | refine And.intro ?_ ?_ | refine WX.of ?_) | exact zc | ((with_reducible refine VC.mk ?_); exact zw) | (with_reducible first | refine splitT ?_ | refine splitF ?_) | ((with_reducible refine splitM.mk (fun hsm => ?_) (fun hsm => ?_)) <;> (try exact zx)) | ((with_reducible refine splitB.mk (fun h => ?_) (fun h => ?_)) <;> (try simp only [zs, ne_eq] at h) <;> (try simp (disch := omega) only [w64] at h) <;> (try exact zx)) | (with_reducible intro hz; (try exact absurd hz (Nat.succ_ne_zero _)))))
    · obtain rfl : i = m := by omega
      (repeat' ((try (conv => whnf)); first | (with_reducible first | refine And.intro ?_ ?_ | refine WX.of ?_) | exact zc | ((with_reducible refine VC.mk ?_); exact zw) | (with_reducible first | refine splitT ?_ | refine splitF ?_) | ((with_reducible refine splitM.mk (fun hsm => ?_) (fun hsm => ?_)) <;> (try exact zx)) | ((with_reducible refine splitB.mk (fun h => ?_) (fun h => ?_)) <;> (try simp only [zs, ne_eq] at h) <;> (try simp (disch := omega) only [w64] at h) <;> (try exact zx)) | (with_reducible intro hz; (try exact absurd hz (Nat.succ_ne_zero _)))))
def s_shGR : Spec := fun args S => match args, S with
  | [.agg [.int .i64 up, .int .i64 uq, .sl 0 0 0 0, .int .i64 vp, .bool vb, .int .i64 gp, .int .i64 gq, .sl 1 t m y], .agg [.int .i64 i, .int .i64 wp, .int .i64 wq, .int .i64 sp, .int .i64 sq]], [.gone, .arr (.prod .str (.prod (.prod (.int .i64) (.int .i64)) (.prod (.int .i64) (.int .i64)))) T 5 wT] => ⟨(t + m ≤ T.length ∧ m ≤ 9223372036854775807) ∧ (∀ (j : Nat) (a : ThT), T[j]? = some a → a.1.length < 9223372036854775808), .bool false, [.gone, .arr (.prod .str (.prod (.prod (.int .i64) (.int .i64)) (.prod (.int .i64) (.int .i64)))) T 5 wT]⟩
  | _, _ => noSpec
theorem ok_shGR : SpecOk Try.prog 52 s_shGR := by
  intro args S h; unfold s_shGR at h ⊢; (split at h <;> first | exact False.elim h | skip)
  dsimp only at h ⊢
  refine funW tabOk (E := [(88, s_vbGR)]) ⟨ok_vbGR, trivial⟩ [] (k := 2) (fn := Try.f52) rfl rfl rfl rfl rfl rfl ?_
  (repeat' ((try (conv => whnf)); first | (with_reducible first | refine And.intro ?_ ?_ | refine WX.of ?_) | exact zc | ((with_reducible refine VC.mk ?_); exact zw) | ((with_reducible refine VC.mk ?_); exact h) | (with_reducible first | refine splitT ?_ | refine splitF ?_) | ((with_reducible refine splitM.mk (fun hsm => ?_) (fun hsm => ?_)) <;> (try exact zx)) | ((with_reducible refine splitB.mk (fun h => ?_) (fun h => ?_)) <;> (try simp only [zs, ne_eq] at h) <;> (try simp (disch := omega) only [w64] at h) <;> (try exact zx)) | (with_reducible intro hz; (try exact absurd hz (Nat.succ_ne_zero _)))))
def s_enGR : Spec := fun args S => match args, S with
  | [.agg [.int .i64 up, .int .i64 uq, .sl 0 0 0 0, .int .i64 vp, .bool vb, .int .i64 gp, .int .i64 gq, .sl 1 t m y], .agg [.int .i64 i, .int .i64 wp, .int .i64 wq, .int .i64 sp, .int .i64 sq]], [.gone, .arr (.prod .str (.prod (.prod (.int .i64) (.int .i64)) (.prod (.int .i64) (.int .i64)))) T 5 wT] => ⟨(t + m ≤ T.length ∧ m ≤ 9223372036854775807) ∧ (∀ (j : Nat) (a : ThT), T[j]? = some a → a.1.length < 9223372036854775808), .tup [.agg [.int .i64 0, .int .i64 0], .agg [.int .i64 0, .int .i64 0], .int .i64 1], [.gone, .arr (.prod .str (.prod (.prod (.int .i64) (.int .i64)) (.prod (.int .i64) (.int .i64)))) T 5 wT]⟩
  | _, _ => noSpec
theorem ok_enGR : SpecOk Try.prog 23 s_enGR := by
  intro args S h; unfold s_enGR at h ⊢; (split at h <;> first | exact False.elim h | skip)
  dsimp only at h ⊢
  refine funW tabOk (E := [(52, s_shGR)]) ⟨ok_shGR, trivial⟩ [(4, [(2, 1), (2, 2), (5, 1), (14, 0), (14, 1), (14, 2)]), (7, [(2, 1)])] (k := 2) (fn := Try.f23) rfl rfl rfl rfl rfl rfl ?_
  (repeat' ((try (conv => whnf)); first | (with_reducible first | refine And.intro ?_ ?_ | refine WX.of ?_) | exact zc | ((with_reducible refine VC.mk ?_); exact zw) | ((with_reducible refine VC.mk ?_); exact h) | (with_reducible first | refine splitT ?_ | refine splitF ?_) | ((with_reducible refine splitM.mk (fun hsm => ?_) (fun hsm => ?_)) <;> (try exact zx)) | ((with_reducible refine splitB.mk (fun h => ?_) (fun h => ?_)) <;> (try simp only [zs, ne_eq] at h) <;> (try simp (disch := omega) only [w64] at h) <;> (try exact zx)) | (with_reducible intro hz; (try exact absurd hz (Nat.succ_ne_zero _)))))
theorem ok_rdGR : SpecOk Try.prog 9 s_enGR := by
  intro args S h; unfold s_enGR at h ⊢; (split at h <;> first | exact False.elim h | skip)
  dsimp only at h ⊢
  refine funW tabOk (E := [(23, s_enGR)]) ⟨ok_enGR, trivial⟩ [(6, [(1, 1), (4, 0), (4, 1)]), (24, [(5, 1)])] (k := 2) (fn := Try.f9) rfl rfl rfl rfl rfl rfl ?_
  (repeat' ((try (conv => whnf)); first | (with_reducible first | refine And.intro ?_ ?_ | refine WX.of ?_) | exact zc | ((with_reducible refine VC.mk ?_); exact zw) | ((with_reducible refine VC.mk ?_); exact h) | (with_reducible first | refine splitT ?_ | refine splitF ?_) | ((with_reducible refine splitM.mk (fun hsm => ?_) (fun hsm => ?_)) <;> (try exact zx)) | ((with_reducible refine splitB.mk (fun h => ?_) (fun h => ?_)) <;> (try simp only [zs, ne_eq] at h) <;> (try simp (disch := omega) only [w64] at h) <;> (try exact zx)) | (with_reducible intro hz; (try exact absurd hz (Nat.succ_ne_zero _)))))
def s_trGR : Spec := fun args S => match args, S with
  | [.agg [.int .i64 up, .int .i64 uq, .sl 0 0 0 0, .int .i64 vp, .bool vb, .int .i64 gp, .int .i64 gq, .sl 1 t m y], .agg [.int .i64 i, .int .i64 wp, .int .i64 wq, .int .i64 sp, .int .i64 sq]], [.gone, .arr (.prod .str (.prod (.prod (.int .i64) (.int .i64)) (.prod (.int .i64) (.int .i64)))) T 5 wT] => ⟨(t + m ≤ T.length ∧ m ≤ 9223372036854775807) ∧ (∀ (j : Nat) (a : ThT), T[j]? = some a → a.1.length < 9223372036854775808), .tup [.agg [.int .i64 0, .int .i64 0, .int .i64 0, .int .i64 0, .int .i64 0, .int .i64 0, .int .i64 0, .int .i64 0, .int .i64 0, .int .i64 0, .int .i64 0, .int .i64 0, .int .i64 0, .int .i64 0, .int .i64 0], .int .i64 1], [.gone, .arr (.prod .str (.prod (.prod (.int .i64) (.int .i64)) (.prod (.int .i64) (.int .i64)))) T 5 wT]⟩
  | _, _ => noSpec
theorem ok_trGRI : SpecOk Try.prog 12 s_trGR := by
  intro args S h; unfold s_trGR at h ⊢; (split at h <;> first | exact False.elim h | skip)
  dsimp only at h ⊢
  refine funW tabOk (E := [(9, s_enGR)]) ⟨ok_rdGR, trivial⟩ [] (k := 2) (fn := Try.f12) rfl rfl rfl rfl rfl rfl ?_
  (repeat' ((try (conv => whnf)); first | (with_reducible first | refine And.intro ?_ ?_ | refine WX.of ?_) | exact zc | ((with_reducible refine VC.mk ?_); exact zw) | ((with_reducible refine VC.mk ?_); exact h) | (with_reducible first | refine splitT ?_ | refine splitF ?_) | ((with_reducible refine splitM.mk (fun hsm => ?_) (fun hsm => ?_)) <;> (try exact zx)) | ((with_reducible refine splitB.mk (fun h => ?_) (fun h => ?_)) <;> (try simp only [zs, ne_eq] at h) <;> (try simp (disch := omega) only [w64] at h) <;> (try exact zx)) | (with_reducible intro hz; (try exact absurd hz (Nat.succ_ne_zero _)))))
def s_loGR : Spec := fun args S => match args, S with
  | [.ptr 0 0 0], [.box [.int .i64 up, .int .i64 uq, .sl 1 0 0 0, .int .i64 vp, .bool vb, .int .i64 gp, .int .i64 gq, .sl 2 t m y] true false, .gone, .arr (.prod .str (.prod (.prod (.int .i64) (.int .i64)) (.prod (.int .i64) (.int .i64)))) T 5 wT] => ⟨(t + m ≤ T.length ∧ m ≤ 9223372036854775807) ∧ (∀ (j : Nat) (a : ThT), T[j]? = some a → a.1.length < 9223372036854775808), .bool false, [.box [.int .i64 up, .int .i64 uq, .sl 1 0 0 0, .int .i64 vp, .bool vb, .int .i64 gp, .int .i64 gq, .sl 2 t m y] true false, .gone, .arr (.prod .str (.prod (.prod (.int .i64) (.int .i64)) (.prod (.int .i64) (.int .i64)))) T 5 wT]⟩
  | _, _ => noSpec
theorem ok_loGR : SpecOk Try.prog 73 s_loGR := by
  intro args S h; unfold s_loGR at h ⊢; (split at h <;> first | exact False.elim h | skip)
  dsimp only at h ⊢
  refine funW tabOk (E := [(77, s_wi), (78, s_within)]) ⟨ok_l02Within, ok_l00In, trivial⟩ [(7, [(12, 1), (18, 1), (20, 1)])] (k := 3) (fn := Try.f73) rfl rfl rfl rfl rfl rfl ?_
  (repeat' ((try (conv => whnf)); first | (with_reducible first | refine And.intro ?_ ?_ | refine WX.of ?_) | exact zc | ((with_reducible refine VC.mk ?_); exact zw) | (with_reducible first | refine splitT ?_ | refine splitF ?_) | ((with_reducible refine splitM.mk (fun hsm => ?_) (fun hsm => ?_)) <;> (try exact zx)) | ((with_reducible refine splitB.mk (fun h => ?_) (fun h => ?_)) <;> (try simp only [zs, ne_eq] at h) <;> (try simp (disch := omega) only [w64] at h) <;> (try exact zx)) | (with_reducible intro hz; (try exact absurd hz (Nat.succ_ne_zero _)))))
theorem ok_l7GR : SpecOk Try.prog 41 s_loGR := by
  intro args S h; unfold s_loGR at h ⊢; (split at h <;> first | exact False.elim h | skip)
  dsimp only at h ⊢
  refine funW tabOk (E := [(73, s_loGR)]) ⟨ok_loGR, trivial⟩ [] (k := 3) (fn := Try.f41) rfl rfl rfl rfl rfl rfl ?_
  (repeat' ((try (conv => whnf)); first | (with_reducible first | refine And.intro ?_ ?_ | refine WX.of ?_) | exact zc | ((with_reducible refine VC.mk ?_); exact zw) | ((with_reducible refine VC.mk ?_); exact h) | (with_reducible first | refine splitT ?_ | refine splitF ?_) | ((with_reducible refine splitM.mk (fun hsm => ?_) (fun hsm => ?_)) <;> (try exact zx)) | ((with_reducible refine splitB.mk (fun h => ?_) (fun h => ?_)) <;> (try simp only [zs, ne_eq] at h) <;> (try simp (disch := omega) only [w64] at h) <;> (try exact zx)) | (with_reducible intro hz; (try exact absurd hz (Nat.succ_ne_zero _)))))
theorem ok_shGRS : SpecOk Try.prog 17 s_shGR := by
  intro args S h; unfold s_shGR at h ⊢; (split at h <;> first | exact False.elim h | skip)
  dsimp only at h ⊢
  refine funW tabOk (E := [(41, s_loGR)]) ⟨ok_l7GR, trivial⟩ [] (k := 2) (fn := Try.f17) rfl rfl rfl rfl rfl rfl ?_
  (repeat' ((try (conv => whnf)); first | (with_reducible first | refine And.intro ?_ ?_ | refine WX.of ?_) | exact zc | ((with_reducible refine VC.mk ?_); exact zw) | ((with_reducible refine VC.mk ?_); exact h) | (with_reducible first | refine splitT ?_ | refine splitF ?_) | ((with_reducible refine splitM.mk (fun hsm => ?_) (fun hsm => ?_)) <;> (try exact zx)) | ((with_reducible refine splitB.mk (fun h => ?_) (fun h => ?_)) <;> (try simp only [zs, ne_eq] at h) <;> (try simp (disch := omega) only [w64] at h) <;> (try exact zx)) | (with_reducible intro hz; (try exact absurd hz (Nat.succ_ne_zero _)))))
theorem ok_trGRS : SpecOk Try.prog 13 s_trGR := by
  intro args S h; unfold s_trGR at h ⊢; (split at h <;> first | exact False.elim h | skip)
  dsimp only at h ⊢
  refine funW tabOk (E := [(17, s_shGR)]) ⟨ok_shGRS, trivial⟩ [] (k := 2) (fn := Try.f13) rfl rfl rfl rfl rfl rfl ?_
  (repeat' ((try (conv => whnf)); first | (with_reducible first | refine And.intro ?_ ?_ | refine WX.of ?_) | exact zc | ((with_reducible refine VC.mk ?_); exact zw) | ((with_reducible refine VC.mk ?_); exact h) | (with_reducible first | refine splitT ?_ | refine splitF ?_) | ((with_reducible refine splitM.mk (fun hsm => ?_) (fun hsm => ?_)) <;> (try exact zx)) | ((with_reducible refine splitB.mk (fun h => ?_) (fun h => ?_)) <;> (try simp only [zs, ne_eq] at h) <;> (try simp (disch := omega) only [w64] at h) <;> (try exact zx)) | (with_reducible intro hz; (try exact absurd hz (Nat.succ_ne_zero _)))))
def s_vbRN : Spec := fun args S => match args, S with
  | [.agg [.int .i64 up, .int .i64 uq, .sl 0 s n x, .int .i64 vp, .bool vb, .int .i64 gp, .int .i64 gq, .nils]], [.arr (.prod (.int .i64) (.int .i64)) l 2 wr] => ⟨(s + n ≤ l.length ∧ n ≤ 9223372036854775807), .bool (bnB up uq vp gp gq (seg l s n) []), [.arr (.prod (.int .i64) (.int .i64)) l 2 wr]⟩
  | _, _ => noSpec
set_option maxHeartbeats 1600000 in
theorem ok_vbRN : SpecOk Try.prog 88 s_vbRN := by
  intro args S h; unfold s_vbRN at h ⊢; (split at h <;> first | exact False.elim h | skip)
  dsimp only at h ⊢
  rename_i up uq s n x vp vb gp gq l wr
  refine funW tabOk (E := [(110, s_word), (111, (s_anyTh 112)), (37, s_fOk), (26, s_num), (38, s_cmp), (113, s_gw), (56, s_vScaleL), (114, s_ver)]) ⟨ok_isWord, ok_anyTh, ok_ValidFrac, ok_num, ok_compare, ok_isGrowth, ok_vScaleL, ok_ValidVernier, trivial⟩ [(6, [(12, 2)])] (k := 1) (fn := Try.f88) rfl rfl rfl rfl rfl rfl ?_
  (repeat' ((try (conv => whnf)); first | (with_reducible first | refine And.intro ?_ ?_ | refine WX.of ?_) | exact zc | ((with_reducible refine VC.mk ?_); exact zw) | (with_reducible first | refine splitT ?_ | refine splitF ?_) | ((with_reducible refine splitM.mk (fun hsm => ?_) (fun hsm => ?_)) <;> (try exact zx)) | ((with_reducible refine splitB.mk (fun h => ?_) (fun h => ?_)) <;> (try simp only [zs, ne_eq] at h) <;> (try simp (disch := omega) only [w64] at h) <;> (try exact zx)) | (with_reducible intro hz; (try exact absurd hz (Nat.succ_ne_zero _)))))
  refine loop1 tabOk (E := [(110, s_word), (111, (s_anyTh 112)), (37, s_fOk), (26, s_num), (38, s_cmp), (113, s_gw), (56, s_vScaleL), (114, s_ver)]) ⟨ok_isWord, ok_anyTh, ok_ValidFrac, ok_num, ok_compare, ok_isGrowth, ok_vScaleL, ok_ValidVernier, trivial⟩ [(6, [(12, 2)])] ?_
  (repeat' ((try (conv => whnf)); first | (with_reducible first | refine And.intro ?_ ?_ | refine WX.of ?_) | exact zc | ((with_reducible refine VC.mk ?_); exact zw) | ((with_reducible refine VC.mk ?_); exact h) | (with_reducible first | refine splitT ?_ | refine splitF ?_) | ((with_reducible refine splitM.mk (fun hsm => ?_) (fun hsm => ?_)) <;> (try exact zx)) | ((with_reducible refine splitB.mk (fun h => ?_) (fun h => ?_)) <;> (try simp only [zs, ne_eq] at h) <;> (try simp (disch := omega) only [w64] at h) <;> (try exact zx)) | (with_reducible intro hz; (try exact absurd hz (Nat.succ_ne_zero _)))))
  all_goals (first | (refine ⟨congrArg SV.bool ?_⟩; (first | (rw [bn_nil (by assumption) (by assumption) (by assumption)] <;> first | rfl | decide) | ((try simp only [bnB, allI_iff.2 (fun k a (ha : ([] : List ThT)[k]? = some a) => by simp at ha), *, Bool.and_true, Bool.true_and, Bool.false_and, Bool.and_false]); (try simp); done))) | skip)
def s_shRN : Spec := fun args S => match args, S with
  | [.agg [.int .i64 up, .int .i64 uq, .sl 0 s n x, .int .i64 vp, .bool vb, .int .i64 gp, .int .i64 gq, .nils], .agg [.int .i64 i, .int .i64 wp, .int .i64 wq, .int .i64 sp, .int .i64 sq]], [.arr (.prod (.int .i64) (.int .i64)) l 2 wr] => ⟨(s + n ≤ l.length ∧ n ≤ 9223372036854775807), .bool false, [.arr (.prod (.int .i64) (.int .i64)) l 2 wr]⟩
  | _, _ => noSpec
def s_itRN : Spec := fun args S => match args, S with
  | [.agg [.int .i64 up, .int .i64 uq, .sl 0 s n x, .int .i64 vp, .bool vb, .int .i64 gp, .int .i64 gq, .nils], .int .i64 i], [.arr (.prod (.int .i64) (.int .i64)) l 2 wr] => ⟨True, .bool false, [.arr (.prod (.int .i64) (.int .i64)) l 2 wr]⟩
  | _, _ => noSpec
theorem ok_itRN : SpecOk Try.prog 89 s_itRN := by
  intro args S h; unfold s_itRN at h ⊢; (split at h <;> first | exact False.elim h | skip)
  dsimp only at h ⊢
  refine funW tabOk (E := [(71, s_within)]) ⟨ok_within, trivial⟩ [] (k := 1) (fn := Try.f89) rfl rfl rfl rfl rfl rfl ?_
  (repeat' ((try (conv => whnf)); first | (with_reducible first | refine And.intro ?_ ?_ | refine WX.of ?_) | exact zc | ((with_reducible refine VC.mk ?_); exact zw) | (with_reducible first | refine splitT ?_ | refine splitF ?_) | ((with_reducible refine splitM.mk (fun hsm => ?_) (fun hsm => ?_)) <;> (try exact zx)) | ((with_reducible refine splitB.mk (fun h => ?_) (fun h => ?_)) <;> (try simp only [zs, ne_eq] at h) <;> (try simp (disch := omega) only [w64] at h) <;> (try exact zx)) | (with_reducible intro hz; (try exact absurd hz (Nat.succ_ne_zero _)))))
  all_goals (refine ⟨congrArg SV.bool ?_⟩; rw [decide_eq_false]; first | omega | (intro hh; rw [w64 (by omega)] at hh; omega))
theorem ok_shRN : SpecOk Try.prog 52 s_shRN := by
  intro args S h; unfold s_shRN at h ⊢; (split at h <;> first | exact False.elim h | skip)
  dsimp only at h ⊢
  refine funW tabOk (E := [(88, s_vbRN), (89, s_itRN)]) ⟨ok_vbRN, ok_itRN, trivial⟩ [] (k := 1) (fn := Try.f52) rfl rfl rfl rfl rfl rfl ?_
  (repeat' ((try (conv => whnf)); first | (with_reducible first | refine And.intro ?_ ?_ | refine WX.of ?_) | exact zc | ((with_reducible refine VC.mk ?_); exact zw) | ((with_reducible refine VC.mk ?_); exact h) | (with_reducible first | refine splitT ?_ | refine splitF ?_) | ((with_reducible refine splitM.mk (fun hsm => ?_) (fun hsm => ?_)) <;> (try exact zx)) | ((with_reducible refine splitB.mk (fun h => ?_) (fun h => ?_)) <;> (try simp only [zs, ne_eq] at h) <;> (try simp (disch := omega) only [w64] at h) <;> (try exact zx)) | (with_reducible intro hz; (try exact absurd hz (Nat.succ_ne_zero _)))))
def s_enRN : Spec := fun args S => match args, S with
  | [.agg [.int .i64 up, .int .i64 uq, .sl 0 s n x, .int .i64 vp, .bool vb, .int .i64 gp, .int .i64 gq, .nils], .agg [.int .i64 i, .int .i64 wp, .int .i64 wq, .int .i64 sp, .int .i64 sq]], [.arr (.prod (.int .i64) (.int .i64)) l 2 wr] => ⟨(s + n ≤ l.length ∧ n ≤ 9223372036854775807), .tup [.agg [.int .i64 0, .int .i64 0], .agg [.int .i64 0, .int .i64 0], .int .i64 1], [.arr (.prod (.int .i64) (.int .i64)) l 2 wr]⟩
  | _, _ => noSpec
theorem ok_enRN : SpecOk Try.prog 23 s_enRN := by
  intro args S h; unfold s_enRN at h ⊢; (split at h <;> first | exact False.elim h | skip)
  dsimp only at h ⊢
  refine funW tabOk (E := [(52, s_shRN)]) ⟨ok_shRN, trivial⟩ [(4, [(2, 1), (2, 2), (5, 1), (14, 0), (14, 1), (14, 2)]), (7, [(2, 1)])] (k := 1) (fn := Try.f23) rfl rfl rfl rfl rfl rfl ?_
  (repeat' ((try (conv => whnf)); first | (with_reducible first | refine And.intro ?_ ?_ | refine WX.of ?_) | exact zc | ((with_reducible refine VC.mk ?_); exact zw) | ((with_reducible refine VC.mk ?_); exact h) | (with_reducible first | refine splitT ?_ | refine splitF ?_) | ((with_reducible refine splitM.mk (fun hsm => ?_) (fun hsm => ?_)) <;> (try exact zx)) | ((with_reducible refine splitB.mk (fun h => ?_) (fun h => ?_)) <;> (try simp only [zs, ne_eq] at h) <;> (try simp (disch := omega) only [w64] at h) <;> (try exact zx)) | (with_reducible intro hz; (try exact absurd hz (Nat.succ_ne_zero _)))))
theorem ok_rdRN : SpecOk Try.prog 9 s_enRN := by
  intro args S h; unfold s_enRN at h ⊢; (split at h <;> first | exact False.elim h | skip)
  dsimp only at h ⊢
  refine funW tabOk (E := [(23, s_enRN)]) ⟨ok_enRN, trivial⟩ [(6, [(1, 1), (4, 0), (4, 1)]), (24, [(5, 1)])] (k := 1) (fn := Try.f9) rfl rfl rfl rfl rfl rfl ?_
  (repeat' ((try (conv => whnf)); first | (with_reducible first | refine And.intro ?_ ?_ | refine WX.of ?_) | exact zc | ((with_reducible refine VC.mk ?_); exact zw) | ((with_reducible refine VC.mk ?_); exact h) | (with_reducible first | refine splitT ?_ | refine splitF ?_) | ((with_reducible refine splitM.mk (fun hsm => ?_) (fun hsm => ?_)) <;> (try exact zx)) | ((with_reducible refine splitB.mk (fun h => ?_) (fun h => ?_)) <;> (try simp only [zs, ne_eq] at h) <;> (try simp (disch := omega) only [w64] at h) <;> (try exact zx)) | (with_reducible intro hz; (try exact absurd hz (Nat.succ_ne_zero _)))))
def s_trRN : Spec := fun args S => match args, S with
  | [.agg [.int .i64 up, .int .i64 uq, .sl 0 s n x, .int .i64 vp, .bool vb, .int .i64 gp, .int .i64 gq, .nils], .agg [.int .i64 i, .int .i64 wp, .int .i64 wq, .int .i64 sp, .int .i64 sq]], [.arr (.prod (.int .i64) (.int .i64)) l 2 wr] => ⟨(s + n ≤ l.length ∧ n ≤ 9223372036854775807), .tup [.agg [.int .i64 0, .int .i64 0, .int .i64 0, .int .i64 0, .int .i64 0, .int .i64 0, .int .i64 0, .int .i64 0, .int .i64 0, .int .i64 0, .int .i64 0, .int .i64 0, .int .i64 0, .int .i64 0, .int .i64 0], .int .i64 1], [.arr (.prod (.int .i64) (.int .i64)) l 2 wr]⟩
  | _, _ => noSpec
theorem ok_trRNI : SpecOk Try.prog 12 s_trRN := by
  intro args S h; unfold s_trRN at h ⊢; (split at h <;> first | exact False.elim h | skip)
  dsimp only at h ⊢
  refine funW tabOk (E := [(9, s_enRN)]) ⟨ok_rdRN, trivial⟩ [] (k := 1) (fn := Try.f12) rfl rfl rfl rfl rfl rfl ?_
  (repeat' ((try (conv => whnf)); first | (with_reducible first | refine And.intro ?_ ?_ | refine WX.of ?_) | exact zc | ((with_reducible refine VC.mk ?_); exact zw) | ((with_reducible refine VC.mk ?_); exact h) | (with_reducible first | refine splitT ?_ | refine splitF ?_) | ((with_reducible refine splitM.mk (fun hsm => ?_) (fun hsm => ?_)) <;> (try exact zx)) | ((with_reducible refine splitB.mk (fun h => ?_) (fun h => ?_)) <;> (try simp only [zs, ne_eq] at h) <;> (try simp (disch := omega) only [w64] at h) <;> (try exact zx)) | (with_reducible intro hz; (try exact absurd hz (Nat.succ_ne_zero _)))))
def s_loRN : Spec := fun args S => match args, S with
  | [.ptr 0 0 0], [.box [.int .i64 up, .int .i64 uq, .sl 1 s n x, .int .i64 vp, .bool vb, .int .i64 gp, .int .i64 gq, .nils] true false, .arr (.prod (.int .i64) (.int .i64)) l 2 wr] => ⟨(s + n ≤ l.length ∧ n ≤ 9223372036854775807), .bool (scB up uq (seg l s n)), [.box [.int .i64 up, .int .i64 uq, .sl 1 s n x, .int .i64 vp, .bool vb, .int .i64 gp, .int .i64 gq, .nils] true false, .arr (.prod (.int .i64) (.int .i64)) l 2 wr]⟩
  | _, _ => noSpec
def s_mkRN : Spec := fun args S => match args, S with
  | [.ptr 0 0 0, .int .i64 k], [.box [.int .i64 up, .int .i64 uq, .sl 1 s n x, .int .i64 vp, .bool vb, .int .i64 gp, .int .i64 gq, .nils] true false, .arr (.prod (.int .i64) (.int .i64)) l 2 wr] => ⟨(s + n ≤ l.length ∧ n ≤ 1048576) ∧ (0 ≤ k ∧ k < n ∧ n ≤ 60) ∧ smF up uq ∧ ∀ a, (seg l s n)[k.toNat]? = some a → smF a.1 a.2, .tup [.agg [.int .i64 (mkP up uq k (((seg l s n)[k.toNat]?).getD (0, 0))), .int .i64 (mkQ up uq k (((seg l s n)[k.toNat]?).getD (0, 0)))], .int .i64 (mkC up uq k (((seg l s n)[k.toNat]?).getD (0, 0)))], [.box [.int .i64 up, .int .i64 uq, .sl 1 s n x, .int .i64 vp, .bool vb, .int .i64 gp, .int .i64 gq, .nils] true false, .arr (.prod (.int .i64) (.int .i64)) l 2 wr]⟩
  | _, _ => noSpec
theorem ok_mkRN : SpecOk Try.prog 104 s_mkRN := by
  intro args S h; unfold s_mkRN at h ⊢; (split at h <;> first | exact False.elim h | skip)
  dsimp only at h ⊢
  rename_i k up uq s n x vp vb gp gq l wr
  obtain ⟨⟨h1, h2⟩, ⟨h3, h4, h5⟩, h6, h7⟩ := h
  have hL := seg_len h1
  obtain ⟨⟨p, q⟩, ha⟩ := get_some (l := seg l s n) (i := k.toNat) (by omega)
  have hs := h7 _ ha
  dsimp only at hs
  have e : ((seg l s n)[k.toNat]?).getD (0, 0) = (p, q) := by rw [ha]; rfl
  rw [e]
  have hk : smF k 1 := smF_1 (by omega)
  have hr : redOk (k * up) (1 * uq) = true → smF (rdP (k * up) (1 * uq)) (rdQ (k * up) (1 * uq)) := fun h => by
    unfold rdP rdQ; rw [if_pos h, if_pos h]; exact smF_ok h
  have hkk : ((k.toNat : Nat) : Int) = k := Int.toNat_of_nonneg h3
  refine funW tabOk (E := [(46, s_num), (81, s_mulS), (82, s_addS)]) ⟨ok_l01Whole, ok_l01Mul, ok_l01Add, trivial⟩ [(1, [(5, 0), (10, 0), (10, 1)])] (k := 2) (fn := Try.f104) rfl rfl rfl rfl rfl rfl ?_
  (repeat' ((try (conv => whnf)); first | (with_reducible first | refine And.intro ?_ ?_ | refine WX.of ?_) | exact zc | ((with_reducible refine VC.mk ?_); exact zw) | ((with_reducible refine VC.mk ?_); exact ⟨hk, h6⟩) | (with_reducible first | refine splitT ?_ | refine splitF ?_) | ((with_reducible refine splitM.mk (fun hsm => ?_) (fun hsm => ?_)) <;> (try exact zx)) | ((with_reducible refine splitB.mk (fun h => ?_) (fun h => ?_)) <;> (try simp only [zs, ne_eq] at h) <;> (try simp (disch := omega) only [w64] at h) <;> (try exact zx)) | (with_reducible intro hz; (try exact absurd hz (Nat.succ_ne_zero _)))))
  · have hb : redOk (k * up) (1 * uq) = false := by
      unfold rdC at h; cases hb : redOk (k * up) (1 * uq) <;> simp_all
    exact ⟨by simp only [mkP, mkQ, mkC, rdC, hb, if_false, Bool.false_eq_true]⟩
  · have hb : redOk (k * up) (1 * uq) = true := by
      unfold rdC at h; cases hb : redOk (k * up) (1 * uq) <;> simp_all
    (repeat' ((try (conv => whnf)); first | (with_reducible first | refine And.intro ?_ ?_ | refine WX.of ?_) | exact zc | ((with_reducible refine VC.mk ?_); exact zw) | with_reducible refine atL_p (seg_get ha).1 ?_ | ((with_reducible refine VC.mk ?_); exact ⟨hr hb, hs⟩) | (with_reducible first | refine splitT ?_ | refine splitF ?_) | ((with_reducible refine splitM.mk (fun hsm => ?_) (fun hsm => ?_)) <;> (try exact zx)) | ((with_reducible refine splitB.mk (fun h => ?_) (fun h => ?_)) <;> (try simp only [zs, ne_eq] at h) <;> (try simp (disch := omega) only [w64] at h) <;> (try exact zx)) | (with_reducible intro hz; (try exact absurd hz (Nat.succ_ne_zero _)))))
    all_goals exact ⟨by simp only [mkP, mkQ, mkC, hb, if_true]⟩
def s_lqRN : Spec := fun args S => match args, S with
  | [.ptr 0 0 0], [.box [.int .i64 up, .int .i64 uq, .sl 1 s n x, .int .i64 vp, .bool vb, .int .i64 gp, .int .i64 gq, .nils] true false, .arr (.prod (.int .i64) (.int .i64)) l 2 wr] => ⟨s + n ≤ l.length ∧ n ≤ 1048576, .bool (scB up uq (seg l s n)), [.box [.int .i64 up, .int .i64 uq, .sl 1 s n x, .int .i64 vp, .bool vb, .int .i64 gp, .int .i64 gq, .nils] true false, .arr (.prod (.int .i64) (.int .i64)) l 2 wr]⟩
  | _, _ => noSpec
theorem ok_lqRN : SpecOk Try.prog 73 s_lqRN := by
  intro args S h; unfold s_lqRN at h ⊢; (split at h <;> first | exact False.elim h | skip)
  dsimp only at h ⊢
  rename_i up uq s n x vp vb gp gq l wr
  obtain ⟨h1, h2⟩ := h
  have hL := seg_len h1
  refine funW tabOk (E := [(77, s_wi), (78, s_within), (79, s_fOk), (80, s_abs), (104, s_mkRN)]) ⟨ok_l02Within, ok_l00In, ok_l01Ok, ok_l01Abs, ok_mkRN, trivial⟩ [(7, [(12, 1), (18, 1), (20, 1)])] (k := 2) (fn := Try.f73) rfl rfl rfl rfl rfl rfl ?_
  (repeat' ((try (conv => whnf)); first | (with_reducible first | refine And.intro ?_ ?_ | refine WX.of ?_) | exact zc | ((with_reducible refine VC.mk ?_); exact zw) | (with_reducible first | refine splitT ?_ | refine splitF ?_) | ((with_reducible refine splitM.mk (fun hsm => ?_) (fun hsm => ?_)) <;> (try exact zx)) | ((with_reducible refine splitB.mk (fun h => ?_) (fun h => ?_)) <;> (try simp only [zs, ne_eq] at h) <;> (try simp (disch := omega) only [w64] at h) <;> (try exact zx)) | (with_reducible intro hz; (try exact absurd hz (Nat.succ_ne_zero _)))))
  · exact ⟨congrArg SV.bool (by unfold wiB at h; unfold scB; rw [← Bool.and_assoc (fOk up uq), h, Bool.false_and, Bool.false_and])⟩
  · rename_i hw
    exact ⟨congrArg SV.bool (by unfold scB; rw [hL, show decide (2 ≤ n ∧ n ≤ 60) = false from decide_eq_false (by omega), Bool.and_false, Bool.false_and])⟩
  · rename_i hw
    have hn := h
    have hw2 : fOk up uq = true ∧ 0 < up ∧ up ≤ 1000 * uq := by simpa [wiB, and_assoc] using hw
    have hsU := smF_ok hw2.1
    have hU := hsU
    unfold smF at hU
    refine loopW tabOk (E := [(77, s_wi), (78, s_within), (79, s_fOk), (80, s_abs), (104, s_mkRN)]) ⟨ok_l02Within, ok_l00In, ok_l01Ok, ok_l01Abs, ok_mkRN, trivial⟩ [(7, [(12, 1), (18, 1), (20, 1)])] (σ := Nat) (fun i => [(0, .ptr 0 0 0), (3, .int .i64 i)]) (fun i => [.box [.int .i64 up, .int .i64 uq, .sl 1 s n x, .int .i64 vp, .bool vb, .int .i64 gp, .int .i64 gq, .nils] true false, .arr (.prod (.int .i64) (.int .i64)) l 2 wr]) (fun i => n - i) (fun i => i ≤ n ∧ ∀ (j : Nat) (a : Int × Int), j < i → (seg l s n)[j]? = some a → elB up uq j a = true) 0 ⟨Nat.zero_le _, fun j a hj => by omega⟩ ?_ ?_
    · (repeat' ((try (conv => whnf)); first | (with_reducible first | refine And.intro ?_ ?_ | refine WX.of ?_) | exact zc | ((with_reducible refine VC.mk ?_); exact zw) | (with_reducible first | refine splitT ?_ | refine splitF ?_) | ((with_reducible refine splitM.mk (fun hsm => ?_) (fun hsm => ?_)) <;> (try exact zx)) | ((with_reducible refine splitB.mk (fun h => ?_) (fun h => ?_)) <;> (try simp only [zs, ne_eq] at h) <;> (try simp (disch := omega) only [w64] at h) <;> (try exact zx)) | (with_reducible intro hz; (try exact absurd hz (Nat.succ_ne_zero _)))))
    · intro i ⟨hi, hp⟩
      by_cases hlt : i < n
      · obtain ⟨⟨p, q⟩, ha⟩ := get_some (l := seg l s n) (i := i) (by omega)
        have e : ((seg l s n)[((i : Nat) : Int).toNat]?).getD (0, 0) = (p, q) := by rw [Int.toNat_natCast, ha]; rfl
        by_cases hf : fOk p q = true
        · have hsf := smF_ok hf
          have hsb := hsf
          unfold smF at hsb
          have hq4 := quad hsU hsf
          have hall : ∀ a, (seg l s n)[((i : Nat) : Int).toNat]? = some a → smF a.1 a.2 := fun a h => by
            rw [Int.toNat_natCast, ha] at h; obtain rfl := Option.some.inj h; exact hsf
          (repeat' ((try (conv => whnf)); first | (with_reducible first | refine And.intro ?_ ?_ | refine WX.of ?_) | exact zc | ((with_reducible refine VC.mk ?_); exact zw) | with_reducible refine atL_i ha ?_ | ((with_reducible refine splitT_of ?_ ?_); (focus (simp only [hf, Bool.not_true, Bool.not_false, decide_true, decide_false]; done))) | ((with_reducible refine splitF_of ?_ ?_); (focus (simp only [hf, Bool.not_true, Bool.not_false, decide_true, decide_false]; done))) | ((with_reducible refine VC.mk ?_); (refine ⟨⟨h1, h2⟩, ?_, hsU, hall⟩); omega) | (with_reducible first | refine splitT ?_ | refine splitF ?_) | ((with_reducible refine splitM.mk (fun hsm => ?_) (fun hsm => ?_)) <;> (try exact zx)) | ((with_reducible refine splitB.mk (fun h => ?_) (fun h => ?_)) <;> (try simp only [zs, ne_eq] at h) <;> (try simp (disch := omega) only [w64] at h) <;> (try exact zx)) | (with_reducible intro hz; (try exact absurd hz (Nat.succ_ne_zero _)))))
          · exact ⟨congrArg SV.bool (by rw [sc_no ha (by unfold elB; dsimp only; rw [show decide (4 * (p.natAbs : Int) * uq ≤ up * q) = false from decide_eq_false (by omega), Bool.and_false, Bool.false_and])])⟩
          · rw [e] at h
            have hm : mkOk up uq i (p, q) = false := by
              cases hm : mkOk up uq i (p, q) with
              | false => rfl
              | true => exact absurd (mkC_ok.2 hm) h
            exact ⟨congrArg SV.bool (by rw [sc_no ha (by unfold elB; rw [hm, Bool.and_false])])⟩
          · rw [e] at h
            have hm := mkC_ok.1 h
            have hd : decide (4 * (p.natAbs : Int) * uq ≤ up * q) = true := decide_eq_true (by omega)
            have hel : elB up uq i (p, q) = true := by unfold elB; rw [hm]; dsimp only; rw [hf, hd]; rfl
            refine ⟨i + 1, by omega, ⟨hlt, upto_step2 ha hel hp⟩, ?_⟩
            (repeat' ((try (conv => whnf)); first | (with_reducible first | refine And.intro ?_ ?_ | refine WX.of ?_) | exact zc | ((with_reducible refine VC.mk ?_); exact zw) | (with_reducible first | refine splitT ?_ | refine splitF ?_) | ((with_reducible refine splitM.mk (fun hsm => ?_) (fun hsm => ?_)) <;> (try exact zx)) | ((with_reducible refine splitB.mk (fun h => ?_) (fun h => ?_)) <;> (try simp only [zs, ne_eq] at h) <;> (try simp (disch := omega) only [w64] at h) <;> (try exact zx)) | (with_reducible intro hz; (try exact absurd hz (Nat.succ_ne_zero _)))))
        · have hf : fOk p q = false := by simpa using hf
          (repeat' ((try (conv => whnf)); first | (with_reducible first | refine And.intro ?_ ?_ | refine WX.of ?_) | exact zc | ((with_reducible refine VC.mk ?_); exact zw) | with_reducible refine atL_i ha ?_ | ((with_reducible refine splitT_of ?_ ?_); (focus (simp only [hf, Bool.not_true, Bool.not_false, decide_true, decide_false]; done))) | ((with_reducible refine splitF_of ?_ ?_); (focus (simp only [hf, Bool.not_true, Bool.not_false, decide_true, decide_false]; done))) | (with_reducible first | refine splitT ?_ | refine splitF ?_) | ((with_reducible refine splitM.mk (fun hsm => ?_) (fun hsm => ?_)) <;> (try exact zx)) | ((with_reducible refine splitB.mk (fun h => ?_) (fun h => ?_)) <;> (try simp only [zs, ne_eq] at h) <;> (try simp (disch := omega) only [w64] at h) <;> (try exact zx)) | (with_reducible intro hz; (try exact absurd hz (Nat.succ_ne_zero _)))))
          all_goals exact ⟨congrArg SV.bool (by rw [sc_no ha (by unfold elB; dsimp only; rw [hf, Bool.false_and, Bool.false_and])])⟩
      · obtain rfl : i = n := by omega
        (repeat' ((try (conv => whnf)); first | (with_reducible first | refine And.intro ?_ ?_ | refine WX.of ?_) | exact zc | ((with_reducible refine VC.mk ?_); exact zw) | (with_reducible first | refine splitT ?_ | refine splitF ?_) | ((with_reducible refine splitM.mk (fun hsm => ?_) (fun hsm => ?_)) <;> (try exact zx)) | ((with_reducible refine splitB.mk (fun h => ?_) (fun h => ?_)) <;> (try simp only [zs, ne_eq] at h) <;> (try simp (disch := omega) only [w64] at h) <;> (try exact zx)) | (with_reducible intro hz; (try exact absurd hz (Nat.succ_ne_zero _)))))
        exact ⟨congrArg SV.bool (sc_yes hL hw2.1 hw2.2 (by omega) hp).symm⟩
theorem ok_loRN : SpecOk Try.prog 73 s_loRN := by
  intro args S h; unfold s_loRN at h ⊢; (split at h <;> first | exact False.elim h | skip)
  dsimp only at h ⊢
  rename_i up uq s n x vp vb gp gq l wr
  have hL := seg_len h.1
  by_cases hn : n ≤ 1048576
  · exact ok_lqRN [.ptr 0 0 0] [.box [.int .i64 up, .int .i64 uq, .sl 1 s n x, .int .i64 vp, .bool vb, .int .i64 gp, .int .i64 gq, .nils] true false, .arr (.prod (.int .i64) (.int .i64)) l 2 wr] ⟨h.1, hn⟩
  · rw [sc_big (by omega)]
    refine funW tabOk (E := [(77, s_wi), (78, s_within)]) ⟨ok_l02Within, ok_l00In, trivial⟩ [(7, [(12, 1), (18, 1), (20, 1)])] (k := 2) (fn := Try.f73) rfl rfl rfl rfl rfl rfl ?_
    (repeat' ((try (conv => whnf)); first | (with_reducible first | refine And.intro ?_ ?_ | refine WX.of ?_) | exact zc | ((with_reducible refine VC.mk ?_); exact zw) | (with_reducible first | refine splitT ?_ | refine splitF ?_) | ((with_reducible refine splitM.mk (fun hsm => ?_) (fun hsm => ?_)) <;> (try exact zx)) | ((with_reducible refine splitB.mk (fun h => ?_) (fun h => ?_)) <;> (try simp only [zs, ne_eq] at h) <;> (try simp (disch := omega) only [w64] at h) <;> (try exact zx)) | (with_reducible intro hz; (try exact absurd hz (Nat.succ_ne_zero _)))))
def s_lvRN : Spec := fun args S => match args, S with
  | [.ptr 0 0 3], [.box [.int .i64 up, .int .i64 uq, .sl 1 s n x, .int .i64 vp, .bool vb, .int .i64 gp, .int .i64 gq, .nils] true false, .arr (.prod (.int .i64) (.int .i64)) l 2 wr] => ⟨True, .bool (decide (2 ≤ vp ∧ vp ≤ 40)), [.box [.int .i64 up, .int .i64 uq, .sl 1 s n x, .int .i64 vp, .bool vb, .int .i64 gp, .int .i64 gq, .nils] true false, .arr (.prod (.int .i64) (.int .i64)) l 2 wr]⟩
  | _, _ => noSpec
theorem ok_lvRN : SpecOk Try.prog 74 s_lvRN := by
  intro args S h; unfold s_lvRN at h ⊢; (split at h <;> first | exact False.elim h | skip)
  dsimp only at h ⊢
  refine funW tabOk (E := [(78, s_within)]) ⟨ok_l00In, trivial⟩ [] (k := 2) (fn := Try.f74) rfl rfl rfl rfl rfl rfl ?_
  (repeat' ((try (conv => whnf)); first | (with_reducible first | refine And.intro ?_ ?_ | refine WX.of ?_) | exact zc | ((with_reducible refine VC.mk ?_); exact zw) | (with_reducible first | refine splitT ?_ | refine splitF ?_) | ((with_reducible refine splitM.mk (fun hsm => ?_) (fun hsm => ?_)) <;> (try exact zx)) | ((with_reducible refine splitB.mk (fun h => ?_) (fun h => ?_)) <;> (try simp only [zs, ne_eq] at h) <;> (try simp (disch := omega) only [w64] at h) <;> (try exact zx)) | (with_reducible intro hz; (try exact absurd hz (Nat.succ_ne_zero _)))))
def s_l7RN : Spec := fun args S => match args, S with
  | [.ptr 0 0 0], [.box [.int .i64 up, .int .i64 uq, .sl 1 s n x, .int .i64 vp, .bool vb, .int .i64 gp, .int .i64 gq, .nils] true false, .arr (.prod (.int .i64) (.int .i64)) l 2 wr] => ⟨(s + n ≤ l.length ∧ n ≤ 9223372036854775807), .bool (bnB up uq vp gp gq (seg l s n) []), [.box [.int .i64 up, .int .i64 uq, .sl 1 s n x, .int .i64 vp, .bool vb, .int .i64 gp, .int .i64 gq, .nils] true false, .arr (.prod (.int .i64) (.int .i64)) l 2 wr]⟩
  | _, _ => noSpec
theorem ok_l7RN : SpecOk Try.prog 41 s_l7RN := by
  intro args S h; unfold s_l7RN at h ⊢; (split at h <;> first | exact False.elim h | skip)
  dsimp only at h ⊢
  refine funW tabOk (E := [(73, s_loRN), (74, s_lvRN), (75, s_gw)]) ⟨ok_loRN, ok_lvRN, ok_l07Grows, trivial⟩ [] (k := 2) (fn := Try.f41) rfl rfl rfl rfl rfl rfl ?_
  (repeat' ((try (conv => whnf)); first | (with_reducible first | refine And.intro ?_ ?_ | refine WX.of ?_) | exact zc | ((with_reducible refine VC.mk ?_); exact zw) | ((with_reducible refine VC.mk ?_); exact h) | (with_reducible first | refine splitT ?_ | refine splitF ?_) | ((with_reducible refine splitM.mk (fun hsm => ?_) (fun hsm => ?_)) <;> (try exact zx)) | ((with_reducible refine splitB.mk (fun h => ?_) (fun h => ?_)) <;> (try simp only [zs, ne_eq] at h) <;> (try simp (disch := omega) only [w64] at h) <;> (try exact zx)) | (with_reducible intro hz; (try exact absurd hz (Nat.succ_ne_zero _)))))
  all_goals (first | (refine ⟨congrArg SV.bool ?_⟩; (first | (rw [bn_nil (by assumption) (by assumption) (by assumption)] <;> first | rfl | decide) | ((try simp only [bnB, allI_iff.2 (fun k a (ha : ([] : List ThT)[k]? = some a) => by simp at ha), *, Bool.and_true, Bool.true_and, Bool.false_and, Bool.and_false]); (try simp); done))) | skip)
  refine loop1 tabOk (E := [(73, s_loRN), (74, s_lvRN), (75, s_gw)]) ⟨ok_loRN, ok_lvRN, ok_l07Grows, trivial⟩ [] ?_
  (repeat' ((try (conv => whnf)); first | (with_reducible first | refine And.intro ?_ ?_ | refine WX.of ?_) | exact zc | ((with_reducible refine VC.mk ?_); exact zw) | (with_reducible first | refine splitT ?_ | refine splitF ?_) | ((with_reducible refine splitM.mk (fun hsm => ?_) (fun hsm => ?_)) <;> (try exact zx)) | ((with_reducible refine splitB.mk (fun h => ?_) (fun h => ?_)) <;> (try simp only [zs, ne_eq] at h) <;> (try simp (disch := omega) only [w64] at h) <;> (try exact zx)) | (with_reducible intro hz; (try exact absurd hz (Nat.succ_ne_zero _)))))
  all_goals (first | (refine ⟨congrArg SV.bool ?_⟩; (first | (rw [bn_nil (by assumption) (by assumption) (by assumption)] <;> first | rfl | decide) | ((try simp only [bnB, allI_iff.2 (fun k a (ha : ([] : List ThT)[k]? = some a) => by simp at ha), *, Bool.and_true, Bool.true_and, Bool.false_and, Bool.and_false]); (try simp); done))) | skip)
def s_lsRN : Spec := fun args S => match args, S with
  | [.ptr 0 0 0, .ptr 1 0 0], [.box [.int .i64 up, .int .i64 uq, .sl 2 s n x, .int .i64 vp, .bool vb, .int .i64 gp, .int .i64 gq, .nils] true false, .arr (.prod (.int .i64) (.prod (.prod (.int .i64) (.int .i64)) (.prod (.int .i64) (.int .i64)))) [c] 0 true, .arr (.prod (.int .i64) (.int .i64)) l 2 wr] => ⟨True, .bool false, [.box [.int .i64 up, .int .i64 uq, .sl 2 s n x, .int .i64 vp, .bool vb, .int .i64 gp, .int .i64 gq, .nils] true false, .arr (.prod (.int .i64) (.prod (.prod (.int .i64) (.int .i64)) (.prod (.int .i64) (.int .i64)))) [c] 0 true, .arr (.prod (.int .i64) (.int .i64)) l 2 wr]⟩
  | _, _ => noSpec
theorem ok_lsRN : SpecOk Try.prog 42 s_lsRN := by
  intro args S h; unfold s_lsRN at h ⊢; (split at h <;> first | exact False.elim h | skip)
  dsimp only at h ⊢
  refine funW tabOk (E := [(78, s_within)]) ⟨ok_l00In, trivial⟩ [(1, [(29, 2)])] (k := 3) (fn := Try.f42) rfl rfl rfl rfl rfl rfl ?_
  (repeat' ((try (conv => whnf)); first | (with_reducible first | refine And.intro ?_ ?_ | refine WX.of ?_) | exact zc | ((with_reducible refine VC.mk ?_); exact zw) | (with_reducible first | refine splitT ?_ | refine splitF ?_) | ((with_reducible refine splitM.mk (fun hsm => ?_) (fun hsm => ?_)) <;> (try exact zx)) | ((with_reducible refine splitB.mk (fun h => ?_) (fun h => ?_)) <;> (try simp only [zs, ne_eq] at h) <;> (try simp (disch := omega) only [w64] at h) <;> (try exact zx)) | (with_reducible intro hz; (try exact absurd hz (Nat.succ_ne_zero _)))))
  all_goals (exfalso; revert h; decide +revert)
theorem ok_shRNS : SpecOk Try.prog 17 s_shRN := by
  intro args S h; unfold s_shRN at h ⊢; (split at h <;> first | exact False.elim h | skip)
  dsimp only at h ⊢
  refine funW tabOk (E := [(41, s_l7RN), (42, s_lsRN)]) ⟨ok_l7RN, ok_lsRN, trivial⟩ [] (k := 1) (fn := Try.f17) rfl rfl rfl rfl rfl rfl ?_
  (repeat' ((try (conv => whnf)); first | (with_reducible first | refine And.intro ?_ ?_ | refine WX.of ?_) | exact zc | ((with_reducible refine VC.mk ?_); exact zw) | ((with_reducible refine VC.mk ?_); exact h) | (with_reducible first | refine splitT ?_ | refine splitF ?_) | ((with_reducible refine splitM.mk (fun hsm => ?_) (fun hsm => ?_)) <;> (try exact zx)) | ((with_reducible refine splitB.mk (fun h => ?_) (fun h => ?_)) <;> (try simp only [zs, ne_eq] at h) <;> (try simp (disch := omega) only [w64] at h) <;> (try exact zx)) | (with_reducible intro hz; (try exact absurd hz (Nat.succ_ne_zero _)))))
theorem ok_trRNS : SpecOk Try.prog 13 s_trRN := by
  intro args S h; unfold s_trRN at h ⊢; (split at h <;> first | exact False.elim h | skip)
  dsimp only at h ⊢
  refine funW tabOk (E := [(17, s_shRN)]) ⟨ok_shRNS, trivial⟩ [] (k := 1) (fn := Try.f13) rfl rfl rfl rfl rfl rfl ?_
  (repeat' ((try (conv => whnf)); first | (with_reducible first | refine And.intro ?_ ?_ | refine WX.of ?_) | exact zc | ((with_reducible refine VC.mk ?_); exact zw) | ((with_reducible refine VC.mk ?_); exact h) | (with_reducible first | refine splitT ?_ | refine splitF ?_) | ((with_reducible refine splitM.mk (fun hsm => ?_) (fun hsm => ?_)) <;> (try exact zx)) | ((with_reducible refine splitB.mk (fun h => ?_) (fun h => ?_)) <;> (try simp only [zs, ne_eq] at h) <;> (try simp (disch := omega) only [w64] at h) <;> (try exact zx)) | (with_reducible intro hz; (try exact absurd hz (Nat.succ_ne_zero _)))))
def s_vbRG : Spec := fun args S => match args, S with
  | [.agg [.int .i64 up, .int .i64 uq, .sl 0 s n x, .int .i64 vp, .bool vb, .int .i64 gp, .int .i64 gq, .sl 1 0 0 0]], [.arr (.prod (.int .i64) (.int .i64)) l 2 wr, .gone] => ⟨(s + n ≤ l.length ∧ n ≤ 9223372036854775807), .bool (bnB up uq vp gp gq (seg l s n) []), [.arr (.prod (.int .i64) (.int .i64)) l 2 wr, .gone]⟩
  | _, _ => noSpec
set_option maxHeartbeats 1600000 in
theorem ok_vbRG : SpecOk Try.prog 88 s_vbRG := by
  intro args S h; unfold s_vbRG at h ⊢; (split at h <;> first | exact False.elim h | skip)
  dsimp only at h ⊢
  rename_i up uq s n x vp vb gp gq l wr
  refine funW tabOk (E := [(110, s_word), (111, (s_anyTh 112)), (37, s_fOk), (26, s_num), (38, s_cmp), (113, s_gw), (56, s_vScaleL), (114, s_ver)]) ⟨ok_isWord, ok_anyTh, ok_ValidFrac, ok_num, ok_compare, ok_isGrowth, ok_vScaleL, ok_ValidVernier, trivial⟩ [(6, [(12, 2)])] (k := 2) (fn := Try.f88) rfl rfl rfl rfl rfl rfl ?_
  (repeat' ((try (conv => whnf)); first | (with_reducible first | refine And.intro ?_ ?_ | refine WX.of ?_) | exact zc | ((with_reducible refine VC.mk ?_); exact zw) | (with_reducible first | refine splitT ?_ | refine splitF ?_) | ((with_reducible refine splitM.mk (fun hsm => ?_) (fun hsm => ?_)) <;> (try exact zx)) | ((with_reducible refine splitB.mk (fun h => ?_) (fun h => ?_)) <;> (try simp only [zs, ne_eq] at h) <;> (try simp (disch := omega) only [w64] at h) <;> (try exact zx)) | (with_reducible intro hz; (try exact absurd hz (Nat.succ_ne_zero _)))))
  refine loop1 tabOk (E := [(110, s_word), (111, (s_anyTh 112)), (37, s_fOk), (26, s_num), (38, s_cmp), (113, s_gw), (56, s_vScaleL), (114, s_ver)]) ⟨ok_isWord, ok_anyTh, ok_ValidFrac, ok_num, ok_compare, ok_isGrowth, ok_vScaleL, ok_ValidVernier, trivial⟩ [(6, [(12, 2)])] ?_
  (repeat' ((try (conv => whnf)); first | (with_reducible first | refine And.intro ?_ ?_ | refine WX.of ?_) | exact zc | ((with_reducible refine VC.mk ?_); exact zw) | ((with_reducible refine VC.mk ?_); exact h) | (with_reducible first | refine splitT ?_ | refine splitF ?_) | ((with_reducible refine splitM.mk (fun hsm => ?_) (fun hsm => ?_)) <;> (try exact zx)) | ((with_reducible refine splitB.mk (fun h => ?_) (fun h => ?_)) <;> (try simp only [zs, ne_eq] at h) <;> (try simp (disch := omega) only [w64] at h) <;> (try exact zx)) | (with_reducible intro hz; (try exact absurd hz (Nat.succ_ne_zero _)))))
  all_goals (first | (refine ⟨congrArg SV.bool ?_⟩; (first | (rw [bn_nil (by assumption) (by assumption) (by assumption)] <;> first | rfl | decide) | ((try simp only [bnB, allI_iff.2 (fun k a (ha : ([] : List ThT)[k]? = some a) => by simp at ha), *, Bool.and_true, Bool.true_and, Bool.false_and, Bool.and_false]); (try simp); done))) | skip)
def s_shRG : Spec := fun args S => match args, S with
  | [.agg [.int .i64 up, .int .i64 uq, .sl 0 s n x, .int .i64 vp, .bool vb, .int .i64 gp, .int .i64 gq, .sl 1 0 0 0], .agg [.int .i64 i, .int .i64 wp, .int .i64 wq, .int .i64 sp, .int .i64 sq]], [.arr (.prod (.int .i64) (.int .i64)) l 2 wr, .gone] => ⟨(s + n ≤ l.length ∧ n ≤ 9223372036854775807), .bool false, [.arr (.prod (.int .i64) (.int .i64)) l 2 wr, .gone]⟩
  | _, _ => noSpec
def s_itRG : Spec := fun args S => match args, S with
  | [.agg [.int .i64 up, .int .i64 uq, .sl 0 s n x, .int .i64 vp, .bool vb, .int .i64 gp, .int .i64 gq, .sl 1 0 0 0], .int .i64 i], [.arr (.prod (.int .i64) (.int .i64)) l 2 wr, .gone] => ⟨True, .bool false, [.arr (.prod (.int .i64) (.int .i64)) l 2 wr, .gone]⟩
  | _, _ => noSpec
theorem ok_itRG : SpecOk Try.prog 89 s_itRG := by
  intro args S h; unfold s_itRG at h ⊢; (split at h <;> first | exact False.elim h | skip)
  dsimp only at h ⊢
  refine funW tabOk (E := [(71, s_within)]) ⟨ok_within, trivial⟩ [] (k := 2) (fn := Try.f89) rfl rfl rfl rfl rfl rfl ?_
  (repeat' ((try (conv => whnf)); first | (with_reducible first | refine And.intro ?_ ?_ | refine WX.of ?_) | exact zc | ((with_reducible refine VC.mk ?_); exact zw) | (with_reducible first | refine splitT ?_ | refine splitF ?_) | ((with_reducible refine splitM.mk (fun hsm => ?_) (fun hsm => ?_)) <;> (try exact zx)) | ((with_reducible refine splitB.mk (fun h => ?_) (fun h => ?_)) <;> (try simp only [zs, ne_eq] at h) <;> (try simp (disch := omega) only [w64] at h) <;> (try exact zx)) | (with_reducible intro hz; (try exact absurd hz (Nat.succ_ne_zero _)))))
  all_goals (refine ⟨congrArg SV.bool ?_⟩; rw [decide_eq_false]; first | omega | (intro hh; rw [w64 (by omega)] at hh; omega))
theorem ok_shRG : SpecOk Try.prog 52 s_shRG := by
  intro args S h; unfold s_shRG at h ⊢; (split at h <;> first | exact False.elim h | skip)
  dsimp only at h ⊢
  refine funW tabOk (E := [(88, s_vbRG), (89, s_itRG)]) ⟨ok_vbRG, ok_itRG, trivial⟩ [] (k := 2) (fn := Try.f52) rfl rfl rfl rfl rfl rfl ?_
  (repeat' ((try (conv => whnf)); first | (with_reducible first | refine And.intro ?_ ?_ | refine WX.of ?_) | exact zc | ((with_reducible refine VC.mk ?_); exact zw) | ((with_reducible refine VC.mk ?_); exact h) | (with_reducible first | refine splitT ?_ | refine splitF ?_) | ((with_reducible refine splitM.mk (fun hsm => ?_) (fun hsm => ?_)) <;> (try exact zx)) | ((with_reducible refine splitB.mk (fun h => ?_) (fun h => ?_)) <;> (try simp only [zs, ne_eq] at h) <;> (try simp (disch := omega) only [w64] at h) <;> (try exact zx)) | (with_reducible intro hz; (try exact absurd hz (Nat.succ_ne_zero _)))))
def s_enRG : Spec := fun args S => match args, S with
  | [.agg [.int .i64 up, .int .i64 uq, .sl 0 s n x, .int .i64 vp, .bool vb, .int .i64 gp, .int .i64 gq, .sl 1 0 0 0], .agg [.int .i64 i, .int .i64 wp, .int .i64 wq, .int .i64 sp, .int .i64 sq]], [.arr (.prod (.int .i64) (.int .i64)) l 2 wr, .gone] => ⟨(s + n ≤ l.length ∧ n ≤ 9223372036854775807), .tup [.agg [.int .i64 0, .int .i64 0], .agg [.int .i64 0, .int .i64 0], .int .i64 1], [.arr (.prod (.int .i64) (.int .i64)) l 2 wr, .gone]⟩
  | _, _ => noSpec
theorem ok_enRG : SpecOk Try.prog 23 s_enRG := by
  intro args S h; unfold s_enRG at h ⊢; (split at h <;> first | exact False.elim h | skip)
  dsimp only at h ⊢
  refine funW tabOk (E := [(52, s_shRG)]) ⟨ok_shRG, trivial⟩ [(4, [(2, 1), (2, 2), (5, 1), (14, 0), (14, 1), (14, 2)]), (7, [(2, 1)])] (k := 2) (fn := Try.f23) rfl rfl rfl rfl rfl rfl ?_
  (repeat' ((try (conv => whnf)); first | (with_reducible first | refine And.intro ?_ ?_ | refine WX.of ?_) | exact zc | ((with_reducible refine VC.mk ?_); exact zw) | ((with_reducible refine VC.mk ?_); exact h) | (with_reducible first | refine splitT ?_ | refine splitF ?_) | ((with_reducible refine splitM.mk (fun hsm => ?_) (fun hsm => ?_)) <;> (try exact zx)) | ((with_reducible refine splitB.mk (fun h => ?_) (fun h => ?_)) <;> (try simp only [zs, ne_eq] at h) <;> (try simp (disch := omega) only [w64] at h) <;> (try exact zx)) | (with_reducible intro hz; (try exact absurd hz (Nat.succ_ne_zero _)))))
theorem ok_rdRG : SpecOk Try.prog 9 s_enRG := by
  intro args S h; unfold s_enRG at h ⊢; (split at h <;> first | exact False.elim h | skip)
  dsimp only at h ⊢
  refine funW tabOk (E := [(23, s_enRG)]) ⟨ok_enRG, trivial⟩ [(6, [(1, 1), (4, 0), (4, 1)]), (24, [(5, 1)])] (k := 2) (fn := Try.f9) rfl rfl rfl rfl rfl rfl ?_
  (repeat' ((try (conv => whnf)); first | (with_reducible first | refine And.intro ?_ ?_ | refine WX.of ?_) | exact zc | ((with_reducible refine VC.mk ?_); exact zw) | ((with_reducible refine VC.mk ?_); exact h) | (with_reducible first | refine splitT ?_ | refine splitF ?_) | ((with_reducible refine splitM.mk (fun hsm => ?_) (fun hsm => ?_)) <;> (try exact zx)) | ((with_reducible refine splitB.mk (fun h => ?_) (fun h => ?_)) <;> (try simp only [zs, ne_eq] at h) <;> (try simp (disch := omega) only [w64] at h) <;> (try exact zx)) | (with_reducible intro hz; (try exact absurd hz (Nat.succ_ne_zero _)))))
def s_trRG : Spec := fun args S => match args, S with
  | [.agg [.int .i64 up, .int .i64 uq, .sl 0 s n x, .int .i64 vp, .bool vb, .int .i64 gp, .int .i64 gq, .sl 1 0 0 0], .agg [.int .i64 i, .int .i64 wp, .int .i64 wq, .int .i64 sp, .int .i64 sq]], [.arr (.prod (.int .i64) (.int .i64)) l 2 wr, .gone] => ⟨(s + n ≤ l.length ∧ n ≤ 9223372036854775807), .tup [.agg [.int .i64 0, .int .i64 0, .int .i64 0, .int .i64 0, .int .i64 0, .int .i64 0, .int .i64 0, .int .i64 0, .int .i64 0, .int .i64 0, .int .i64 0, .int .i64 0, .int .i64 0, .int .i64 0, .int .i64 0], .int .i64 1], [.arr (.prod (.int .i64) (.int .i64)) l 2 wr, .gone]⟩
  | _, _ => noSpec
theorem ok_trRGI : SpecOk Try.prog 12 s_trRG := by
  intro args S h; unfold s_trRG at h ⊢; (split at h <;> first | exact False.elim h | skip)
  dsimp only at h ⊢
  refine funW tabOk (E := [(9, s_enRG)]) ⟨ok_rdRG, trivial⟩ [] (k := 2) (fn := Try.f12) rfl rfl rfl rfl rfl rfl ?_
  (repeat' ((try (conv => whnf)); first | (with_reducible first | refine And.intro ?_ ?_ | refine WX.of ?_) | exact zc | ((with_reducible refine VC.mk ?_); exact zw) | ((with_reducible refine VC.mk ?_); exact h) | (with_reducible first | refine splitT ?_ | refine splitF ?_) | ((with_reducible refine splitM.mk (fun hsm => ?_) (fun hsm => ?_)) <;> (try exact zx)) | ((with_reducible refine splitB.mk (fun h => ?_) (fun h => ?_)) <;> (try simp only [zs, ne_eq] at h) <;> (try simp (disch := omega) only [w64] at h) <;> (try exact zx)) | (with_reducible intro hz; (try exact absurd hz (Nat.succ_ne_zero _)))))
def s_loRG : Spec := fun args S => match args, S with
  | [.ptr 0 0 0], [.box [.int .i64 up, .int .i64 uq, .sl 1 s n x, .int .i64 vp, .bool vb, .int .i64 gp, .int .i64 gq, .sl 2 0 0 0] true false, .arr (.prod (.int .i64) (.int .i64)) l 2 wr, .gone] => ⟨(s + n ≤ l.length ∧ n ≤ 9223372036854775807), .bool (scB up uq (seg l s n)), [.box [.int .i64 up, .int .i64 uq, .sl 1 s n x, .int .i64 vp, .bool vb, .int .i64 gp, .int .i64 gq, .sl 2 0 0 0] true false, .arr (.prod (.int .i64) (.int .i64)) l 2 wr, .gone]⟩
  | _, _ => noSpec
def s_mkRG : Spec := fun args S => match args, S with
  | [.ptr 0 0 0, .int .i64 k], [.box [.int .i64 up, .int .i64 uq, .sl 1 s n x, .int .i64 vp, .bool vb, .int .i64 gp, .int .i64 gq, .sl 2 0 0 0] true false, .arr (.prod (.int .i64) (.int .i64)) l 2 wr, .gone] => ⟨(s + n ≤ l.length ∧ n ≤ 1048576) ∧ (0 ≤ k ∧ k < n ∧ n ≤ 60) ∧ smF up uq ∧ ∀ a, (seg l s n)[k.toNat]? = some a → smF a.1 a.2, .tup [.agg [.int .i64 (mkP up uq k (((seg l s n)[k.toNat]?).getD (0, 0))), .int .i64 (mkQ up uq k (((seg l s n)[k.toNat]?).getD (0, 0)))], .int .i64 (mkC up uq k (((seg l s n)[k.toNat]?).getD (0, 0)))], [.box [.int .i64 up, .int .i64 uq, .sl 1 s n x, .int .i64 vp, .bool vb, .int .i64 gp, .int .i64 gq, .sl 2 0 0 0] true false, .arr (.prod (.int .i64) (.int .i64)) l 2 wr, .gone]⟩
  | _, _ => noSpec
theorem ok_mkRG : SpecOk Try.prog 104 s_mkRG := by
  intro args S h; unfold s_mkRG at h ⊢; (split at h <;> first | exact False.elim h | skip)
  dsimp only at h ⊢
  rename_i k up uq s n x vp vb gp gq l wr
  obtain ⟨⟨h1, h2⟩, ⟨h3, h4, h5⟩, h6, h7⟩ := h
  have hL := seg_len h1
  obtain ⟨⟨p, q⟩, ha⟩ := get_some (l := seg l s n) (i := k.toNat) (by omega)
  have hs := h7 _ ha
  dsimp only at hs
  have e : ((seg l s n)[k.toNat]?).getD (0, 0) = (p, q) := by rw [ha]; rfl
  rw [e]
  have hk : smF k 1 := smF_1 (by omega)
  have hr : redOk (k * up) (1 * uq) = true → smF (rdP (k * up) (1 * uq)) (rdQ (k * up) (1 * uq)) := fun h => by
    unfold rdP rdQ; rw [if_pos h, if_pos h]; exact smF_ok h
  have hkk : ((k.toNat : Nat) : Int) = k := Int.toNat_of_nonneg h3
  refine funW tabOk (E := [(46, s_num), (81, s_mulS), (82, s_addS)]) ⟨ok_l01Whole, ok_l01Mul, ok_l01Add, trivial⟩ [(1, [(5, 0), (10, 0), (10, 1)])] (k := 3) (fn := Try.f104) rfl rfl rfl rfl rfl rfl ?_
  (repeat' ((try (conv => whnf)); first | (with_reducible first | refine And.intro ?_ ?_ | refine WX.of ?_) | exact zc | ((with_reducible refine VC.mk ?_); exact zw) | ((with_reducible refine VC.mk ?_); exact ⟨hk, h6⟩) | (with_reducible first | refine splitT ?_ | refine splitF ?_) | ((with_reducible refine splitM.mk (fun hsm => ?_) (fun hsm => ?_)) <;> (try exact zx)) | ((with_reducible refine splitB.mk (fun h => ?_) (fun h => ?_)) <;> (try simp only [zs, ne_eq] at h) <;> (try simp (disch := omega) only [w64] at h) <;> (try exact zx)) | (with_reducible intro hz; (try exact absurd hz (Nat.succ_ne_zero _)))))
  · have hb : redOk (k * up) (1 * uq) = false := by
      unfold rdC at h; cases hb : redOk (k * up) (1 * uq) <;> simp_all
    exact ⟨by simp only [mkP, mkQ, mkC, rdC, hb, if_false, Bool.false_eq_true]⟩
  · have hb : redOk (k * up) (1 * uq) = true := by
      unfold rdC at h; cases hb : redOk (k * up) (1 * uq) <;> simp_all
    (repeat' ((try (conv => whnf)); first | (with_reducible first | refine And.intro ?_ ?_ | refine WX.of ?_) | exact zc | ((with_reducible refine VC.mk ?_); exact zw) | with_reducible refine atL_p (seg_get ha).1 ?_ | ((with_reducible refine VC.mk ?_); exact ⟨hr hb, hs⟩) | (with_reducible first | refine splitT ?_ | refine splitF ?_) | ((with_reducible refine splitM.mk (fun hsm => ?_) (fun hsm => ?_)) <;> (try exact zx)) | ((with_reducible refine splitB.mk (fun h => ?_) (fun h => ?_)) <;> (try simp only [zs, ne_eq] at h) <;> (try simp (disch := omega) only [w64] at h) <;> (try exact zx)) | (with_reducible intro hz; (try exact absurd hz (Nat.succ_ne_zero _)))))
    all_goals exact ⟨by simp only [mkP, mkQ, mkC, hb, if_true]⟩
def s_lqRG : Spec := fun args S => match args, S with
  | [.ptr 0 0 0], [.box [.int .i64 up, .int .i64 uq, .sl 1 s n x, .int .i64 vp, .bool vb, .int .i64 gp, .int .i64 gq, .sl 2 0 0 0] true false, .arr (.prod (.int .i64) (.int .i64)) l 2 wr, .gone] => ⟨s + n ≤ l.length ∧ n ≤ 1048576, .bool (scB up uq (seg l s n)), [.box [.int .i64 up, .int .i64 uq, .sl 1 s n x, .int .i64 vp, .bool vb, .int .i64 gp, .int .i64 gq, .sl 2 0 0 0] true false, .arr (.prod (.int .i64) (.int .i64)) l 2 wr, .gone]⟩
  | _, _ => noSpec
theorem ok_lqRG : SpecOk Try.prog 73 s_lqRG := by
  intro args S h; unfold s_lqRG at h ⊢; (split at h <;> first | exact False.elim h | skip)
  dsimp only at h ⊢
  rename_i up uq s n x vp vb gp gq l wr
  obtain ⟨h1, h2⟩ := h
  have hL := seg_len h1
  refine funW tabOk (E := [(77, s_wi), (78, s_within), (79, s_fOk), (80, s_abs), (104, s_mkRG)]) ⟨ok_l02Within, ok_l00In, ok_l01Ok, ok_l01Abs, ok_mkRG, trivial⟩ [(7, [(12, 1), (18, 1), (20, 1)])] (k := 3) (fn := Try.f73) rfl rfl rfl rfl rfl rfl ?_
  (repeat' ((try (conv => whnf)); first | (with_reducible first | refine And.intro ?_ ?_ | refine WX.of ?_) | exact zc | ((with_reducible refine VC.mk ?_); exact zw) | (with_reducible first | refine splitT ?_ | refine splitF ?_) | ((with_reducible refine splitM.mk (fun hsm => ?_) (fun hsm => ?_)) <;> (try exact zx)) | ((with_reducible refine splitB.mk (fun h => ?_) (fun h => ?_)) <;> (try simp only [zs, ne_eq] at h) <;> (try simp (disch := omega) only [w64] at h) <;> (try exact zx)) | (with_reducible intro hz; (try exact absurd hz (Nat.succ_ne_zero _)))))
  · exact ⟨congrArg SV.bool (by unfold wiB at h; unfold scB; rw [← Bool.and_assoc (fOk up uq), h, Bool.false_and, Bool.false_and])⟩
  · rename_i hw
    exact ⟨congrArg SV.bool (by unfold scB; rw [hL, show decide (2 ≤ n ∧ n ≤ 60) = false from decide_eq_false (by omega), Bool.and_false, Bool.false_and])⟩
  · rename_i hw
    have hn := h
    have hw2 : fOk up uq = true ∧ 0 < up ∧ up ≤ 1000 * uq := by simpa [wiB, and_assoc] using hw
    have hsU := smF_ok hw2.1
    have hU := hsU
    unfold smF at hU
    refine loopW tabOk (E := [(77, s_wi), (78, s_within), (79, s_fOk), (80, s_abs), (104, s_mkRG)]) ⟨ok_l02Within, ok_l00In, ok_l01Ok, ok_l01Abs, ok_mkRG, trivial⟩ [(7, [(12, 1), (18, 1), (20, 1)])] (σ := Nat) (fun i => [(0, .ptr 0 0 0), (3, .int .i64 i)]) (fun i => [.box [.int .i64 up, .int .i64 uq, .sl 1 s n x, .int .i64 vp, .bool vb, .int .i64 gp, .int .i64 gq, .sl 2 0 0 0] true false, .arr (.prod (.int .i64) (.int .i64)) l 2 wr, .gone]) (fun i => n - i) (fun i => i ≤ n ∧ ∀ (j : Nat) (a : Int × Int), j < i → (seg l s n)[j]? = some a → elB up uq j a = true) 0 ⟨Nat.zero_le _, fun j a hj => by omega⟩ ?_ ?_
    · (repeat' ((try (conv => whnf)); first | (with_reducible first | refine And.intro ?_ ?_ | refine WX.of ?_) | exact zc | ((with_reducible refine VC.mk ?_); exact zw) | (with_reducible first | refine splitT ?_ | refine splitF ?_) | ((with_reducible refine splitM.mk (fun hsm => ?_) (fun hsm => ?_)) <;> (try exact zx)) | ((with_reducible refine splitB.mk (fun h => ?_) (fun h => ?_)) <;> (try simp only [zs, ne_eq] at h) <;> (try simp (disch := omega) only [w64] at h) <;> (try exact zx)) | (with_reducible intro hz; (try exact absurd hz (Nat.succ_ne_zero _)))))
    · intro i ⟨hi, hp⟩
      by_cases hlt : i < n
      · obtain ⟨⟨p, q⟩, ha⟩ := get_some (l := seg l s n) (i := i) (by omega)
        have e : ((seg l s n)[((i : Nat) : Int).toNat]?).getD (0, 0) = (p, q) := by rw [Int.toNat_natCast, ha]; rfl
        by_cases hf : fOk p q = true
        · have hsf := smF_ok hf
          have hsb := hsf
          unfold smF at hsb
          have hq4 := quad hsU hsf
          have hall : ∀ a, (seg l s n)[((i : Nat) : Int).toNat]? = some a → smF a.1 a.2 := fun a h => by
            rw [Int.toNat_natCast, ha] at h; obtain rfl := Option.some.inj h; exact hsf
          (repeat' ((try (conv => whnf)); first | (with_reducible first | refine And.intro ?_ ?_ | refine WX.of ?_) | exact zc | ((with_reducible refine VC.mk ?_); exact zw) | with_reducible refine atL_i ha ?_ | ((with_reducible refine splitT_of ?_ ?_); (focus (simp only [hf, Bool.not_true, Bool.not_false, decide_true, decide_false]; done))) | ((with_reducible refine splitF_of ?_ ?_); (focus (simp only [hf, Bool.not_true, Bool.not_false, decide_true, decide_false]; done))) | ((with_reducible refine VC.mk ?_); (refine ⟨⟨h1, h2⟩, ?_, hsU, hall⟩); omega) | (with_reducible first | refine splitT ?_ | refine splitF ?_) | ((with_reducible refine splitM.mk (fun hsm => ?_) (fun hsm => ?_)) <;> (try exact zx)) | ((with_reducible refine splitB.mk (fun h => ?_) (fun h => ?_)) <;> (try simp only [zs, ne_eq] at h) <;> (try simp (disch := omega) only [w64] at h) <;> (try exact zx)) | (with_reducible intro hz; (try exact absurd hz (Nat.succ_ne_zero _)))))
          · exact ⟨congrArg SV.bool (by rw [sc_no ha (by unfold elB; dsimp only; rw [show decide (4 * (p.natAbs : Int) * uq ≤ up * q) = false from decide_eq_false (by omega), Bool.and_false, Bool.false_and])])⟩
          · rw [e] at h
            have hm : mkOk up uq i (p, q) = false := by
              cases hm : mkOk up uq i (p, q) with
              | false => rfl
              | true => exact absurd (mkC_ok.2 hm) h
            exact ⟨congrArg SV.bool (by rw [sc_no ha (by unfold elB; rw [hm, Bool.and_false])])⟩
          · rw [e] at h
            have hm := mkC_ok.1 h
            have hd : decide (4 * (p.natAbs : Int) * uq ≤ up * q) = true := decide_eq_true (by omega)
            have hel : elB up uq i (p, q) = true := by unfold elB; rw [hm]; dsimp only; rw [hf, hd]; rfl
            refine ⟨i + 1, by omega, ⟨hlt, upto_step2 ha hel hp⟩, ?_⟩
            (repeat' ((try (conv => whnf)); first | (with_reducible first | refine And.intro ?_ ?_ | refine WX.of ?_) | exact zc | ((with_reducible refine VC.mk ?_); exact zw) | (with_reducible first | refine splitT ?_ | refine splitF ?_) | ((with_reducible refine splitM.mk (fun hsm => ?_) (fun hsm => ?_)) <;> (try exact zx)) | ((with_reducible refine splitB.mk (fun h => ?_) (fun h => ?_)) <;> (try simp only [zs, ne_eq] at h) <;> (try simp (disch := omega) only [w64] at h) <;> (try exact zx)) | (with_reducible intro hz; (try exact absurd hz (Nat.succ_ne_zero _)))))
        · have hf : fOk p q = false := by simpa using hf
          (repeat' ((try (conv => whnf)); first | (with_reducible first | refine And.intro ?_ ?_ | refine WX.of ?_) | exact zc | ((with_reducible refine VC.mk ?_); exact zw) | with_reducible refine atL_i ha ?_ | ((with_reducible refine splitT_of ?_ ?_); (focus (simp only [hf, Bool.not_true, Bool.not_false, decide_true, decide_false]; done))) | ((with_reducible refine splitF_of ?_ ?_); (focus (simp only [hf, Bool.not_true, Bool.not_false, decide_true, decide_false]; done))) | (with_reducible first | refine splitT ?_ | refine splitF ?_) | ((with_reducible refine splitM.mk (fun hsm => ?_) (fun hsm => ?_)) <;> (try exact zx)) | ((with_reducible refine splitB.mk (fun h => ?_) (fun h => ?_)) <;> (try simp only [zs, ne_eq] at h) <;> (try simp (disch := omega) only [w64] at h) <;> (try exact zx)) | (with_reducible intro hz; (try exact absurd hz (Nat.succ_ne_zero _)))))
          all_goals exact ⟨congrArg SV.bool (by rw [sc_no ha (by unfold elB; dsimp only; rw [hf, Bool.false_and, Bool.false_and])])⟩
      · obtain rfl : i = n := by omega
        (repeat' ((try (conv => whnf)); first | (with_reducible first | refine And.intro ?_ ?_ | refine WX.of ?_) | exact zc | ((with_reducible refine VC.mk ?_); exact zw) | (with_reducible first | refine splitT ?_ | refine splitF ?_) | ((with_reducible refine splitM.mk (fun hsm => ?_) (fun hsm => ?_)) <;> (try exact zx)) | ((with_reducible refine splitB.mk (fun h => ?_) (fun h => ?_)) <;> (try simp only [zs, ne_eq] at h) <;> (try simp (disch := omega) only [w64] at h) <;> (try exact zx)) | (with_reducible intro hz; (try exact absurd hz (Nat.succ_ne_zero _)))))
        exact ⟨congrArg SV.bool (sc_yes hL hw2.1 hw2.2 (by omega) hp).symm⟩
theorem ok_loRG : SpecOk Try.prog 73 s_loRG := by
  intro args S h; unfold s_loRG at h ⊢; (split at h <;> first | exact False.elim h | skip)
  dsimp only at h ⊢
  rename_i up uq s n x vp vb gp gq l wr
  have hL := seg_len h.1
  by_cases hn : n ≤ 1048576
  · exact ok_lqRG [.ptr 0 0 0] [.box [.int .i64 up, .int .i64 uq, .sl 1 s n x, .int .i64 vp, .bool vb, .int .i64 gp, .int .i64 gq, .sl 2 0 0 0] true false, .arr (.prod (.int .i64) (.int .i64)) l 2 wr, .gone] ⟨h.1, hn⟩
  · rw [sc_big (by omega)]
    refine funW tabOk (E := [(77, s_wi), (78, s_within)]) ⟨ok_l02Within, ok_l00In, trivial⟩ [(7, [(12, 1), (18, 1), (20, 1)])] (k := 3) (fn := Try.f73) rfl rfl rfl rfl rfl rfl ?_
    (repeat' ((try (conv => whnf)); first | (with_reducible first | refine And.intro ?_ ?_ | refine WX.of ?_) | exact zc | ((with_reducible refine VC.mk ?_); exact zw) | (with_reducible first | refine splitT ?_ | refine splitF ?_) | ((with_reducible refine splitM.mk (fun hsm => ?_) (fun hsm => ?_)) <;> (try exact zx)) | ((with_reducible refine splitB.mk (fun h => ?_) (fun h => ?_)) <;> (try simp only [zs, ne_eq] at h) <;> (try simp (disch := omega) only [w64] at h) <;> (try exact zx)) | (with_reducible intro hz; (try exact absurd hz (Nat.succ_ne_zero _)))))
def s_lvRG : Spec := fun args S => match args, S with
  | [.ptr 0 0 3], [.box [.int .i64 up, .int .i64 uq, .sl 1 s n x, .int .i64 vp, .bool vb, .int .i64 gp, .int .i64 gq, .sl 2 0 0 0] true false, .arr (.prod (.int .i64) (.int .i64)) l 2 wr, .gone] => ⟨True, .bool (decide (2 ≤ vp ∧ vp ≤ 40)), [.box [.int .i64 up, .int .i64 uq, .sl 1 s n x, .int .i64 vp, .bool vb, .int .i64 gp, .int .i64 gq, .sl 2 0 0 0] true false, .arr (.prod (.int .i64) (.int .i64)) l 2 wr, .gone]⟩
  | _, _ => noSpec
theorem ok_lvRG : SpecOk Try.prog 74 s_lvRG := by
  intro args S h; unfold s_lvRG at h ⊢; (split at h <;> first | exact False.elim h | skip)
  dsimp only at h ⊢
  refine funW tabOk (E := [(78, s_within)]) ⟨ok_l00In, trivial⟩ [] (k := 3) (fn := Try.f74) rfl rfl rfl rfl rfl rfl ?_
  (repeat' ((try (conv => whnf)); first | (with_reducible first | refine And.intro ?_ ?_ | refine WX.of ?_) | exact zc | ((with_reducible refine VC.mk ?_); exact zw) | (with_reducible first | refine splitT ?_ | refine splitF ?_) | ((with_reducible refine splitM.mk (fun hsm => ?_) (fun hsm => ?_)) <;> (try exact zx)) | ((with_reducible refine splitB.mk (fun h => ?_) (fun h => ?_)) <;> (try simp only [zs, ne_eq] at h) <;> (try simp (disch := omega) only [w64] at h) <;> (try exact zx)) | (with_reducible intro hz; (try exact absurd hz (Nat.succ_ne_zero _)))))
def s_l7RG : Spec := fun args S => match args, S with
  | [.ptr 0 0 0], [.box [.int .i64 up, .int .i64 uq, .sl 1 s n x, .int .i64 vp, .bool vb, .int .i64 gp, .int .i64 gq, .sl 2 0 0 0] true false, .arr (.prod (.int .i64) (.int .i64)) l 2 wr, .gone] => ⟨(s + n ≤ l.length ∧ n ≤ 9223372036854775807), .bool (bnB up uq vp gp gq (seg l s n) []), [.box [.int .i64 up, .int .i64 uq, .sl 1 s n x, .int .i64 vp, .bool vb, .int .i64 gp, .int .i64 gq, .sl 2 0 0 0] true false, .arr (.prod (.int .i64) (.int .i64)) l 2 wr, .gone]⟩
  | _, _ => noSpec
theorem ok_l7RG : SpecOk Try.prog 41 s_l7RG := by
  intro args S h; unfold s_l7RG at h ⊢; (split at h <;> first | exact False.elim h | skip)
  dsimp only at h ⊢
  refine funW tabOk (E := [(73, s_loRG), (74, s_lvRG), (75, s_gw)]) ⟨ok_loRG, ok_lvRG, ok_l07Grows, trivial⟩ [] (k := 3) (fn := Try.f41) rfl rfl rfl rfl rfl rfl ?_
  (repeat' ((try (conv => whnf)); first | (with_reducible first | refine And.intro ?_ ?_ | refine WX.of ?_) | exact zc | ((with_reducible refine VC.mk ?_); exact zw) | ((with_reducible refine VC.mk ?_); exact h) | (with_reducible first | refine splitT ?_ | refine splitF ?_) | ((with_reducible refine splitM.mk (fun hsm => ?_) (fun hsm => ?_)) <;> (try exact zx)) | ((with_reducible refine splitB.mk (fun h => ?_) (fun h => ?_)) <;> (try simp only [zs, ne_eq] at h) <;> (try simp (disch := omega) only [w64] at h) <;> (try exact zx)) | (with_reducible intro hz; (try exact absurd hz (Nat.succ_ne_zero _)))))
  all_goals (first | (refine ⟨congrArg SV.bool ?_⟩; (first | (rw [bn_nil (by assumption) (by assumption) (by assumption)] <;> first | rfl | decide) | ((try simp only [bnB, allI_iff.2 (fun k a (ha : ([] : List ThT)[k]? = some a) => by simp at ha), *, Bool.and_true, Bool.true_and, Bool.false_and, Bool.and_false]); (try simp); done))) | skip)
  refine loop1 tabOk (E := [(73, s_loRG), (74, s_lvRG), (75, s_gw)]) ⟨ok_loRG, ok_lvRG, ok_l07Grows, trivial⟩ [] ?_
  (repeat' ((try (conv => whnf)); first | (with_reducible first | refine And.intro ?_ ?_ | refine WX.of ?_) | exact zc | ((with_reducible refine VC.mk ?_); exact zw) | (with_reducible first | refine splitT ?_ | refine splitF ?_) | ((with_reducible refine splitM.mk (fun hsm => ?_) (fun hsm => ?_)) <;> (try exact zx)) | ((with_reducible refine splitB.mk (fun h => ?_) (fun h => ?_)) <;> (try simp only [zs, ne_eq] at h) <;> (try simp (disch := omega) only [w64] at h) <;> (try exact zx)) | (with_reducible intro hz; (try exact absurd hz (Nat.succ_ne_zero _)))))
  all_goals (first | (refine ⟨congrArg SV.bool ?_⟩; (first | (rw [bn_nil (by assumption) (by assumption) (by assumption)] <;> first | rfl | decide) | ((try simp only [bnB, allI_iff.2 (fun k a (ha : ([] : List ThT)[k]? = some a) => by simp at ha), *, Bool.and_true, Bool.true_and, Bool.false_and, Bool.and_false]); (try simp); done))) | skip)
def s_lsRG : Spec := fun args S => match args, S with
  | [.ptr 0 0 0, .ptr 1 0 0], [.box [.int .i64 up, .int .i64 uq, .sl 2 s n x, .int .i64 vp, .bool vb, .int .i64 gp, .int .i64 gq, .sl 3 0 0 0] true false, .arr (.prod (.int .i64) (.prod (.prod (.int .i64) (.int .i64)) (.prod (.int .i64) (.int .i64)))) [c] 0 true, .arr (.prod (.int .i64) (.int .i64)) l 2 wr, .gone] => ⟨True, .bool false, [.box [.int .i64 up, .int .i64 uq, .sl 2 s n x, .int .i64 vp, .bool vb, .int .i64 gp, .int .i64 gq, .sl 3 0 0 0] true false, .arr (.prod (.int .i64) (.prod (.prod (.int .i64) (.int .i64)) (.prod (.int .i64) (.int .i64)))) [c] 0 true, .arr (.prod (.int .i64) (.int .i64)) l 2 wr, .gone]⟩
  | _, _ => noSpec
theorem ok_lsRG : SpecOk Try.prog 42 s_lsRG := by
  intro args S h; unfold s_lsRG at h ⊢; (split at h <;> first | exact False.elim h | skip)
  dsimp only at h ⊢
  refine funW tabOk (E := [(78, s_within)]) ⟨ok_l00In, trivial⟩ [(1, [(29, 2)])] (k := 4) (fn := Try.f42) rfl rfl rfl rfl rfl rfl ?_
  (repeat' ((try (conv => whnf)); first | (with_reducible first | refine And.intro ?_ ?_ | refine WX.of ?_) | exact zc | ((with_reducible refine VC.mk ?_); exact zw) | (with_reducible first | refine splitT ?_ | refine splitF ?_) | ((with_reducible refine splitM.mk (fun hsm => ?_) (fun hsm => ?_)) <;> (try exact zx)) | ((with_reducible refine splitB.mk (fun h => ?_) (fun h => ?_)) <;> (try simp only [zs, ne_eq] at h) <;> (try simp (disch := omega) only [w64] at h) <;> (try exact zx)) | (with_reducible intro hz; (try exact absurd hz (Nat.succ_ne_zero _)))))
  all_goals (exfalso; revert h; decide +revert)
theorem ok_shRGS : SpecOk Try.prog 17 s_shRG := by
  intro args S h; unfold s_shRG at h ⊢; (split at h <;> first | exact False.elim h | skip)
  dsimp only at h ⊢
  refine funW tabOk (E := [(41, s_l7RG), (42, s_lsRG)]) ⟨ok_l7RG, ok_lsRG, trivial⟩ [] (k := 2) (fn := Try.f17) rfl rfl rfl rfl rfl rfl ?_
  (repeat' ((try (conv => whnf)); first | (with_reducible first | refine And.intro ?_ ?_ | refine WX.of ?_) | exact zc | ((with_reducible refine VC.mk ?_); exact zw) | ((with_reducible refine VC.mk ?_); exact h) | (with_reducible first | refine splitT ?_ | refine splitF ?_) | ((with_reducible refine splitM.mk (fun hsm => ?_) (fun hsm => ?_)) <;> (try exact zx)) | ((with_reducible refine splitB.mk (fun h => ?_) (fun h => ?_)) <;> (try simp only [zs, ne_eq] at h) <;> (try simp (disch := omega) only [w64] at h) <;> (try exact zx)) | (with_reducible intro hz; (try exact absurd hz (Nat.succ_ne_zero _)))))
theorem ok_trRGS : SpecOk Try.prog 13 s_trRG := by
  intro args S h; unfold s_trRG at h ⊢; (split at h <;> first | exact False.elim h | skip)
  dsimp only at h ⊢
  refine funW tabOk (E := [(17, s_shRG)]) ⟨ok_shRGS, trivial⟩ [] (k := 2) (fn := Try.f13) rfl rfl rfl rfl rfl rfl ?_
  (repeat' ((try (conv => whnf)); first | (with_reducible first | refine And.intro ?_ ?_ | refine WX.of ?_) | exact zc | ((with_reducible refine VC.mk ?_); exact zw) | ((with_reducible refine VC.mk ?_); exact h) | (with_reducible first | refine splitT ?_ | refine splitF ?_) | ((with_reducible refine splitM.mk (fun hsm => ?_) (fun hsm => ?_)) <;> (try exact zx)) | ((with_reducible refine splitB.mk (fun h => ?_) (fun h => ?_)) <;> (try simp only [zs, ne_eq] at h) <;> (try simp (disch := omega) only [w64] at h) <;> (try exact zx)) | (with_reducible intro hz; (try exact absurd hz (Nat.succ_ne_zero _)))))
def s_vbRR : Spec := fun args S => match args, S with
  | [.agg [.int .i64 up, .int .i64 uq, .sl 0 s n x, .int .i64 vp, .bool vb, .int .i64 gp, .int .i64 gq, .sl 1 t m y]], [.arr (.prod (.int .i64) (.int .i64)) l 2 wr, .arr (.prod .str (.prod (.prod (.int .i64) (.int .i64)) (.prod (.int .i64) (.int .i64)))) T 5 wT] => ⟨(s + n ≤ l.length ∧ n ≤ 9223372036854775807) ∧ (t + m ≤ T.length ∧ m ≤ 9223372036854775807) ∧ (∀ (j : Nat) (a : ThT), T[j]? = some a → a.1.length < 9223372036854775808) ∧ (1048576 < n ∨ 1048576 < m), .bool false, [.arr (.prod (.int .i64) (.int .i64)) l 2 wr, .arr (.prod .str (.prod (.prod (.int .i64) (.int .i64)) (.prod (.int .i64) (.int .i64)))) T 5 wT]⟩
  | _, _ => noSpec
set_option maxHeartbeats 1600000 in
theorem ok_vbRR : SpecOk Try.prog 88 s_vbRR := by
  intro args S h; unfold s_vbRR at h ⊢; (split at h <;> first | exact False.elim h | skip)
  dsimp only at h ⊢
  rename_i up uq s n x vp vb gp gq t m y l wr T wT
  refine funW tabOk (E := [(110, s_word), (111, (s_anyTh 112)), (37, s_fOk), (26, s_num), (38, s_cmp), (113, s_gw), (56, s_vScaleL), (114, s_ver)]) ⟨ok_isWord, ok_anyTh, ok_ValidFrac, ok_num, ok_compare, ok_isGrowth, ok_vScaleL, ok_ValidVernier, trivial⟩ [(6, [(12, 2)])] (k := 2) (fn := Try.f88) rfl rfl rfl rfl rfl rfl ?_
  (repeat' ((try (conv => whnf)); first | (with_reducible first | refine And.intro ?_ ?_ | refine WX.of ?_) | exact zc | ((with_reducible refine VC.mk ?_); exact zw) | (with_reducible first | refine splitT ?_ | refine splitF ?_) | ((with_reducible refine splitM.mk (fun hsm => ?_) (fun hsm => ?_)) <;> (try exact zx)) | ((with_reducible refine splitB.mk (fun h => ?_) (fun h => ?_)) <;> (try simp only [zs, ne_eq] at h) <;> (try simp (disch := omega) only [w64] at h) <;> (try exact zx)) | (with_reducible intro hz; (try exact absurd hz (Nat.succ_ne_zero _)))))
  obtain ⟨⟨h1, h2⟩, ⟨h3, h4⟩, ho, hbig⟩ := h
  have hL := seg_len h1
  have hM := seg_len h3
  refine loopW tabOk (E := [(110, s_word), (111, (s_anyTh 112)), (37, s_fOk), (26, s_num), (38, s_cmp), (113, s_gw), (56, s_vScaleL), (114, s_ver)]) ⟨ok_isWord, ok_anyTh, ok_ValidFrac, ok_num, ok_compare, ok_isGrowth, ok_vScaleL, ok_ValidVernier, trivial⟩ [(6, [(12, 2)])] (σ := Nat) (fun i => [(1, .ptr 2 0 0), (6, .sl 1 t m y), (7, .int .i64 m), (8, .int .i64 i)]) (fun i => [.arr (.prod (.int .i64) (.int .i64)) l 2 wr, .arr (.prod .str (.prod (.prod (.int .i64) (.int .i64)) (.prod (.int .i64) (.int .i64)))) T 5 wT, .box [.int .i64 up, .int .i64 uq, .sl 0 s n x, .int .i64 vp, .bool vb, .int .i64 gp, .int .i64 gq, .sl 1 t m y] true false]) (fun i => m - i) (fun i => i ≤ m) 0 (Nat.zero_le _) ?_ ?_
  · (repeat' ((try (conv => whnf)); first | (with_reducible first | refine And.intro ?_ ?_ | refine WX.of ?_) | exact zc | ((with_reducible refine VC.mk ?_); exact zw) | (with_reducible first | refine splitT ?_ | refine splitF ?_) | ((with_reducible refine splitM.mk (fun hsm => ?_) (fun hsm => ?_)) <;> (try exact zx)) | ((with_reducible refine splitB.mk (fun h => ?_) (fun h => ?_)) <;> (try simp only [zs, ne_eq] at h) <;> (try simp (disch := omega) only [w64] at h) <;> (try exact zx)) | (with_reducible intro hz; (try exact absurd hz (Nat.succ_ne_zero _)))))
  · intro i hi
    by_cases hlt : i < m
    · obtain ⟨⟨nm, ⟨p, q⟩, r, s0⟩, ha⟩ := get_some (l := seg T t m) (i := i) (by omega)
      have hno := ho _ _ (seg_get ha).1
      dsimp only at hno
      (repeat' ((try (conv => whnf)); first | (with_reducible first | refine And.intro ?_ ?_ | refine WX.of ?_) | exact zc | ((with_reducible refine VC.mk ?_); exact zw) | with_reducible refine atL_i ha ?_ | ((with_reducible refine VC.mk ?_); exact ⟨smF_ok (by assumption), smF_1 (by omega)⟩) | (with_reducible first | refine splitT ?_ | refine splitF ?_) | ((with_reducible refine splitM.mk (fun hsm => ?_) (fun hsm => ?_)) <;> (try exact zx)) | ((with_reducible refine splitB.mk (fun h => ?_) (fun h => ?_)) <;> (try simp only [zs, ne_eq] at h) <;> (try simp (disch := omega) only [w64] at h) <;> (try exact zx)) | (with_reducible intro hz; (try exact absurd hz (Nat.succ_ne_zero _)))))
      refine ⟨i + 1, by omega, hlt, ?_⟩
      (repeat' ((try (conv => whnf)); first | (with_reducible first | refine And.intro ?_ ?_ | refine WX.of ?_) | exact zc | ((with_reducible refine VC.mk ?_); exact zw) | (with_reducible first | refine splitT ?_ | refine splitF ?_) | ((with_reducible refine splitM.mk (fun hsm => ?_) (fun hsm => ?_)) <;> (try exact zx)) | ((with_reducible refine splitB.mk (fun h => ?_) (fun h => ?_)) <;> (try simp only [zs, ne_eq] at h) <;> (try simp (disch := omega) only [w64] at h) <;> (try exact zx)) | (with_reducible intro hz; (try exact absurd hz (Nat.succ_ne_zero _)))))
    · obtain rfl : i = m := by omega
      (repeat' ((try (conv => whnf)); first | (with_reducible first | refine And.intro ?_ ?_ | refine WX.of ?_) | exact zc | ((with_reducible refine VC.mk ?_); exact zw) | ((with_reducible refine VC.mk ?_); exact ⟨h1, h2⟩) | (with_reducible first | refine splitT ?_ | refine splitF ?_) | ((with_reducible refine splitM.mk (fun hsm => ?_) (fun hsm => ?_)) <;> (try exact zx)) | ((with_reducible refine splitB.mk (fun h => ?_) (fun h => ?_)) <;> (try simp only [zs, ne_eq] at h) <;> (try simp (disch := omega) only [w64] at h) <;> (try exact zx)) | (with_reducible intro hz; (try exact absurd hz (Nat.succ_ne_zero _)))))
      all_goals (first | (refine ⟨congrArg SV.bool ?_⟩; first | rfl | (rw [decide_eq_false (by omega)]; done) | (rw [decide_eq_false]; intro hh; have h60 : ¬ 60 < n := (fun hx => by have h9 := sc_big (up := up) (uq := uq) (E := seg l s n) (by omega); simp_all); omega) | (exfalso; rename_i hsc hv; rw [sc_big (by omega)] at hsc; simp at hsc)) | skip)
def s_shRR : Spec := fun args S => match args, S with
  | [.agg [.int .i64 up, .int .i64 uq, .sl 0 s n x, .int .i64 vp, .bool vb, .int .i64 gp, .int .i64 gq, .sl 1 t m y], .agg [.int .i64 i, .int .i64 wp, .int .i64 wq, .int .i64 sp, .int .i64 sq]], [.arr (.prod (.int .i64) (.int .i64)) l 2 wr, .arr (.prod .str (.prod (.prod (.int .i64) (.int .i64)) (.prod (.int .i64) (.int .i64)))) T 5 wT] => ⟨(s + n ≤ l.length ∧ n ≤ 9223372036854775807) ∧ (t + m ≤ T.length ∧ m ≤ 9223372036854775807) ∧ (∀ (j : Nat) (a : ThT), T[j]? = some a → a.1.length < 9223372036854775808) ∧ (1048576 < n ∨ 1048576 < m), .bool false, [.arr (.prod (.int .i64) (.int .i64)) l 2 wr, .arr (.prod .str (.prod (.prod (.int .i64) (.int .i64)) (.prod (.int .i64) (.int .i64)))) T 5 wT]⟩
  | _, _ => noSpec
theorem ok_shRR : SpecOk Try.prog 52 s_shRR := by
  intro args S h; unfold s_shRR at h ⊢; (split at h <;> first | exact False.elim h | skip)
  dsimp only at h ⊢
  refine funW tabOk (E := [(88, s_vbRR)]) ⟨ok_vbRR, trivial⟩ [] (k := 2) (fn := Try.f52) rfl rfl rfl rfl rfl rfl ?_
  (repeat' ((try (conv => whnf)); first | (with_reducible first | refine And.intro ?_ ?_ | refine WX.of ?_) | exact zc | ((with_reducible refine VC.mk ?_); exact zw) | ((with_reducible refine VC.mk ?_); exact h) | (with_reducible first | refine splitT ?_ | refine splitF ?_) | ((with_reducible refine splitM.mk (fun hsm => ?_) (fun hsm => ?_)) <;> (try exact zx)) | ((with_reducible refine splitB.mk (fun h => ?_) (fun h => ?_)) <;> (try simp only [zs, ne_eq] at h) <;> (try simp (disch := omega) only [w64] at h) <;> (try exact zx)) | (with_reducible intro hz; (try exact absurd hz (Nat.succ_ne_zero _)))))
def s_enRR : Spec := fun args S => match args, S with
  | [.agg [.int .i64 up, .int .i64 uq, .sl 0 s n x, .int .i64 vp, .bool vb, .int .i64 gp, .int .i64 gq, .sl 1 t m y], .agg [.int .i64 i, .int .i64 wp, .int .i64 wq, .int .i64 sp, .int .i64 sq]], [.arr (.prod (.int .i64) (.int .i64)) l 2 wr, .arr (.prod .str (.prod (.prod (.int .i64) (.int .i64)) (.prod (.int .i64) (.int .i64)))) T 5 wT] => ⟨(s + n ≤ l.length ∧ n ≤ 9223372036854775807) ∧ (t + m ≤ T.length ∧ m ≤ 9223372036854775807) ∧ (∀ (j : Nat) (a : ThT), T[j]? = some a → a.1.length < 9223372036854775808) ∧ (1048576 < n ∨ 1048576 < m), .tup [.agg [.int .i64 0, .int .i64 0], .agg [.int .i64 0, .int .i64 0], .int .i64 1], [.arr (.prod (.int .i64) (.int .i64)) l 2 wr, .arr (.prod .str (.prod (.prod (.int .i64) (.int .i64)) (.prod (.int .i64) (.int .i64)))) T 5 wT]⟩
  | _, _ => noSpec
theorem ok_enRR : SpecOk Try.prog 23 s_enRR := by
  intro args S h; unfold s_enRR at h ⊢; (split at h <;> first | exact False.elim h | skip)
  dsimp only at h ⊢
  refine funW tabOk (E := [(52, s_shRR)]) ⟨ok_shRR, trivial⟩ [(4, [(2, 1), (2, 2), (5, 1), (14, 0), (14, 1), (14, 2)]), (7, [(2, 1)])] (k := 2) (fn := Try.f23) rfl rfl rfl rfl rfl rfl ?_
  (repeat' ((try (conv => whnf)); first | (with_reducible first | refine And.intro ?_ ?_ | refine WX.of ?_) | exact zc | ((with_reducible refine VC.mk ?_); exact zw) | ((with_reducible refine VC.mk ?_); exact h) | (with_reducible first | refine splitT ?_ | refine splitF ?_) | ((with_reducible refine splitM.mk (fun hsm => ?_) (fun hsm => ?_)) <;> (try exact zx)) | ((with_reducible refine splitB.mk (fun h => ?_) (fun h => ?_)) <;> (try simp only [zs, ne_eq] at h) <;> (try simp (disch := omega) only [w64] at h) <;> (try exact zx)) | (with_reducible intro hz; (try exact absurd hz (Nat.succ_ne_zero _)))))
theorem ok_rdRR : SpecOk Try.prog 9 s_enRR := by
  intro args S h; unfold s_enRR at h ⊢; (split at h <;> first | exact False.elim h | skip)
  dsimp only at h ⊢
  refine funW tabOk (E := [(23, s_enRR)]) ⟨ok_enRR, trivial⟩ [(6, [(1, 1), (4, 0), (4, 1)]), (24, [(5, 1)])] (k := 2) (fn := Try.f9) rfl rfl rfl rfl rfl rfl ?_
  (repeat' ((try (conv => whnf)); first | (with_reducible first | refine And.intro ?_ ?_ | refine WX.of ?_) | exact zc | ((with_reducible refine VC.mk ?_); exact zw) | ((with_reducible refine VC.mk ?_); exact h) | (with_reducible first | refine splitT ?_ | refine splitF ?_) | ((with_reducible refine splitM.mk (fun hsm => ?_) (fun hsm => ?_)) <;> (try exact zx)) | ((with_reducible refine splitB.mk (fun h => ?_) (fun h => ?_)) <;> (try simp only [zs, ne_eq] at h) <;> (try simp (disch := omega) only [w64] at h) <;> (try exact zx)) | (with_reducible intro hz; (try exact absurd hz (Nat.succ_ne_zero _)))))
def s_trRR : Spec := fun args S => match args, S with
  | [.agg [.int .i64 up, .int .i64 uq, .sl 0 s n x, .int .i64 vp, .bool vb, .int .i64 gp, .int .i64 gq, .sl 1 t m y], .agg [.int .i64 i, .int .i64 wp, .int .i64 wq, .int .i64 sp, .int .i64 sq]], [.arr (.prod (.int .i64) (.int .i64)) l 2 wr, .arr (.prod .str (.prod (.prod (.int .i64) (.int .i64)) (.prod (.int .i64) (.int .i64)))) T 5 wT] => ⟨(s + n ≤ l.length ∧ n ≤ 9223372036854775807) ∧ (t + m ≤ T.length ∧ m ≤ 9223372036854775807) ∧ (∀ (j : Nat) (a : ThT), T[j]? = some a → a.1.length < 9223372036854775808) ∧ (1048576 < n ∨ 1048576 < m), .tup [.agg [.int .i64 0, .int .i64 0, .int .i64 0, .int .i64 0, .int .i64 0, .int .i64 0, .int .i64 0, .int .i64 0, .int .i64 0, .int .i64 0, .int .i64 0, .int .i64 0, .int .i64 0, .int .i64 0, .int .i64 0], .int .i64 1], [.arr (.prod (.int .i64) (.int .i64)) l 2 wr, .arr (.prod .str (.prod (.prod (.int .i64) (.int .i64)) (.prod (.int .i64) (.int .i64)))) T 5 wT]⟩
  | _, _ => noSpec
theorem ok_trRRI : SpecOk Try.prog 12 s_trRR := by
  intro args S h; unfold s_trRR at h ⊢; (split at h <;> first | exact False.elim h | skip)
  dsimp only at h ⊢
  refine funW tabOk (E := [(9, s_enRR)]) ⟨ok_rdRR, trivial⟩ [] (k := 2) (fn := Try.f12) rfl rfl rfl rfl rfl rfl ?_
  (repeat' ((try (conv => whnf)); first | (with_reducible first | refine And.intro ?_ ?_ | refine WX.of ?_) | exact zc | ((with_reducible refine VC.mk ?_); exact zw) | ((with_reducible refine VC.mk ?_); exact h) | (with_reducible first | refine splitT ?_ | refine splitF ?_) | ((with_reducible refine splitM.mk (fun hsm => ?_) (fun hsm => ?_)) <;> (try exact zx)) | ((with_reducible refine splitB.mk (fun h => ?_) (fun h => ?_)) <;> (try simp only [zs, ne_eq] at h) <;> (try simp (disch := omega) only [w64] at h) <;> (try exact zx)) | (with_reducible intro hz; (try exact absurd hz (Nat.succ_ne_zero _)))))
def s_l7RR : Spec := fun args S => match args, S with
  | [.ptr 0 0 0], [.box [.int .i64 up, .int .i64 uq, .sl 1 s n x, .int .i64 vp, .bool vb, .int .i64 gp, .int .i64 gq, .sl 2 t m y] true false, .arr (.prod (.int .i64) (.int .i64)) l 2 wr, .arr (.prod .str (.prod (.prod (.int .i64) (.int .i64)) (.prod (.int .i64) (.int .i64)))) T 5 wT] => ⟨(s + n ≤ l.length ∧ n ≤ 9223372036854775807) ∧ (t + m ≤ T.length ∧ m ≤ 9223372036854775807) ∧ (∀ (j : Nat) (a : ThT), T[j]? = some a → a.1.length < 9223372036854775808) ∧ (1048576 < n ∨ 1048576 < m), .bool false, [.box [.int .i64 up, .int .i64 uq, .sl 1 s n x, .int .i64 vp, .bool vb, .int .i64 gp, .int .i64 gq, .sl 2 t m y] true false, .arr (.prod (.int .i64) (.int .i64)) l 2 wr, .arr (.prod .str (.prod (.prod (.int .i64) (.int .i64)) (.prod (.int .i64) (.int .i64)))) T 5 wT]⟩
  | _, _ => noSpec
theorem ok_l7RR : SpecOk Try.prog 41 s_l7RR := by
  intro args S h; unfold s_l7RR at h ⊢; (split at h <;> first | exact False.elim h | skip)
  dsimp only at h ⊢
  rename_i up uq s n x vp vb gp gq t m y l wr T wT
  have hL := seg_len h.1.1
  refine funW tabOk (E := [(73, s_l02OkB), (74, s_l02Ver), (75, s_gw)]) ⟨ok_l02OkB, ok_l02Vernier, ok_l07Grows, trivial⟩ [] (k := 3) (fn := Try.f41) rfl rfl rfl rfl rfl rfl ?_
  (repeat' ((try (conv => whnf)); first | (with_reducible first | refine And.intro ?_ ?_ | refine WX.of ?_) | exact zc | ((with_reducible refine VC.mk ?_); exact zw) | ((with_reducible refine VC.mk ?_); exact h.1) | (with_reducible first | refine splitT ?_ | refine splitF ?_) | ((with_reducible refine splitM.mk (fun hsm => ?_) (fun hsm => ?_)) <;> (try exact zx)) | ((with_reducible refine splitB.mk (fun h => ?_) (fun h => ?_)) <;> (try simp only [zs, ne_eq] at h) <;> (try simp (disch := omega) only [w64] at h) <;> (try exact zx)) | (with_reducible intro hz; (try exact absurd hz (Nat.succ_ne_zero _)))))
  all_goals (exfalso; rename_i hsc _ _; rw [sc_big (by omega)] at hsc; simp at hsc)
theorem ok_shRRS : SpecOk Try.prog 17 s_shRR := by
  intro args S h; unfold s_shRR at h ⊢; (split at h <;> first | exact False.elim h | skip)
  dsimp only at h ⊢
  refine funW tabOk (E := [(41, s_l7RR)]) ⟨ok_l7RR, trivial⟩ [] (k := 2) (fn := Try.f17) rfl rfl rfl rfl rfl rfl ?_
  (repeat' ((try (conv => whnf)); first | (with_reducible first | refine And.intro ?_ ?_ | refine WX.of ?_) | exact zc | ((with_reducible refine VC.mk ?_); exact zw) | ((with_reducible refine VC.mk ?_); exact h) | (with_reducible first | refine splitT ?_ | refine splitF ?_) | ((with_reducible refine splitM.mk (fun hsm => ?_) (fun hsm => ?_)) <;> (try exact zx)) | ((with_reducible refine splitB.mk (fun h => ?_) (fun h => ?_)) <;> (try simp only [zs, ne_eq] at h) <;> (try simp (disch := omega) only [w64] at h) <;> (try exact zx)) | (with_reducible intro hz; (try exact absurd hz (Nat.succ_ne_zero _)))))
theorem ok_trRRS : SpecOk Try.prog 13 s_trRR := by
  intro args S h; unfold s_trRR at h ⊢; (split at h <;> first | exact False.elim h | skip)
  dsimp only at h ⊢
  refine funW tabOk (E := [(17, s_shRR)]) ⟨ok_shRRS, trivial⟩ [] (k := 2) (fn := Try.f13) rfl rfl rfl rfl rfl rfl ?_
  (repeat' ((try (conv => whnf)); first | (with_reducible first | refine And.intro ?_ ?_ | refine WX.of ?_) | exact zc | ((with_reducible refine VC.mk ?_); exact zw) | ((with_reducible refine VC.mk ?_); exact h) | (with_reducible first | refine splitT ?_ | refine splitF ?_) | ((with_reducible refine splitM.mk (fun hsm => ?_) (fun hsm => ?_)) <;> (try exact zx)) | ((with_reducible refine splitB.mk (fun h => ?_) (fun h => ?_)) <;> (try simp only [zs, ne_eq] at h) <;> (try simp (disch := omega) only [w64] at h) <;> (try exact zx)) | (with_reducible intro hz; (try exact absurd hz (Nat.succ_ne_zero _)))))
end Go.Proofs.Ytbmejhabgoimeaa.Eng
set_option linter.unusedVariables false
set_option linter.unusedSimpArgs false
namespace Go.Proofs.Ytbmejhabgoimeaa.Eng
open Go Go.RowKit
set_option maxRecDepth 100000
/-- A slice that may be nil, or without a row, anywhere in the arguments. -/
theorem RunsS.optG {P : Program} {f : FuncId} {c : Bool} {b n x : Nat} {A : SV → List SV} {S S' : List SB} {v : SV} {e : ET} {l : List e.T} {sz : Nat} (hA : ∀ (ρ : Nm) (args' : List Value), LDR ρ (A (.opt c b n x)) args' → ∃ a, DR ρ (.opt c b n x) a ∧ ∀ u, DR ρ u a → LDR ρ (A u) args') (hb : S[b]? = some (.arrO e l sz)) (hb' : S'[b]? = some (.arrO e l sz)) (hn : n + x ≤ l.length)
    (h1 : n = 0 → x = 0 → l = [] → RunsS P f (A .nils) (S.set b .gone) v (S'.set b .gone)) (h2 : n = 0 → x = 0 → l = [] → RunsS P f (A (.sl b 0 0 0)) (S.set b .gone) v (S'.set b .gone))
    (h3 : RunsS P f (A (.sl b 0 n x)) (S.set b (.arr e l sz false)) v (S'.set b (.arr e l sz false))) (hc : c = true → l = []) : RunsS P f (A (.opt c b n x)) S v S' := fun H ρ args' hD hd ha => by
  obtain ⟨a, hme, hu1⟩ := hA ρ args' ha
  have hu0 : ∀ u : SV, (∀ a, DR ρ (.opt c b n x) a → DR ρ u a) → LDR ρ (A u) args' := fun u hu => hu1 u (hu a hme)
  have hlt : b < S.length := (List.getElem?_eq_some_iff.1 hb).1
  have hlt' : b < S'.length := (List.getElem?_eq_some_iff.1 hb').1
  -- the row turned to another of the same meaning, and back
  have via : ∀ (y : SB) (u : SV), (isGone y = false → isGone (.arrO e l sz) = false) → (∀ w k, isGone y = false → BR ρ (.arrO e l sz) w k → BR ρ y w k) → (∀ ρ' w k, isGone (SB.arrO e l sz) = false → BR ρ' y w k → BR ρ' (.arrO e l sz) w k) → (isGone (SB.arrO e l sz) = false → isGone y = false) →
      (∀ a, DR ρ (.opt c b n x) a → DR ρ u a) → RunsS P f (A u) (S.set b y) v (S'.set b y) → ∃ v' H' ρ', Runs P f args' H (fun u G => u = v' ∧ G = H') ∧ DR ρ' v v' ∧ Step ρ S H ρ' S' H' := fun y u g1 g2 g3 g4 hu hr => by
    have hD2 : Den ρ (S.set b y) H := by
      refine ⟨fun b' x' hx' hg => ?_, hD.inj⟩
      rw [List.getElem?_set] at hx'
      split at hx'
      · rename_i eb; subst eb
        obtain rfl := Option.some.inj hx'
        obtain ⟨id, w, k, q1, q2, q3⟩ := hD.blk b _ hb (g1 hg)
        exact ⟨id, w, k, q1, q2, g2 w k hg q3⟩
      · exact hD.blk b' x' hx' hg
    obtain ⟨v', H', ρ', r1, r2, r3⟩ := hr H ρ args' hD2 (fun b id w h => by simpa using hd b id w h) (hu0 u hu)
    refine ⟨v', H', ρ', r1, r2, r3.le, ⟨fun b' x' hx' hg => ?_, r3.den.inj⟩, fun b id w h => by simpa using r3.dom b id w h, fun b id w h => by simpa using r3.fresh b id w h, r3.hl, by simpa using r3.sl, r3.keep⟩
    by_cases eb : b = b'
    · subst eb
      rw [hb'] at hx'
      obtain rfl := Option.some.inj hx'
      obtain ⟨id, w, k, q1, q2, q3⟩ := r3.den.blk b y (by simp [hlt']) (g4 hg)
      exact ⟨id, w, k, q1, q2, g3 ρ' w k hg q3⟩
    · exact r3.den.blk b' x' (by rw [List.getElem?_set, if_neg eb]; exact hx') hg
  cases hme with
  | optN _ _ _ id w hbb hn0 hx0 =>
    have hl := hc rfl
    exact via .gone .nils (fun h => by simp [isGone] at h) (fun w k h => by simp [isGone] at h) (fun _ _ _ h => by simp [isGone, hl] at h) (fun h => by simp [isGone, hl] at h) (fun a ha => by cases ha; exact .nils) (h1 hn0 hx0 hl)
  | optS _ _ _ id w hbb =>
    by_cases hl : l = []
    · have hn0 : n = 0 := by rw [hl] at hn; simp at hn; omega
      have hx0 : x = 0 := by rw [hl] at hn; simp at hn; omega
      refine via .gone (.sl b 0 0 0) (fun h => by simp [isGone] at h) (fun w k h => by simp [isGone] at h) (fun _ _ _ h => by simp [isGone, hl] at h) (fun h => by simp [isGone, hl] at h) (fun a ha => ?_) (h2 hn0 hx0 hl)
      subst hn0; subst hx0
      cases ha with | optS _ _ _ id w hb => simpa using DR.sl (ρ := ρ) b 0 0 0 id w hb
    · refine via (.arr e l sz false) (.sl b 0 n x) (fun _ => by simp [isGone, hl]) (fun w k _ r => ⟨r.1, r.2.1, fun h => by simp at h, r.2.2⟩) (fun ρ' w k _ r => ⟨r.1, r.2.1, r.2.2.2⟩) (fun _ => rfl) (fun a ha => ?_) h3
      cases ha with | optS _ _ _ id w hb => simpa using DR.sl (ρ := ρ) b 0 n x id w hb
theorem LDR.pk {ρ : Nm} {av : List SV} {raw : List Value} (h : LDR ρ av raw) {k : Nat} {w : SV} (hk : av[k]? = some w) : ∃ a, raw[k]? = some a ∧ DR ρ w a ∧ ∀ u, DR ρ u a → LDR ρ (av.set k u) raw := by
  have hlt := (List.getElem?_eq_some_iff.1 hk).1
  have hl := h.1
  obtain ⟨a, ha⟩ := get_some (l := raw) (i := k) (by omega)
  refine ⟨a, ha, h.2 k _ _ hk ha, fun u hu => ⟨by simp [hl], fun i v v' e1 e2 => ?_⟩⟩
  by_cases e : k = i
  · subst e
    rw [List.getElem?_set_self hlt] at e1
    obtain rfl := Option.some.inj e1
    rw [ha] at e2; obtain rfl := Option.some.inj e2
    exact hu
  · rw [List.getElem?_set_ne e] at e1
    exact h.2 i v v' e1 e2
/-- The same, inside of the first argument, a struct. -/
theorem LDR.ing {ρ : Nm} {xs r : List SV} {raw : List Value} (h : LDR ρ (.agg xs :: r) raw) {k : Nat} {w : SV} (hk : xs[k]? = some w) : ∃ a, DR ρ w a ∧ ∀ u, DR ρ u a → LDR ρ (.agg (xs.set k u) :: r) raw := by
  obtain ⟨a0, h0, hd, hs⟩ := h.pk (k := 0) rfl
  cases hd with
  | agg _ ys hl hx =>
    obtain ⟨a, _, hd2, hs2⟩ := LDR.pk ⟨hl, hx⟩ hk
    exact ⟨a, hd2, fun u hu => by
      have h3 := hs2 u hu
      have := hs (.agg (xs.set k u)) (.agg _ _ h3.1 h3.2)
      simpa using this⟩
end Go.Proofs.Ytbmejhabgoimeaa.Eng
set_option linter.unusedVariables false
set_option linter.unusedSimpArgs false
namespace Go.Proofs.Ytbmejhabgoimeaa.Eng
open Go Go.RowKit
set_option maxRecDepth 100000
def s_InSpan : Spec := fun args S => match args, S with
  | [.agg [.int .i64 p, .int .i64 q, .int .i64 p', .int .i64 q'], .agg [.int .i64 r, .int .i64 s]], [] => ⟨True, .tup [.bool (spOk p q p' q' && fOk r s && decide (p * s ≤ r * q) && decide (r * q' ≤ p' * s)), .int .i64 (if (spOk p q p' q' && fOk r s) = true then 0 else 1)], []⟩
  | _, _ => noSpec
theorem ok_InSpan : SpecOk Try.prog 14 s_InSpan := by
  intro args S h; unfold s_InSpan at h ⊢; (split at h <;> first | exact False.elim h | skip)
  dsimp only at h ⊢
  rename_i p q p' q' r s
  have hc1 := cmpF_le (p := p) (q := q) (p' := r) (q' := s)
  have hc2 := cmpF_le (p := r) (q := s) (p' := p') (q' := q')
  have h1 : spOk p q p' q' = true → smF p q ∧ smF p' q' := fun h => ⟨smF_ok (spOk_iff.1 h).1, smF_ok (spOk_iff.1 h).2.1⟩
  refine funW tabOk (E := [(36, s_vSpan), (37, s_fOk), (38, s_cmp)]) ⟨ok_ValidSpan, ok_ValidFrac, ok_compare, trivial⟩ [] (k := 0) (fn := Try.f14) rfl rfl rfl rfl rfl rfl ?_
  (repeat' ((try (conv => whnf)); first | (with_reducible first | refine And.intro ?_ ?_ | refine WX.of ?_) | exact zc | ((with_reducible refine VC.mk ?_); exact zw) | (with_reducible first | refine splitT ?_ | refine splitF ?_) | ((with_reducible refine splitM.mk (fun hsm => ?_) (fun hsm => ?_)) <;> (try exact zx)) | ((with_reducible refine splitB.mk (fun h => ?_) (fun h => ?_)) <;> (try simp only [zs, ne_eq] at h) <;> (try simp (disch := omega) only [w64] at h) <;> (try exact zx)) | (with_reducible intro hz; (try exact absurd hz (Nat.succ_ne_zero _)))))
  · exact ⟨by simp [h]⟩
  · exact ⟨by simp [h]⟩
  · rename_i hs
    exact ⟨⟨(h1 hs).1, smF_ok h⟩⟩
  · rename_i hs hf
    exact ⟨⟨smF_ok hf, (h1 hs).2⟩⟩
  · rename_i hs hf
    exact ⟨by simp only [hs, hf, hc2, show decide (p * s ≤ r * q) = true from decide_eq_true (hc1.1 h), Bool.and_self, Bool.true_and, if_true]⟩
  · rename_i hs hf
    exact ⟨by simp only [hs, hf, show decide (p * s ≤ r * q) = false from decide_eq_false (fun z => by have := hc1.2 z; omega), Bool.and_self, Bool.and_false, Bool.false_and, if_true]⟩
end Go.Proofs.Ytbmejhabgoimeaa.Eng
set_option linter.unusedVariables false
set_option linter.unusedSimpArgs false
namespace Go.Proofs.Ytbmejhabgoimeaa.Eng
open Go Go.RowKit
set_option maxRecDepth 100000
end Go.Proofs.Ytbmejhabgoimeaa.Eng
set_option linter.unusedVariables false
set_option linter.unusedSimpArgs false
namespace Go.Proofs.Ytbmejhabgoimeaa.Eng
open Go Go.RowKit
set_option maxRecDepth 100000
/-- A contract whose answer is known, and that leaves the rows alone. -/
def pin (s : Spec) (v : SV) : Spec := fun args S => ⟨(s args S).pre ∧ (s args S).v = v ∧ (s args S).S = S, v, S⟩
theorem ok_pin {P : Program} {f : FuncId} {s : Spec} (h : SpecOk P f s) (v : SV) : SpecOk P f (pin s v) := fun args S hp => by
  have h2 := h args S hp.1
  rw [hp.2.1, hp.2.2] at h2
  exact h2
end Go.Proofs.Ytbmejhabgoimeaa.Eng
set_option linter.unusedVariables false
set_option linter.unusedSimpArgs false
namespace Go.Proofs.Ytbmejhabgoimeaa.Eng
open Go Go.RowKit
set_option maxRecDepth 100000
theorem in_ok {a b L : FrT} (ha : fOk a.1 a.2 = true) (hb : fOk b.1 b.2 = true) (hL : fOk L.1 L.2 = true) (h1 : rv a ≤ rv L) (h2 : rv L ≤ rv b) : (spOk a.1 a.2 b.1 b.2 && fOk L.1 L.2 && decide (a.1 * L.2 ≤ L.1 * a.2) && decide (L.1 * b.2 ≤ b.1 * L.2)) = true ∧ (spOk a.1 a.2 b.1 b.2 && fOk L.1 L.2) = true := by
  have hqa := fOk_q ha
  have hqb := fOk_q hb
  have hqL := fOk_q hL
  have e0 : spOk a.1 a.2 b.1 b.2 = true := spOk_iff.2 ⟨ha, hb, (rv_le hqa hqb).1 (Rat.le_trans h1 h2)⟩
  rw [e0, hL, decide_eq_true ((rv_le hqa hqL).1 h1), decide_eq_true ((rv_le hqL hqb).1 h2)]
  exact ⟨rfl, rfl⟩
theorem bd_ok {α β : Type} {e : EX α} {f : α → EX β} {b : β} (h : e.bind f = .ok b) : ∃ a, e = .ok a ∧ f a = .ok b := by
  cases e with
  | error c => cases h
  | ok a => exact ⟨a, rfl, h⟩
theorem ta_1 {u : FrT} {E : List FrT} {vp : Int} {vb : Bool} {g : FrT} {T : List ThT} {c : ShT} {r : RpT} (h : taE u E vp vb g T c = .ok r) : r.1 = c := by
  unfold taE at h
  obtain ⟨a, _, h⟩ := bd_ok h
  obtain ⟨b, _, h⟩ := bd_ok h
  obtain ⟨d, _, h⟩ := bd_ok h
  cases h; rfl
set_option maxHeartbeats 3200000 in
theorem law_everyReport {y1 : Int × Int} (ho1 : ET.Ok (.prod (.int .i64) (.int .i64)) y1) {c2 : Bool} {n2 : Nat} {l2 : List (Int × Int)} (hn2 : n2 ≤ l2.length) (hc2 : c2 = true → l2 = []) (ho2 : ∀ y ∈ l2, ET.Ok (.prod (.int .i64) (.int .i64)) y) (hz2 : l2.length ≤ 9223372036854775807) {y3 : Int × Bool} (ho3 : ET.Ok (.prod (.int .i64) .bool) y3) {y4 : Int × Int} (ho4 : ET.Ok (.prod (.int .i64) (.int .i64)) y4) {c5 : Bool} {n5 : Nat} {l5 : List ThT} (hn5 : n5 ≤ l5.length) (hc5 : c5 = true → l5 = []) (ho5 : ∀ y ∈ l5, ET.Ok (.prod .str (.prod (.prod (.int .i64) (.int .i64)) (.prod (.int .i64) (.int .i64)))) y) (hz5 : l5.length ≤ 9223372036854775807) {y6 : Int × (Int × Int) × (Int × Int)} (ho6 : ET.Ok (.prod (.int .i64) (.prod (.prod (.int .i64) (.int .i64)) (.prod (.int .i64) (.int .i64)))) y6) : RunsS Try.prog 4 [.agg [.int .i64 y1.1, .int .i64 y1.2, .opt c2 0 n2 0, .int .i64 y3.1, .bool y3.2, .int .i64 y4.1, .int .i64 y4.2, .opt c5 1 n5 0], .agg (ET.enc (.prod (.int .i64) (.prod (.prod (.int .i64) (.int .i64)) (.prod (.int .i64) (.int .i64)))) y6)] [.arrO (.prod (.int .i64) (.int .i64)) l2 2, .arrO (.prod .str (.prod (.prod (.int .i64) (.int .i64)) (.prod (.int .i64) (.int .i64)))) l5 5] (.bool true) [.arrO (.prod (.int .i64) (.int .i64)) l2 2, .arrO (.prod .str (.prod (.prod (.int .i64) (.int .i64)) (.prod (.int .i64) (.int .i64)))) l5 5] := by
  have hL : (seg l2 0 n2).length = n2 := seg_len (by omega)
  have hM : (seg l5 0 n5).length = n5 := seg_len (by omega)
  have hb5 : ∀ (j : Nat) (a : ThT), l5[j]? = some a → a.1.length < 9223372036854775808 := fun j a ha => by have h9 : a.1.length ≤ 9223372036854775807 := (ho5 a (List.mem_of_getElem? ha)).1; exact Nat.lt_of_le_of_lt h9 (by decide)
  obtain ⟨i, ⟨wp, wq⟩, sp, sq⟩ := y6
  refine RunsS.optG (A := fun u => [.agg [.int .i64 y1.1, .int .i64 y1.2, u, .int .i64 y3.1, .bool y3.2, .int .i64 y4.1, .int .i64 y4.2, .opt c5 1 n5 0], .agg [.int .i64 i, .int .i64 wp, .int .i64 wq, .int .i64 sp, .int .i64 sq]]) (b := 0) (fun ρ args' h => h.ing (k := 2) rfl) rfl rfl (by omega) (fun _ _ _ => ?_) (fun _ _ _ => ?_) ?_ hc2
  · refine RunsS.optG (A := fun u => [.agg [.int .i64 y1.1, .int .i64 y1.2, .nils, .int .i64 y3.1, .bool y3.2, .int .i64 y4.1, .int .i64 y4.2, u], .agg [.int .i64 i, .int .i64 wp, .int .i64 wq, .int .i64 sp, .int .i64 sq]]) (b := 1) (fun ρ args' h => h.ing (k := 7) rfl) rfl rfl (by omega) (fun _ _ _ => ?_) (fun _ _ _ => ?_) ?_ hc5
    · show RunsS _ _ [.agg [.int .i64 y1.1, .int .i64 y1.2, .nils, .int .i64 y3.1, .bool y3.2, .int .i64 y4.1, .int .i64 y4.2, .nils], .agg [.int .i64 i, .int .i64 wp, .int .i64 wq, .int .i64 sp, .int .i64 sq]] [.gone, .gone] _ [.gone, .gone]
      refine funW tabOk (E := [(12, s_trNN), (13, s_trNN)]) ⟨ok_trNNI, ok_trNNS, trivial⟩ [] (k := 2) (fn := Try.f4) rfl rfl rfl rfl rfl rfl ?_
      (repeat' ((try (conv => whnf)); first | (with_reducible first | refine And.intro ?_ ?_ | refine WX.of ?_) | exact zc | ((with_reducible refine VC.mk ?_); exact zw) | ((with_reducible refine VC.mk ?_); exact trivial) | (with_reducible first | refine splitT ?_ | refine splitF ?_) | ((with_reducible refine splitM.mk (fun hsm => ?_) (fun hsm => ?_)) <;> (try exact zx)) | ((with_reducible refine splitB.mk (fun h => ?_) (fun h => ?_)) <;> (try simp only [zs, ne_eq] at h) <;> (try simp (disch := omega) only [w64] at h) <;> (try exact zx)) | (with_reducible intro hz; (try exact absurd hz (Nat.succ_ne_zero _)))))
      all_goals (exfalso; simp at h; done)
    · show RunsS _ _ [.agg [.int .i64 y1.1, .int .i64 y1.2, .nils, .int .i64 y3.1, .bool y3.2, .int .i64 y4.1, .int .i64 y4.2, .sl 1 0 0 0], .agg [.int .i64 i, .int .i64 wp, .int .i64 wq, .int .i64 sp, .int .i64 sq]] [.gone, .gone] _ [.gone, .gone]
      refine funW tabOk (E := [(12, s_trNG), (13, s_trNG)]) ⟨ok_trNGI, ok_trNGS, trivial⟩ [] (k := 2) (fn := Try.f4) rfl rfl rfl rfl rfl rfl ?_
      (repeat' ((try (conv => whnf)); first | (with_reducible first | refine And.intro ?_ ?_ | refine WX.of ?_) | exact zc | ((with_reducible refine VC.mk ?_); exact zw) | ((with_reducible refine VC.mk ?_); exact trivial) | (with_reducible first | refine splitT ?_ | refine splitF ?_) | ((with_reducible refine splitM.mk (fun hsm => ?_) (fun hsm => ?_)) <;> (try exact zx)) | ((with_reducible refine splitB.mk (fun h => ?_) (fun h => ?_)) <;> (try simp only [zs, ne_eq] at h) <;> (try simp (disch := omega) only [w64] at h) <;> (try exact zx)) | (with_reducible intro hz; (try exact absurd hz (Nat.succ_ne_zero _)))))
      all_goals (exfalso; simp at h; done)
    · show RunsS _ _ [.agg [.int .i64 y1.1, .int .i64 y1.2, .nils, .int .i64 y3.1, .bool y3.2, .int .i64 y4.1, .int .i64 y4.2, .sl 1 0 n5 0], .agg [.int .i64 i, .int .i64 wp, .int .i64 wq, .int .i64 sp, .int .i64 sq]] [.gone, .arr (.prod .str (.prod (.prod (.int .i64) (.int .i64)) (.prod (.int .i64) (.int .i64)))) l5 5 false] _ [.gone, .arr (.prod .str (.prod (.prod (.int .i64) (.int .i64)) (.prod (.int .i64) (.int .i64)))) l5 5 false]
      refine funW tabOk (E := [(12, s_trNR), (13, s_trNR)]) ⟨ok_trNRI, ok_trNRS, trivial⟩ [] (k := 2) (fn := Try.f4) rfl rfl rfl rfl rfl rfl ?_
      (repeat' ((try (conv => whnf)); first | (with_reducible first | refine And.intro ?_ ?_ | refine WX.of ?_) | exact zc | ((with_reducible refine VC.mk ?_); exact zw) | ((with_reducible refine VC.mk ?_); exact ⟨⟨by omega, by omega⟩, hb5⟩) | (with_reducible first | refine splitT ?_ | refine splitF ?_) | ((with_reducible refine splitM.mk (fun hsm => ?_) (fun hsm => ?_)) <;> (try exact zx)) | ((with_reducible refine splitB.mk (fun h => ?_) (fun h => ?_)) <;> (try simp only [zs, ne_eq] at h) <;> (try simp (disch := omega) only [w64] at h) <;> (try exact zx)) | (with_reducible intro hz; (try exact absurd hz (Nat.succ_ne_zero _)))))
      all_goals (exfalso; simp at h; done)
  · refine RunsS.optG (A := fun u => [.agg [.int .i64 y1.1, .int .i64 y1.2, .sl 0 0 0 0, .int .i64 y3.1, .bool y3.2, .int .i64 y4.1, .int .i64 y4.2, u], .agg [.int .i64 i, .int .i64 wp, .int .i64 wq, .int .i64 sp, .int .i64 sq]]) (b := 1) (fun ρ args' h => h.ing (k := 7) rfl) rfl rfl (by omega) (fun _ _ _ => ?_) (fun _ _ _ => ?_) ?_ hc5
    · show RunsS _ _ [.agg [.int .i64 y1.1, .int .i64 y1.2, .sl 0 0 0 0, .int .i64 y3.1, .bool y3.2, .int .i64 y4.1, .int .i64 y4.2, .nils], .agg [.int .i64 i, .int .i64 wp, .int .i64 wq, .int .i64 sp, .int .i64 sq]] [.gone, .gone] _ [.gone, .gone]
      refine funW tabOk (E := [(12, s_trGN), (13, s_trGN)]) ⟨ok_trGNI, ok_trGNS, trivial⟩ [] (k := 2) (fn := Try.f4) rfl rfl rfl rfl rfl rfl ?_
      (repeat' ((try (conv => whnf)); first | (with_reducible first | refine And.intro ?_ ?_ | refine WX.of ?_) | exact zc | ((with_reducible refine VC.mk ?_); exact zw) | ((with_reducible refine VC.mk ?_); exact trivial) | (with_reducible first | refine splitT ?_ | refine splitF ?_) | ((with_reducible refine splitM.mk (fun hsm => ?_) (fun hsm => ?_)) <;> (try exact zx)) | ((with_reducible refine splitB.mk (fun h => ?_) (fun h => ?_)) <;> (try simp only [zs, ne_eq] at h) <;> (try simp (disch := omega) only [w64] at h) <;> (try exact zx)) | (with_reducible intro hz; (try exact absurd hz (Nat.succ_ne_zero _)))))
      all_goals (exfalso; simp at h; done)
    · show RunsS _ _ [.agg [.int .i64 y1.1, .int .i64 y1.2, .sl 0 0 0 0, .int .i64 y3.1, .bool y3.2, .int .i64 y4.1, .int .i64 y4.2, .sl 1 0 0 0], .agg [.int .i64 i, .int .i64 wp, .int .i64 wq, .int .i64 sp, .int .i64 sq]] [.gone, .gone] _ [.gone, .gone]
      refine funW tabOk (E := [(12, s_trGG), (13, s_trGG)]) ⟨ok_trGGI, ok_trGGS, trivial⟩ [] (k := 2) (fn := Try.f4) rfl rfl rfl rfl rfl rfl ?_
      (repeat' ((try (conv => whnf)); first | (with_reducible first | refine And.intro ?_ ?_ | refine WX.of ?_) | exact zc | ((with_reducible refine VC.mk ?_); exact zw) | ((with_reducible refine VC.mk ?_); exact trivial) | (with_reducible first | refine splitT ?_ | refine splitF ?_) | ((with_reducible refine splitM.mk (fun hsm => ?_) (fun hsm => ?_)) <;> (try exact zx)) | ((with_reducible refine splitB.mk (fun h => ?_) (fun h => ?_)) <;> (try simp only [zs, ne_eq] at h) <;> (try simp (disch := omega) only [w64] at h) <;> (try exact zx)) | (with_reducible intro hz; (try exact absurd hz (Nat.succ_ne_zero _)))))
      all_goals (exfalso; simp at h; done)
    · show RunsS _ _ [.agg [.int .i64 y1.1, .int .i64 y1.2, .sl 0 0 0 0, .int .i64 y3.1, .bool y3.2, .int .i64 y4.1, .int .i64 y4.2, .sl 1 0 n5 0], .agg [.int .i64 i, .int .i64 wp, .int .i64 wq, .int .i64 sp, .int .i64 sq]] [.gone, .arr (.prod .str (.prod (.prod (.int .i64) (.int .i64)) (.prod (.int .i64) (.int .i64)))) l5 5 false] _ [.gone, .arr (.prod .str (.prod (.prod (.int .i64) (.int .i64)) (.prod (.int .i64) (.int .i64)))) l5 5 false]
      refine funW tabOk (E := [(12, s_trGR), (13, s_trGR)]) ⟨ok_trGRI, ok_trGRS, trivial⟩ [] (k := 2) (fn := Try.f4) rfl rfl rfl rfl rfl rfl ?_
      (repeat' ((try (conv => whnf)); first | (with_reducible first | refine And.intro ?_ ?_ | refine WX.of ?_) | exact zc | ((with_reducible refine VC.mk ?_); exact zw) | ((with_reducible refine VC.mk ?_); exact ⟨⟨by omega, by omega⟩, hb5⟩) | (with_reducible first | refine splitT ?_ | refine splitF ?_) | ((with_reducible refine splitM.mk (fun hsm => ?_) (fun hsm => ?_)) <;> (try exact zx)) | ((with_reducible refine splitB.mk (fun h => ?_) (fun h => ?_)) <;> (try simp only [zs, ne_eq] at h) <;> (try simp (disch := omega) only [w64] at h) <;> (try exact zx)) | (with_reducible intro hz; (try exact absurd hz (Nat.succ_ne_zero _)))))
      all_goals (exfalso; simp at h; done)
  · refine RunsS.optG (A := fun u => [.agg [.int .i64 y1.1, .int .i64 y1.2, .sl 0 0 n2 0, .int .i64 y3.1, .bool y3.2, .int .i64 y4.1, .int .i64 y4.2, u], .agg [.int .i64 i, .int .i64 wp, .int .i64 wq, .int .i64 sp, .int .i64 sq]]) (b := 1) (fun ρ args' h => h.ing (k := 7) rfl) rfl rfl (by omega) (fun _ _ _ => ?_) (fun _ _ _ => ?_) ?_ hc5
    · show RunsS _ _ [.agg [.int .i64 y1.1, .int .i64 y1.2, .sl 0 0 n2 0, .int .i64 y3.1, .bool y3.2, .int .i64 y4.1, .int .i64 y4.2, .nils], .agg [.int .i64 i, .int .i64 wp, .int .i64 wq, .int .i64 sp, .int .i64 sq]] [.arr (.prod (.int .i64) (.int .i64)) l2 2 false, .gone] _ [.arr (.prod (.int .i64) (.int .i64)) l2 2 false, .gone]
      refine funW tabOk (E := [(12, s_trRN), (13, s_trRN)]) ⟨ok_trRNI, ok_trRNS, trivial⟩ [] (k := 2) (fn := Try.f4) rfl rfl rfl rfl rfl rfl ?_
      (repeat' ((try (conv => whnf)); first | (with_reducible first | refine And.intro ?_ ?_ | refine WX.of ?_) | exact zc | ((with_reducible refine VC.mk ?_); exact zw) | ((with_reducible refine VC.mk ?_); exact ⟨by omega, by omega⟩) | (with_reducible first | refine splitT ?_ | refine splitF ?_) | ((with_reducible refine splitM.mk (fun hsm => ?_) (fun hsm => ?_)) <;> (try exact zx)) | ((with_reducible refine splitB.mk (fun h => ?_) (fun h => ?_)) <;> (try simp only [zs, ne_eq] at h) <;> (try simp (disch := omega) only [w64] at h) <;> (try exact zx)) | (with_reducible intro hz; (try exact absurd hz (Nat.succ_ne_zero _)))))
      all_goals (exfalso; simp at h; done)
    · show RunsS _ _ [.agg [.int .i64 y1.1, .int .i64 y1.2, .sl 0 0 n2 0, .int .i64 y3.1, .bool y3.2, .int .i64 y4.1, .int .i64 y4.2, .sl 1 0 0 0], .agg [.int .i64 i, .int .i64 wp, .int .i64 wq, .int .i64 sp, .int .i64 sq]] [.arr (.prod (.int .i64) (.int .i64)) l2 2 false, .gone] _ [.arr (.prod (.int .i64) (.int .i64)) l2 2 false, .gone]
      refine funW tabOk (E := [(12, s_trRG), (13, s_trRG)]) ⟨ok_trRGI, ok_trRGS, trivial⟩ [] (k := 2) (fn := Try.f4) rfl rfl rfl rfl rfl rfl ?_
      (repeat' ((try (conv => whnf)); first | (with_reducible first | refine And.intro ?_ ?_ | refine WX.of ?_) | exact zc | ((with_reducible refine VC.mk ?_); exact zw) | ((with_reducible refine VC.mk ?_); exact ⟨by omega, by omega⟩) | (with_reducible first | refine splitT ?_ | refine splitF ?_) | ((with_reducible refine splitM.mk (fun hsm => ?_) (fun hsm => ?_)) <;> (try exact zx)) | ((with_reducible refine splitB.mk (fun h => ?_) (fun h => ?_)) <;> (try simp only [zs, ne_eq] at h) <;> (try simp (disch := omega) only [w64] at h) <;> (try exact zx)) | (with_reducible intro hz; (try exact absurd hz (Nat.succ_ne_zero _)))))
      all_goals (exfalso; simp at h; done)
    · show RunsS _ _ [.agg [.int .i64 y1.1, .int .i64 y1.2, .sl 0 0 n2 0, .int .i64 y3.1, .bool y3.2, .int .i64 y4.1, .int .i64 y4.2, .sl 1 0 n5 0], .agg [.int .i64 i, .int .i64 wp, .int .i64 wq, .int .i64 sp, .int .i64 sq]] [.arr (.prod (.int .i64) (.int .i64)) l2 2 false, .arr (.prod .str (.prod (.prod (.int .i64) (.int .i64)) (.prod (.int .i64) (.int .i64)))) l5 5 false] _ [.arr (.prod (.int .i64) (.int .i64)) l2 2 false, .arr (.prod .str (.prod (.prod (.int .i64) (.int .i64)) (.prod (.int .i64) (.int .i64)))) l5 5 false]
      by_cases hbig : n2 ≤ 1048576 ∧ n5 ≤ 1048576
      rotate_left 1
      · refine funW tabOk (E := [(12, s_trRR), (13, s_trRR)]) ⟨ok_trRRI, ok_trRRS, trivial⟩ [] (k := 2) (fn := Try.f4) rfl rfl rfl rfl rfl rfl ?_
        (repeat' ((try (conv => whnf)); first | (with_reducible first | refine And.intro ?_ ?_ | refine WX.of ?_) | exact zc | ((with_reducible refine VC.mk ?_); exact zw) | ((with_reducible refine VC.mk ?_); exact ⟨⟨by omega, by omega⟩, ⟨by omega, by omega⟩, hb5, by omega⟩) | (with_reducible first | refine splitT ?_ | refine splitF ?_) | ((with_reducible refine splitM.mk (fun hsm => ?_) (fun hsm => ?_)) <;> (try exact zx)) | ((with_reducible refine splitB.mk (fun h => ?_) (fun h => ?_)) <;> (try simp only [zs, ne_eq] at h) <;> (try simp (disch := omega) only [w64] at h) <;> (try exact zx)) | (with_reducible intro hz; (try exact absurd hz (Nat.succ_ne_zero _)))))
        all_goals (exfalso; simp at h; done)
      have hq : (0 + n2 ≤ l2.length ∧ n2 ≤ 1048576) ∧ (0 + n5 ≤ l5.length ∧ n5 ≤ 1048576) ∧ ∀ (j : Nat) (a : ThT), l5[j]? = some a → a.1.length < 9223372036854775808 := ⟨⟨by omega, hbig.1⟩, ⟨by omega, hbig.2⟩, hb5⟩
      cases hk : (bnB y1.1 y1.2 y3.1 y4.1 y4.2 (seg l2 0 n2) (seg l5 0 n5) && shB n5 (i, (wp, wq), sp, sq)) with
      | false =>
        have hE : tkE (bnB y1.1 y1.2 y3.1 y4.1 y4.2 (seg l2 0 n2) (seg l5 0 n5) && shB n5 (i, (wp, wq), sp, sq)) (y1.1, y1.2) (seg l2 0 n2) y3.1 y3.2 (y4.1, y4.2) (seg l5 0 n5) (i, (wp, wq), sp, sq) = .error 1 := by unfold tkE; rw [hk]; rfl
        have hR : (s_take [.agg [.int .i64 y1.1, .int .i64 y1.2, .sl 0 0 n2 0, .int .i64 y3.1, .bool y3.2, .int .i64 y4.1, .int .i64 y4.2, .sl 1 0 n5 0], .agg [.int .i64 i, .int .i64 wp, .int .i64 wq, .int .i64 sp, .int .i64 sq]] [.arr (.prod (.int .i64) (.int .i64)) l2 2 false, .arr (.prod .str (.prod (.prod (.int .i64) (.int .i64)) (.prod (.int .i64) (.int .i64)))) l5 5 false]).v = .tup [.agg [.int .i64 0, .int .i64 0, .int .i64 0, .int .i64 0, .int .i64 0, .int .i64 0, .int .i64 0, .int .i64 0, .int .i64 0, .int .i64 0, .int .i64 0, .int .i64 0, .int .i64 0, .int .i64 0, .int .i64 0], .int .i64 1] := by simp only [s_take, hE, tkV, eV, eC]; rfl
        refine funW tabOk (E := [(12, (pin s_take (.tup [.agg [.int .i64 0, .int .i64 0, .int .i64 0, .int .i64 0, .int .i64 0, .int .i64 0, .int .i64 0, .int .i64 0, .int .i64 0, .int .i64 0, .int .i64 0, .int .i64 0, .int .i64 0, .int .i64 0, .int .i64 0], .int .i64 1]))), (13, (pin s_take (.tup [.agg [.int .i64 0, .int .i64 0, .int .i64 0, .int .i64 0, .int .i64 0, .int .i64 0, .int .i64 0, .int .i64 0, .int .i64 0, .int .i64 0, .int .i64 0, .int .i64 0, .int .i64 0, .int .i64 0, .int .i64 0], .int .i64 1]))), (14, s_InSpan)]) ⟨(ok_pin ok_TakeReportI _), (ok_pin ok_TakeReportS _), ok_InSpan, trivial⟩ [] (k := 2) (fn := Try.f4) rfl rfl rfl rfl rfl rfl ?_
        (repeat' ((try (conv => whnf)); first | (with_reducible first | refine And.intro ?_ ?_ | refine WX.of ?_) | exact zc | ((with_reducible refine VC.mk ?_); exact zw) | ((with_reducible refine VC.mk ?_); exact ⟨hq, hR, rfl⟩) | (with_reducible first | refine splitT ?_ | refine splitF ?_) | ((with_reducible refine splitM.mk (fun hsm => ?_) (fun hsm => ?_)) <;> (try exact zx)) | ((with_reducible refine splitB.mk (fun h => ?_) (fun h => ?_)) <;> (try simp only [zs, ne_eq] at h) <;> (try simp (disch := omega) only [w64] at h) <;> (try exact zx)) | (with_reducible intro hz; (try exact absurd hz (Nat.succ_ne_zero _)))))
        all_goals (exfalso; simp at h; done)
      | true =>
        cases hT : taE (y1.1, y1.2) (seg l2 0 n2) y3.1 y3.2 (y4.1, y4.2) (seg l5 0 n5) (i, (wp, wq), sp, sq) with
        | error k =>
          have hE : tkE (bnB y1.1 y1.2 y3.1 y4.1 y4.2 (seg l2 0 n2) (seg l5 0 n5) && shB n5 (i, (wp, wq), sp, sq)) (y1.1, y1.2) (seg l2 0 n2) y3.1 y3.2 (y4.1, y4.2) (seg l5 0 n5) (i, (wp, wq), sp, sq) = .error k := by unfold tkE; rw [hk]; exact hT
          have hR : (s_take [.agg [.int .i64 y1.1, .int .i64 y1.2, .sl 0 0 n2 0, .int .i64 y3.1, .bool y3.2, .int .i64 y4.1, .int .i64 y4.2, .sl 1 0 n5 0], .agg [.int .i64 i, .int .i64 wp, .int .i64 wq, .int .i64 sp, .int .i64 sq]] [.arr (.prod (.int .i64) (.int .i64)) l2 2 false, .arr (.prod .str (.prod (.prod (.int .i64) (.int .i64)) (.prod (.int .i64) (.int .i64)))) l5 5 false]).v = .tup [.agg [.int .i64 0, .int .i64 0, .int .i64 0, .int .i64 0, .int .i64 0, .int .i64 0, .int .i64 0, .int .i64 0, .int .i64 0, .int .i64 0, .int .i64 0, .int .i64 0, .int .i64 0, .int .i64 0, .int .i64 0], .int .i64 k] := by simp only [s_take, hE, tkV, eV, eC]; rfl
          have hk1 : ¬ k = 0 := enz_take _ hE
          have hk0 : decide (k = 0) = false := decide_eq_false hk1
          refine funW tabOk (E := [(12, (pin s_take (.tup [.agg [.int .i64 0, .int .i64 0, .int .i64 0, .int .i64 0, .int .i64 0, .int .i64 0, .int .i64 0, .int .i64 0, .int .i64 0, .int .i64 0, .int .i64 0, .int .i64 0, .int .i64 0, .int .i64 0, .int .i64 0], .int .i64 k]))), (13, (pin s_take (.tup [.agg [.int .i64 0, .int .i64 0, .int .i64 0, .int .i64 0, .int .i64 0, .int .i64 0, .int .i64 0, .int .i64 0, .int .i64 0, .int .i64 0, .int .i64 0, .int .i64 0, .int .i64 0, .int .i64 0, .int .i64 0], .int .i64 k]))), (14, s_InSpan)]) ⟨(ok_pin ok_TakeReportI _), (ok_pin ok_TakeReportS _), ok_InSpan, trivial⟩ [] (k := 2) (fn := Try.f4) rfl rfl rfl rfl rfl rfl ?_
          (repeat' ((try (conv => whnf)); first | (with_reducible first | refine And.intro ?_ ?_ | refine WX.of ?_) | exact zc | ((with_reducible refine VC.mk ?_); exact zw) | ((with_reducible refine splitT_of ?_ ?_); (focus (simp only [hk0, Bool.not_true, Bool.not_false, decide_true, decide_false]; done))) | ((with_reducible refine splitF_of ?_ ?_); (focus (simp only [hk0, Bool.not_true, Bool.not_false, decide_true, decide_false]; done))) | ((with_reducible refine VC.mk ?_); exact ⟨hq, hR, rfl⟩) | (with_reducible first | refine splitT ?_ | refine splitF ?_) | ((with_reducible refine splitM.mk (fun hsm => ?_) (fun hsm => ?_)) <;> (try exact zx)) | ((with_reducible refine splitB.mk (fun h => ?_) (fun h => ?_)) <;> (try simp only [zs, ne_eq] at h) <;> (try simp (disch := omega) only [w64] at h) <;> (try exact zx)) | (with_reducible intro hz; (try exact absurd hz (Nat.succ_ne_zero _)))))
          all_goals (exfalso; first | exact hk1 h | (simp at h; done) | (simp_all; done))
        | ok r =>
          have hE : tkE (bnB y1.1 y1.2 y3.1 y4.1 y4.2 (seg l2 0 n2) (seg l5 0 n5) && shB n5 (i, (wp, wq), sp, sq)) (y1.1, y1.2) (seg l2 0 n2) y3.1 y3.2 (y4.1, y4.2) (seg l5 0 n5) (i, (wp, wq), sp, sq) = .ok r := by unfold tkE; rw [hk]; exact hT
          obtain ⟨hb, hs⟩ := (Bool.and_eq_true _ _).mp hk
          have hs2 : shB (seg l5 0 n5).length (i, (wp, wq), sp, sq) = true := by rw [hM]; exact hs
          have hin := ta_in hb hs2 hT
          have hr1 := ta_1 hT
          have hac := acc_sp (r := r) hb (by unfold accB; rw [hr1, show tkE (shB (seg l5 0 n5).length (i, (wp, wq), sp, sq)) (y1.1, y1.2) (seg l2 0 n2) y3.1 y3.2 (y4.1, y4.2) (seg l5 0 n5) (i, (wp, wq), sp, sq) = .ok r from by unfold tkE; rw [hs2]; exact hT]; exact decide_eq_true rfl)
          obtain ⟨⟨i0, ⟨wp0, wq0⟩, sp0, sq0⟩, ⟨fp, fq⟩, ⟨kp, kq⟩, ⟨lp, lq⟩, ⟨ap, aq⟩, zp, zq⟩ := r
          have hix : 0 ≤ i ∧ i ≤ (n5 : Int) - 1 := by unfold shB at hs; simp only [Bool.and_eq_true, decide_eq_true_eq] at hs; exact hs.1.1.1
          obtain ⟨⟨nm, ⟨lp0, lq0⟩, g1, g2⟩, ha⟩ := get_some (l := seg l5 0 n5) (i := i.toNat) (by omega)
          have hth : thB (seg l5 0 n5) i.toNat (nm, (lp0, lq0), g1, g2) = true := by
            have hb2 := hb
            unfold bnB at hb2; simp only [Bool.and_eq_true] at hb2; exact allI_at hb2.2 ha
          have hLf : fOk lp0 lq0 = true := by
            unfold thB at hth; simp only [Bool.and_eq_true] at hth
            have hwi := hth.2.1
            unfold wiB at hwi; simp only [Bool.and_eq_true] at hwi
            first | exact hwi.1.1 | exact hwi.1
          have hth2 : thAt (seg l5 0 n5) (i, (wp, wq), sp, sq) = (nm, (lp0, lq0), g1, g2) := by unfold thAt; rw [ha]; rfl
          rw [hth2] at hin
          dsimp only at hin hac
          obtain ⟨s1, s2, _⟩ := spOk_iff.1 (show spOk ap aq zp zq = true from hac.1)
          have hfin := in_ok (a := (ap, aq)) (b := (zp, zq)) (L := (lp0, lq0)) s1 s2 hLf hin.1 hin.2
          dsimp only at hfin
          have hf1 := hfin.1
          have hf2 := hfin.2
          have hR : (s_take [.agg [.int .i64 y1.1, .int .i64 y1.2, .sl 0 0 n2 0, .int .i64 y3.1, .bool y3.2, .int .i64 y4.1, .int .i64 y4.2, .sl 1 0 n5 0], .agg [.int .i64 i, .int .i64 wp, .int .i64 wq, .int .i64 sp, .int .i64 sq]] [.arr (.prod (.int .i64) (.int .i64)) l2 2 false, .arr (.prod .str (.prod (.prod (.int .i64) (.int .i64)) (.prod (.int .i64) (.int .i64)))) l5 5 false]).v = .tup [.agg [.int .i64 i0, .int .i64 wp0, .int .i64 wq0, .int .i64 sp0, .int .i64 sq0, .int .i64 fp, .int .i64 fq, .int .i64 kp, .int .i64 kq, .int .i64 lp, .int .i64 lq, .int .i64 ap, .int .i64 aq, .int .i64 zp, .int .i64 zq], .int .i64 0] := by simp only [s_take, hE, tkV, eV, eC]
          refine funW tabOk (E := [(12, (pin s_take (.tup [.agg [.int .i64 i0, .int .i64 wp0, .int .i64 wq0, .int .i64 sp0, .int .i64 sq0, .int .i64 fp, .int .i64 fq, .int .i64 kp, .int .i64 kq, .int .i64 lp, .int .i64 lq, .int .i64 ap, .int .i64 aq, .int .i64 zp, .int .i64 zq], .int .i64 0]))), (13, (pin s_take (.tup [.agg [.int .i64 i0, .int .i64 wp0, .int .i64 wq0, .int .i64 sp0, .int .i64 sq0, .int .i64 fp, .int .i64 fq, .int .i64 kp, .int .i64 kq, .int .i64 lp, .int .i64 lq, .int .i64 ap, .int .i64 aq, .int .i64 zp, .int .i64 zq], .int .i64 0]))), (14, s_InSpan)]) ⟨(ok_pin ok_TakeReportI _), (ok_pin ok_TakeReportS _), ok_InSpan, trivial⟩ [] (k := 2) (fn := Try.f4) rfl rfl rfl rfl rfl rfl ?_
          (repeat' ((try (conv => whnf)); first | (with_reducible first | refine And.intro ?_ ?_ | refine WX.of ?_) | exact zc | ((with_reducible refine VC.mk ?_); exact zw) | refine atL_p (seg_get ha).1 ?_ | ((with_reducible refine splitT_of ?_ ?_); (focus (simp only [hf1, hf2, Bool.not_true, Bool.not_false, decide_true, decide_false]; done))) | ((with_reducible refine splitF_of ?_ ?_); (focus (simp only [hf1, hf2, Bool.not_true, Bool.not_false, decide_true, decide_false]; done))) | ((with_reducible refine VC.mk ?_); exact ⟨hq, hR, rfl⟩) | ((with_reducible refine VC.mk ?_); exact ⟨hix.1, by have := hix.2; show i < (n5 : Int); omega⟩) | (with_reducible first | refine splitT ?_ | refine splitF ?_) | ((with_reducible refine splitM.mk (fun hsm => ?_) (fun hsm => ?_)) <;> (try exact zx)) | ((with_reducible refine splitB.mk (fun h => ?_) (fun h => ?_)) <;> (try simp only [zs, ne_eq] at h) <;> (try simp (disch := omega) only [w64] at h) <;> (try exact zx)) | (with_reducible intro hz; (try exact absurd hz (Nat.succ_ne_zero _)))))
          all_goals (first | (exfalso; simp at h; done) | exact ⟨congrArg SV.bool hf1⟩ | (exfalso; rw [if_pos hf2] at h; exact h rfl))
end Go.Proofs.Ytbmejhabgoimeaa.Eng
