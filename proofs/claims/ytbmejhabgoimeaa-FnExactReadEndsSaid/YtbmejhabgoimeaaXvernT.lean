/- vernT: lemmas for the proof, no conditions of their own. -/
import Derived.Test.YtbmejhabgoimeaaXvernS
import Derived.Test.YtbmejhabgoimeaaXvernI
import Derived.Test.YtbmejhabgoimeaaXopens2
set_option linter.unusedVariables false
set_option linter.unusedSimpArgs false
namespace Go.Proofs.Ytbmejhabgoimeaa.Eng
open Go Go.RowKit
set_option maxRecDepth 100000
theorem rO_n {p q : Int} (h : redOk p q = false) : rO p q = none := by unfold rO; rw [h]; rfl
theorem rO_s {p q : Int} (h : redOk p q = true) : rO p q = some (redP p q, redQ p q) := by unfold rO; rw [h]; rfl
theorem mk_z (up uq k : Int) (e : FrT) : mkP up uq k e = (zv (mkO (up, uq) k e)).1 ∧ mkQ up uq k e = (zv (mkO (up, uq) k e)).2 ∧ mkC up uq k e = oC (mkO (up, uq) k e) := by
  have h1 := zv_r (k * up) (1 * uq)
  have e1 : muO (k, 1) (up, uq) = rO (k * up) (1 * uq) := rfl
  unfold mkP mkQ mkC mkO
  rw [e1]
  cases h : redOk (k * up) (1 * uq) with
  | false => rw [rO_n h]; simp [zv, oC]
  | true =>
    rw [rO_s h] at h1 ⊢
    rw [h1.1, h1.2.1]
    simp only [if_true, Option.bind_some]
    exact zv_r _ _
theorem zv_s (v : FrT) : zv (some v) = v := rfl
/-- A code of what may fail. -/
def oG {α : Type} (o : Option α) : Int := if o.isSome = true then 0 else 3
theorem splitG {α : Type} {o : Option α} {A B : Prop} (h1 : o = none → A) (h2 : ∀ v, o = some v → B) : splitB (decide (oG o ≠ 0)) A B := by
  cases o with
  | none => exact ⟨fun _ => h1 rfl, fun e => by simp [oG] at e⟩
  | some v => exact ⟨fun e => by simp [oG] at e, fun _ => h2 v rfl⟩
def s_l02MarkV : Spec := fun args S => match args, S with
  | [.ptr 0 0 0, .int .i64 k], [.box [.int .i64 up, .int .i64 uq, .sl 1 s n x] true false, .arr (.prod (.int .i64) (.int .i64)) l 2 wr] => ⟨(s + n ≤ l.length) ∧ (0 ≤ k ∧ k < n) ∧ scB up uq (seg l s n) = true, .tup [.agg [.int .i64 (mkV (up, uq) k (elT (seg l s n) k.toNat)).1, .int .i64 (mkV (up, uq) k (elT (seg l s n) k.toNat)).2], .int .i64 0], [.box [.int .i64 up, .int .i64 uq, .sl 1 s n x] true false, .arr (.prod (.int .i64) (.int .i64)) l 2 wr]⟩
  | _, _ => noSpec
theorem ok_l02MarkV : SpecOk Try.prog 104 s_l02MarkV := by
  intro args S h; unfold s_l02MarkV at h ⊢; (split at h <;> first | exact False.elim h | skip)
  dsimp only at h ⊢
  rename_i k up uq s n x l wr
  obtain ⟨h1, hk, hsc⟩ := h
  have hL := seg_len h1
  have hsz := sc_sz hsc
  rw [hL] at hsz
  have hel := sc_el hsc
  obtain ⟨e, he⟩ := get_some (l := seg l s n) (i := k.toNat) (by omega)
  obtain ⟨v, hv⟩ := sc_mk hsc he
  have hkk : ((k.toNat : Nat) : Int) = k := Int.toNat_of_nonneg hk.1
  rw [hkk] at hv
  have h2 := ok_l02MarkW [.ptr 0 0 0, .int .i64 k] [.box [.int .i64 up, .int .i64 uq, .sl 1 s n x] true false, .arr (.prod (.int .i64) (.int .i64)) l 2 wr] ⟨⟨h1, by omega⟩, ⟨hk.1, hk.2, hsz.2.2.2⟩, smF_ok hsz.1, fun a ha => hel _ _ ha⟩
  have hm := mk_z up uq k e
  have hd : ((seg l s n)[k.toNat]?).getD (0, 0) = e := by rw [he]; rfl
  simp only [s_l02MarkW, hd, hm.1, hm.2.1, hm.2.2, hv, zv, oC, Option.getD_some, Option.isSome_some, if_true] at h2
  rw [elT_e he, mk_e hv]
  exact h2
/-- The nearest mark, on the reference's side. -/
def nrO (u : FrT) (E : List FrT) (x : FrT) : Option (Int × FrT) := if anyN (nrX u E x) E.length = true then none else some (amin (nrD u E x) E.length)
def zN (o : Option (Int × FrT)) : Int × FrT := o.getD (0, (0, 0))
theorem nrO_b {u : FrT} {E : List FrT} {x : FrT} {v : Int × FrT} (h : nrO u E x = some v) : anyN (nrX u E x) E.length = false ∧ amin (nrD u E x) E.length = v := by
  unfold nrO at h
  split at h
  · simp at h
  · rename_i hn; exact ⟨by simpa using hn, Option.some.inj h⟩
theorem anyN_no {f : Nat → Bool} : ∀ {n : Nat}, (∀ i, i < n → f i = false) → anyN f n = false
  | 0, _ => rfl
  | n + 1, h => by unfold anyN; rw [anyN_no fun i hi => h i (by omega), h n (by omega)]; rfl
theorem amin0_n {d : Nat → FrT} {k : Nat} (h : 0 < k) : amin0 d k = amin d k := by unfold amin0; rw [if_neg (by omega)]
def s_l02NearV : Spec := fun args S => match args, S with
  | [.ptr 0 0 0, .agg [.int .i64 xp, .int .i64 xq]], [.box [.int .i64 up, .int .i64 uq, .sl 1 s n x] true false, .arr (.prod (.int .i64) (.int .i64)) l 2 wr] => ⟨(s + n ≤ l.length) ∧ scB up uq (seg l s n) = true ∧ smF xp xq, .tup [.int .i64 (zN (nrO (up, uq) (seg l s n) (xp, xq))).1, .agg [.int .i64 (zN (nrO (up, uq) (seg l s n) (xp, xq))).2.1, .int .i64 (zN (nrO (up, uq) (seg l s n) (xp, xq))).2.2], .int .i64 (oG (nrO (up, uq) (seg l s n) (xp, xq)))], [.box [.int .i64 up, .int .i64 uq, .sl 1 s n x] true false, .arr (.prod (.int .i64) (.int .i64)) l 2 wr]⟩
  | _, _ => noSpec
theorem nr_none {u : FrT} {E : List FrT} {x : FrT} {i : Nat} (hi : i < E.length) (h : sbO x (mkV u i (elT E i)) = none) : nrO u E x = none := by
  unfold nrO; rw [if_pos (anyN_at (i := i) (by unfold nrX; rw [h]; rfl) hi)]
theorem nr_some {u : FrT} {E : List FrT} {x v : FrT} {i : Nat} (h : sbO x (mkV u i (elT E i)) = some v) : nrX u E x i = false ∧ nrD u E x i = absF v := by
  unfold nrX nrD; rw [h]; exact ⟨rfl, rfl⟩
theorem upN {f : Nat → Bool} {i : Nat} (h : f i = false) (hp : ∀ j, j < i → f j = false) : ∀ j, j < i + 1 → f j = false := fun j hj => by
  by_cases e : j < i
  · exact hp j e
  · obtain rfl : j = i := by omega
    exact h
attribute [local irreducible] sbO muO adO mkV in
set_option maxHeartbeats 1600000 in
theorem ok_l02NearV : SpecOk Try.prog 118 s_l02NearV := by
  intro args S h; unfold s_l02NearV at h ⊢; (split at h <;> first | exact False.elim h | skip)
  dsimp only at h ⊢
  rename_i xp xq up uq s n x l wr
  obtain ⟨h1, hsc, hx⟩ := h
  have hL := seg_len h1
  have hsz := sc_sz hsc
  rw [hL] at hsz
  have hlen : (seg l s n).length = n := hL
  refine funW tabOk (E := [(104, s_l02MarkV), (45, s_subZ), (121, s_size), (105, s_cmp)]) ⟨ok_l02MarkV, ok_l01SubZ, ok_l02Size, ok_l01Cmp, trivial⟩ [] (k := 2) (fn := Try.f118) rfl rfl rfl rfl rfl rfl ?_
  (repeat' ((try (conv => whnf)); first | (with_reducible first | refine And.intro ?_ ?_ | refine WX.of ?_ | exact VC.mk rfl | exact True.intro | exact VC.mk ⟨rfl, fun e => e⟩ | exact VC.mk ⟨fun e => e, rfl⟩ | exact VC.mk (Nat.le_refl _) | exact drawOk_i (by decide +kernel) (by decide +kernel) (by decide +kernel)) | ((with_reducible refine VC.mk ?_); first | (dsimp only; done) | omega | (congr 1; (try simp (disch := omega) only [w64]); omega) | exact ⟨rfl, rfl⟩ | (refine ⟨?_, ?_, ?_⟩; assumption; assumption; omega) | (refine ⟨Nat.le_trans (Nat.mul_le_mul_left _ (m := 1000) ?_) ?_, ?_⟩; decide; omega; omega)) | with_reducible refine splitT ?_ | with_reducible refine splitF ?_ | ((with_reducible refine splitB.mk (fun h => ?_) (fun h => ?_)) <;> (try simp only [decide_eq_true_eq, decide_eq_false_iff_not, ne_eq, Decidable.not_not, Int.not_lt, Int.not_le, Bool.not_eq_true', Bool.not_eq_false'] at h) <;> (try simp (disch := omega) only [w64] at h) <;> (try (exfalso; first | omega | exact h True.intro | (simp only [and_self, not_true_eq_false] at h; done) | (simp only [beq_self_eq_true, Bool.true_eq_false, reduceCtorEq] at h; done)))) | (with_reducible intro hz; (try exact absurd hz (Nat.succ_ne_zero _)))))
  refine loopW tabOk (E := [(104, s_l02MarkV), (45, s_subZ), (121, s_size), (105, s_cmp)]) ⟨ok_l02MarkV, ok_l01SubZ, ok_l02Size, ok_l01Cmp, trivial⟩ [] (σ := Nat) (fun i => [(0, .ptr 0 0 0), (3, .ptr 2 0 0), (5, .ptr 3 0 0), (7, .int .i64 (amin0 (nrD (up, uq) (seg l s n) (xp, xq)) i).1), (8, .ptr 4 0 0), (9, .int .i64 i)]) (fun i => [.box [.int .i64 up, .int .i64 uq, .sl 1 s n x] true false, .arr (.prod (.int .i64) (.int .i64)) l 2 wr, .arr (.prod (.int .i64) (.int .i64)) [(xp, xq)] 0 true, .arr (.prod (.int .i64) (.int .i64)) [(0, 0)] 0 true, .arr (.prod (.int .i64) (.int .i64)) [(amin0 (nrD (up, uq) (seg l s n) (xp, xq)) i).2] 0 true]) (fun i => n - i) (fun i => i ≤ n ∧ ∀ j, j < i → nrX (up, uq) (seg l s n) (xp, xq) j = false) 0 ⟨Nat.zero_le _, fun j hj => by omega⟩ ?_ ?_
  · (repeat' ((try (conv => whnf)); first | (with_reducible first | refine And.intro ?_ ?_ | refine WX.of ?_ | exact VC.mk rfl | exact True.intro | exact VC.mk ⟨rfl, fun e => e⟩ | exact VC.mk ⟨fun e => e, rfl⟩ | exact VC.mk (Nat.le_refl _) | exact drawOk_i (by decide +kernel) (by decide +kernel) (by decide +kernel)) | ((with_reducible refine VC.mk ?_); first | (dsimp only; done) | omega | (congr 1; (try simp (disch := omega) only [w64]); omega) | exact ⟨rfl, rfl⟩ | (refine ⟨?_, ?_, ?_⟩; assumption; assumption; omega) | (refine ⟨Nat.le_trans (Nat.mul_le_mul_left _ (m := 1000) ?_) ?_, ?_⟩; decide; omega; omega)) | with_reducible refine splitT ?_ | with_reducible refine splitF ?_ | ((with_reducible refine splitB.mk (fun h => ?_) (fun h => ?_)) <;> (try simp only [decide_eq_true_eq, decide_eq_false_iff_not, ne_eq, Decidable.not_not, Int.not_lt, Int.not_le, Bool.not_eq_true', Bool.not_eq_false'] at h) <;> (try simp (disch := omega) only [w64] at h) <;> (try (exfalso; first | omega | exact h True.intro | (simp only [and_self, not_true_eq_false] at h; done) | (simp only [beq_self_eq_true, Bool.true_eq_false, reduceCtorEq] at h; done)))) | (with_reducible intro hz; (try exact absurd hz (Nat.succ_ne_zero _)))))
  · intro i ⟨hi, hp⟩
    have hb := amin_b (nrD_sm (up, uq) (seg l s n) (xp, xq)) i
    have hd := nrD_sm (up, uq) (seg l s n) (xp, xq) i
    have hmk := mkV_sm (up, uq) i (elT (seg l s n) i)
    have hm0 : i ≠ 0 → smF (amin0 (nrD (up, uq) (seg l s n) (xp, xq)) i).2.1 (amin0 (nrD (up, uq) (seg l s n) (xp, xq)) i).2.2 := fun h => by rw [amin0_n (by omega)]; exact hb.2
    by_cases hlt : i < n
    · (repeat' ((try (conv => whnf)); first | (with_reducible first | refine And.intro ?_ ?_ | refine WX.of ?_ | exact VC.mk rfl | exact True.intro | exact VC.mk ⟨rfl, fun e => e⟩ | exact VC.mk ⟨fun e => e, rfl⟩ | exact VC.mk (Nat.le_refl _) | exact drawOk_i (by decide +kernel) (by decide +kernel) (by decide +kernel)) | ((with_reducible refine VC.mk ?_); first | (dsimp only; done) | omega | (congr 1; (try simp (disch := omega) only [w64]); omega) | exact ⟨rfl, rfl⟩ | (refine ⟨?_, ?_, ?_⟩; assumption; assumption; omega) | (refine ⟨Nat.le_trans (Nat.mul_le_mul_left _ (m := 1000) ?_) ?_, ?_⟩; decide; omega; omega)) | ((with_reducible refine VC.mk ?_); exact ⟨h1, ⟨by omega, by omega⟩, hsc⟩) | ((with_reducible refine VC.mk ?_); exact ⟨hx, hmk⟩) | ((with_reducible refine VC.mk ?_); exact (by assumption)) | ((with_reducible refine VC.mk ?_); exact ⟨smF_abs hs, hm0 (by omega)⟩) | ((with_reducible refine splitO (okO_sb _ _) (fun h => ?_) (fun a b h hs => ?_)) <;> (try rw [h])) | with_reducible refine splitT ?_ | with_reducible refine splitF ?_ | ((with_reducible refine splitB.mk (fun h => ?_) (fun h => ?_)) <;> (try simp only [decide_eq_true_eq, decide_eq_false_iff_not, ne_eq, Decidable.not_not, Int.not_lt, Int.not_le, Bool.not_eq_true', Bool.not_eq_false'] at h) <;> (try simp (disch := omega) only [w64] at h) <;> (try (exfalso; first | omega | exact h True.intro | (simp only [and_self, not_true_eq_false] at h; done) | (simp only [beq_self_eq_true, Bool.true_eq_false, reduceCtorEq] at h; done)))) | (with_reducible intro hz; (try exact absurd hz (Nat.succ_ne_zero _)))))
      all_goals simp only [Int.toNat_natCast] at *
      · rw [nr_none (by omega) h]
        exact ⟨rfl⟩
      · rename_i hs0
        obtain ⟨h3, h4⟩ := nr_some hs0
        refine ⟨i + 1, by omega, ⟨hlt, upN h3 hp⟩, ?_⟩
        rw [amin0_s, amin_y (.inl (by omega)), h4]
        (repeat' ((try (conv => whnf)); first | (with_reducible first | refine And.intro ?_ ?_ | refine WX.of ?_ | exact VC.mk rfl | exact True.intro | exact VC.mk ⟨rfl, fun e => e⟩ | exact VC.mk ⟨fun e => e, rfl⟩ | exact VC.mk (Nat.le_refl _) | exact drawOk_i (by decide +kernel) (by decide +kernel) (by decide +kernel)) | ((with_reducible refine VC.mk ?_); first | (dsimp only; done) | omega | (congr 1; (try simp (disch := omega) only [w64]); omega) | exact ⟨rfl, rfl⟩ | (refine ⟨?_, ?_, ?_⟩; assumption; assumption; omega) | (refine ⟨Nat.le_trans (Nat.mul_le_mul_left _ (m := 1000) ?_) ?_, ?_⟩; decide; omega; omega)) | with_reducible refine splitT ?_ | with_reducible refine splitF ?_ | ((with_reducible refine splitB.mk (fun h => ?_) (fun h => ?_)) <;> (try simp only [decide_eq_true_eq, decide_eq_false_iff_not, ne_eq, Decidable.not_not, Int.not_lt, Int.not_le, Bool.not_eq_true', Bool.not_eq_false'] at h) <;> (try simp (disch := omega) only [w64] at h) <;> (try (exfalso; first | omega | exact h True.intro | (simp only [and_self, not_true_eq_false] at h; done) | (simp only [beq_self_eq_true, Bool.true_eq_false, reduceCtorEq] at h; done)))) | (with_reducible intro hz; (try exact absurd hz (Nat.succ_ne_zero _)))))
      · rename_i hs0 h0
        obtain ⟨h3, h4⟩ := nr_some hs0
        refine ⟨i + 1, by omega, ⟨hlt, upN h3 hp⟩, ?_⟩
        rw [amin0_n (by omega)] at h
        rw [amin0_s, amin_y (.inr (by rw [h4]; exact h)), h4]
        (repeat' ((try (conv => whnf)); first | (with_reducible first | refine And.intro ?_ ?_ | refine WX.of ?_ | exact VC.mk rfl | exact True.intro | exact VC.mk ⟨rfl, fun e => e⟩ | exact VC.mk ⟨fun e => e, rfl⟩ | exact VC.mk (Nat.le_refl _) | exact drawOk_i (by decide +kernel) (by decide +kernel) (by decide +kernel)) | ((with_reducible refine VC.mk ?_); first | (dsimp only; done) | omega | (congr 1; (try simp (disch := omega) only [w64]); omega) | exact ⟨rfl, rfl⟩ | (refine ⟨?_, ?_, ?_⟩; assumption; assumption; omega) | (refine ⟨Nat.le_trans (Nat.mul_le_mul_left _ (m := 1000) ?_) ?_, ?_⟩; decide; omega; omega)) | with_reducible refine splitT ?_ | with_reducible refine splitF ?_ | ((with_reducible refine splitB.mk (fun h => ?_) (fun h => ?_)) <;> (try simp only [decide_eq_true_eq, decide_eq_false_iff_not, ne_eq, Decidable.not_not, Int.not_lt, Int.not_le, Bool.not_eq_true', Bool.not_eq_false'] at h) <;> (try simp (disch := omega) only [w64] at h) <;> (try (exfalso; first | omega | exact h True.intro | (simp only [and_self, not_true_eq_false] at h; done) | (simp only [beq_self_eq_true, Bool.true_eq_false, reduceCtorEq] at h; done)))) | (with_reducible intro hz; (try exact absurd hz (Nat.succ_ne_zero _)))))
      · rename_i hs0 h0
        obtain ⟨h3, h4⟩ := nr_some hs0
        refine ⟨i + 1, by omega, ⟨hlt, upN h3 hp⟩, ?_⟩
        rw [amin0_n (by omega)] at h
        rw [amin0_s, amin_n (fun e => e.elim (fun e => absurd e (by omega)) (by rw [h4]; exact Int.not_lt.2 h)), ← amin0_n (by omega)]
        (repeat' ((try (conv => whnf)); first | (with_reducible first | refine And.intro ?_ ?_ | refine WX.of ?_ | exact VC.mk rfl | exact True.intro | exact VC.mk ⟨rfl, fun e => e⟩ | exact VC.mk ⟨fun e => e, rfl⟩ | exact VC.mk (Nat.le_refl _) | exact drawOk_i (by decide +kernel) (by decide +kernel) (by decide +kernel)) | ((with_reducible refine VC.mk ?_); first | (dsimp only; done) | omega | (congr 1; (try simp (disch := omega) only [w64]); omega) | exact ⟨rfl, rfl⟩ | (refine ⟨?_, ?_, ?_⟩; assumption; assumption; omega) | (refine ⟨Nat.le_trans (Nat.mul_le_mul_left _ (m := 1000) ?_) ?_, ?_⟩; decide; omega; omega)) | with_reducible refine splitT ?_ | with_reducible refine splitF ?_ | ((with_reducible refine splitB.mk (fun h => ?_) (fun h => ?_)) <;> (try simp only [decide_eq_true_eq, decide_eq_false_iff_not, ne_eq, Decidable.not_not, Int.not_lt, Int.not_le, Bool.not_eq_true', Bool.not_eq_false'] at h) <;> (try simp (disch := omega) only [w64] at h) <;> (try (exfalso; first | omega | exact h True.intro | (simp only [and_self, not_true_eq_false] at h; done) | (simp only [beq_self_eq_true, Bool.true_eq_false, reduceCtorEq] at h; done)))) | (with_reducible intro hz; (try exact absurd hz (Nat.succ_ne_zero _)))))
    · obtain rfl : i = n := by omega
      have hN : nrO (up, uq) (seg l s i) (xp, xq) = some (amin (nrD (up, uq) (seg l s i) (xp, xq)) i) := by
        unfold nrO; rw [hL, if_neg (by rw [anyN_no fun j hj => hp j hj]; decide)]
      rw [hN, amin0_n (by omega)]
      (repeat' ((try (conv => whnf)); first | (with_reducible first | refine And.intro ?_ ?_ | refine WX.of ?_ | exact VC.mk rfl | exact True.intro | exact VC.mk ⟨rfl, fun e => e⟩ | exact VC.mk ⟨fun e => e, rfl⟩ | exact VC.mk (Nat.le_refl _) | exact drawOk_i (by decide +kernel) (by decide +kernel) (by decide +kernel)) | ((with_reducible refine VC.mk ?_); first | (dsimp only; done) | omega | (congr 1; (try simp (disch := omega) only [w64]); omega) | exact ⟨rfl, rfl⟩ | (refine ⟨?_, ?_, ?_⟩; assumption; assumption; omega) | (refine ⟨Nat.le_trans (Nat.mul_le_mul_left _ (m := 1000) ?_) ?_, ?_⟩; decide; omega; omega)) | with_reducible refine splitT ?_ | with_reducible refine splitF ?_ | ((with_reducible refine splitB.mk (fun h => ?_) (fun h => ?_)) <;> (try simp only [decide_eq_true_eq, decide_eq_false_iff_not, ne_eq, Decidable.not_not, Int.not_lt, Int.not_le, Bool.not_eq_true', Bool.not_eq_false'] at h) <;> (try simp (disch := omega) only [w64] at h) <;> (try (exfalso; first | omega | exact h True.intro | (simp only [and_self, not_true_eq_false] at h; done) | (simp only [beq_self_eq_true, Bool.true_eq_false, reduceCtorEq] at h; done)))) | (with_reducible intro hz; (try exact absurd hz (Nat.succ_ne_zero _)))))
end Go.Proofs.Ytbmejhabgoimeaa.Eng
