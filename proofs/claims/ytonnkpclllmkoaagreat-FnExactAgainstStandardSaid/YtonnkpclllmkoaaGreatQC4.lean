/- Lemmas for the proof, no conditions of their own. -/
import Derived.Test.YtonnkpclllmkoaaGreatQC3
set_option linter.unusedVariables false
set_option linter.unusedSimpArgs false
namespace Go.Proofs.YtonnkpclllmkoaaGreat.Eng
open Go Go.RowKit
set_option maxRecDepth 100000
def s_l02Ver : Spec := fun args S => match args, S with
  | [.ptr 0 0 3], [.box [.int .i64 up, .int .i64 uq, .sl 1 s n x, .int .i64 vp, .bool vb, .int .i64 gp, .int .i64 gq, .sl 2 t m y] true false, .arr (.prod (.int .i64) (.int .i64)) l 2 wr, .arr (.prod .str (.prod (.prod (.int .i64) (.int .i64)) (.prod (.int .i64) (.int .i64)))) T 5 wT] => ⟨True, .bool (decide (2 ≤ vp ∧ vp ≤ 40)), [.box [.int .i64 up, .int .i64 uq, .sl 1 s n x, .int .i64 vp, .bool vb, .int .i64 gp, .int .i64 gq, .sl 2 t m y] true false, .arr (.prod (.int .i64) (.int .i64)) l 2 wr, .arr (.prod .str (.prod (.prod (.int .i64) (.int .i64)) (.prod (.int .i64) (.int .i64)))) T 5 wT]⟩
  | _, _ => noSpec
theorem ok_l02Vernier : SpecOk Tryz.prog 125 s_l02Ver := by
  intro args S h; unfold s_l02Ver at h ⊢; (split at h <;> first | exact False.elim h | skip)
  dsimp only at h ⊢
  refine funW tabOk (E := [(112, s_within)]) ⟨ok_l00In, trivial⟩ [] (k := 3) (fn := Tryz.f125) rfl rfl rfl rfl rfl rfl ?_
  (repeat' ((try (conv => whnf)); first | (with_reducible first | refine And.intro ?_ ?_ | refine WX.of ?_) | exact zc | ((with_reducible refine VC.mk ?_); exact zw) | (with_reducible first | refine splitT ?_ | refine splitF ?_) | ((with_reducible refine splitM.mk (fun hsm => ?_) (fun hsm => ?_)) <;> (try exact zx)) | ((with_reducible refine splitB.mk (fun h => ?_) (fun h => ?_)) <;> (try simp only [zs, ne_eq] at h) <;> (try simp (disch := omega) only [w64] at h) <;> (try exact zx)) | (with_reducible intro hz; (try exact absurd hz (Nat.succ_ne_zero _)))))
def mkC (up uq : Int) (k : Int) (e : Int × Int) : Int := if redOk (k * up) (1 * uq) = true then rdC (rdP (k * up) (1 * uq) * e.2 + e.1 * rdQ (k * up) (1 * uq)) (rdQ (k * up) (1 * uq) * e.2) else 3
def mkP (up uq : Int) (k : Int) (e : Int × Int) : Int := if redOk (k * up) (1 * uq) = true then rdP (rdP (k * up) (1 * uq) * e.2 + e.1 * rdQ (k * up) (1 * uq)) (rdQ (k * up) (1 * uq) * e.2) else 0
def mkQ (up uq : Int) (k : Int) (e : Int × Int) : Int := if redOk (k * up) (1 * uq) = true then rdQ (rdP (k * up) (1 * uq) * e.2 + e.1 * rdQ (k * up) (1 * uq)) (rdQ (k * up) (1 * uq) * e.2) else 0
theorem mkC_ok {up uq : Int} {k : Nat} {e : Int × Int} : mkC up uq k e = 0 ↔ mkOk up uq k e = true := by
  unfold mkC mkOk rdC rdP rdQ tolP tolQ
  cases h : redOk ((k : Int) * up) (1 * uq)
  · simp
  · simp only [if_true, Bool.true_and]
    split <;> simp_all
def s_l02Mark : Spec := fun args S => match args, S with
  | [.ptr 0 0 0, .int .i64 k], [.box [.int .i64 up, .int .i64 uq, .sl 1 s n x, .int .i64 vp, .bool vb, .int .i64 gp, .int .i64 gq, .sl 2 t m y] true false, .arr (.prod (.int .i64) (.int .i64)) l 2 wr, .arr (.prod .str (.prod (.prod (.int .i64) (.int .i64)) (.prod (.int .i64) (.int .i64)))) T 5 wT] => ⟨(s + n ≤ l.length ∧ n ≤ 1048576) ∧ (0 ≤ k ∧ k < n ∧ n ≤ 60) ∧ smF up uq ∧ ∀ a, (seg l s n)[k.toNat]? = some a → smF a.1 a.2, .tup [.agg [.int .i64 (mkP up uq k (((seg l s n)[k.toNat]?).getD (0, 0))), .int .i64 (mkQ up uq k (((seg l s n)[k.toNat]?).getD (0, 0)))], .int .i64 (mkC up uq k (((seg l s n)[k.toNat]?).getD (0, 0)))], [.box [.int .i64 up, .int .i64 uq, .sl 1 s n x, .int .i64 vp, .bool vb, .int .i64 gp, .int .i64 gq, .sl 2 t m y] true false, .arr (.prod (.int .i64) (.int .i64)) l 2 wr, .arr (.prod .str (.prod (.prod (.int .i64) (.int .i64)) (.prod (.int .i64) (.int .i64)))) T 5 wT]⟩
  | _, _ => noSpec
theorem ok_l02Mark : SpecOk Tryz.prog 156 s_l02Mark := by
  intro args S h; unfold s_l02Mark at h ⊢; (split at h <;> first | exact False.elim h | skip)
  dsimp only at h ⊢
  rename_i k up uq s n x vp vb gp gq t m y l wr T wT
  obtain ⟨⟨h1, h2⟩, ⟨h3, h4, h5⟩, h6, h7⟩ := h
  have hL := seg_len h1
  obtain ⟨⟨p, q⟩, ha⟩ := get_some (l := seg l s n) (i := k.toNat) (by omega)
  have hs := h7 _ ha
  dsimp only at hs
  have e : ((seg l s n)[k.toNat]?).getD (0, 0) = (p, q) := by rw [ha]; rfl
  rw [e]
  have hk : smF k 1 := smF_1 (by omega)
  have hr : redOk (k * up) (1 * uq) = true → smF (rdP (k * up) (1 * uq)) (rdQ (k * up) (1 * uq)) := fun h => by
    unfold rdP rdQ; rw [if_pos h, if_pos h]; exact smF_ok h
  have hkk : ((k.toNat : Nat) : Int) = k := Int.toNat_of_nonneg h3
  refine funW tabOk (E := [(56, s_num), (55, s_mulS), (57, s_addS)]) ⟨ok_l01Whole, ok_l01Mul, ok_l01Add, trivial⟩ [(1, [(5, 0), (10, 0), (10, 1)])] (k := 3) (fn := Tryz.f156) rfl rfl rfl rfl rfl rfl ?_
  (repeat' ((try (conv => whnf)); first | (with_reducible first | refine And.intro ?_ ?_ | refine WX.of ?_) | exact zc | ((with_reducible refine VC.mk ?_); exact zw) | ((with_reducible refine VC.mk ?_); exact ⟨hk, h6⟩) | (with_reducible first | refine splitT ?_ | refine splitF ?_) | ((with_reducible refine splitM.mk (fun hsm => ?_) (fun hsm => ?_)) <;> (try exact zx)) | ((with_reducible refine splitB.mk (fun h => ?_) (fun h => ?_)) <;> (try simp only [zs, ne_eq] at h) <;> (try simp (disch := omega) only [w64] at h) <;> (try exact zx)) | (with_reducible intro hz; (try exact absurd hz (Nat.succ_ne_zero _)))))
  · have hb : redOk (k * up) (1 * uq) = false := by
      unfold rdC at h; cases hb : redOk (k * up) (1 * uq) <;> simp_all
    exact ⟨by simp only [mkP, mkQ, mkC, rdC, hb, if_false, Bool.false_eq_true]⟩
  · have hb : redOk (k * up) (1 * uq) = true := by
      unfold rdC at h; cases hb : redOk (k * up) (1 * uq) <;> simp_all
    (repeat' ((try (conv => whnf)); first | (with_reducible first | refine And.intro ?_ ?_ | refine WX.of ?_) | exact zc | ((with_reducible refine VC.mk ?_); exact zw) | with_reducible refine atL_p (seg_get ha).1 ?_ | ((with_reducible refine VC.mk ?_); exact ⟨hr hb, hs⟩) | (with_reducible first | refine splitT ?_ | refine splitF ?_) | ((with_reducible refine splitM.mk (fun hsm => ?_) (fun hsm => ?_)) <;> (try exact zx)) | ((with_reducible refine splitB.mk (fun h => ?_) (fun h => ?_)) <;> (try simp only [zs, ne_eq] at h) <;> (try simp (disch := omega) only [w64] at h) <;> (try exact zx)) | (with_reducible intro hz; (try exact absurd hz (Nat.succ_ne_zero _)))))
    all_goals exact ⟨by simp only [mkP, mkQ, mkC, hb, if_true]⟩
def s_l02Ok : Spec := fun args S => match args, S with
  | [.ptr 0 0 0], [.box [.int .i64 up, .int .i64 uq, .sl 1 s n x, .int .i64 vp, .bool vb, .int .i64 gp, .int .i64 gq, .sl 2 t m y] true false, .arr (.prod (.int .i64) (.int .i64)) l 2 wr, .arr (.prod .str (.prod (.prod (.int .i64) (.int .i64)) (.prod (.int .i64) (.int .i64)))) T 5 wT] => ⟨s + n ≤ l.length ∧ n ≤ 1048576, .bool (scB up uq (seg l s n)), [.box [.int .i64 up, .int .i64 uq, .sl 1 s n x, .int .i64 vp, .bool vb, .int .i64 gp, .int .i64 gq, .sl 2 t m y] true false, .arr (.prod (.int .i64) (.int .i64)) l 2 wr, .arr (.prod .str (.prod (.prod (.int .i64) (.int .i64)) (.prod (.int .i64) (.int .i64)))) T 5 wT]⟩
  | _, _ => noSpec
theorem ok_l02Ok : SpecOk Tryz.prog 124 s_l02Ok := by
  intro args S h; unfold s_l02Ok at h ⊢; (split at h <;> first | exact False.elim h | skip)
  dsimp only at h ⊢
  rename_i up uq s n x vp vb gp gq t m y l wr T wT
  obtain ⟨h1, h2⟩ := h
  have hL := seg_len h1
  refine funW tabOk (E := [(128, s_wi), (112, s_within), (146, s_fOk), (153, s_abs), (156, s_l02Mark)]) ⟨ok_l02Within, ok_l00In, ok_l01Ok, ok_l01Abs, ok_l02Mark, trivial⟩ [(7, [(12, 1), (18, 1), (20, 1)])] (k := 3) (fn := Tryz.f124) rfl rfl rfl rfl rfl rfl ?_
  (repeat' ((try (conv => whnf)); first | (with_reducible first | refine And.intro ?_ ?_ | refine WX.of ?_) | exact zc | ((with_reducible refine VC.mk ?_); exact zw) | (with_reducible first | refine splitT ?_ | refine splitF ?_) | ((with_reducible refine splitM.mk (fun hsm => ?_) (fun hsm => ?_)) <;> (try exact zx)) | ((with_reducible refine splitB.mk (fun h => ?_) (fun h => ?_)) <;> (try simp only [zs, ne_eq] at h) <;> (try simp (disch := omega) only [w64] at h) <;> (try exact zx)) | (with_reducible intro hz; (try exact absurd hz (Nat.succ_ne_zero _)))))
  · exact ⟨congrArg SV.bool (by unfold wiB at h; unfold scB; rw [← Bool.and_assoc (fOk up uq), h, Bool.false_and, Bool.false_and])⟩
  · rename_i hw
    exact ⟨congrArg SV.bool (by unfold scB; rw [hL, show decide (2 ≤ n ∧ n ≤ 60) = false from decide_eq_false (by omega), Bool.and_false, Bool.false_and])⟩
  · rename_i hw
    have hn := h
    have hw2 : fOk up uq = true ∧ 0 < up ∧ up ≤ 1000 * uq := by simpa [wiB, and_assoc] using hw
    have hsU := smF_ok hw2.1
    have hU := hsU
    unfold smF at hU
    refine loopW tabOk (E := [(128, s_wi), (112, s_within), (146, s_fOk), (153, s_abs), (156, s_l02Mark)]) ⟨ok_l02Within, ok_l00In, ok_l01Ok, ok_l01Abs, ok_l02Mark, trivial⟩ [(7, [(12, 1), (18, 1), (20, 1)])] (σ := Nat) (fun i => [(0, .ptr 0 0 0), (3, .int .i64 i)]) (fun i => [.box [.int .i64 up, .int .i64 uq, .sl 1 s n x, .int .i64 vp, .bool vb, .int .i64 gp, .int .i64 gq, .sl 2 t m y] true false, .arr (.prod (.int .i64) (.int .i64)) l 2 wr, .arr (.prod .str (.prod (.prod (.int .i64) (.int .i64)) (.prod (.int .i64) (.int .i64)))) T 5 wT]) (fun i => n - i) (fun i => i ≤ n ∧ ∀ (j : Nat) (a : Int × Int), j < i → (seg l s n)[j]? = some a → elB up uq j a = true) 0 ⟨Nat.zero_le _, fun j a hj => by omega⟩ ?_ ?_
    · (repeat' ((try (conv => whnf)); first | (with_reducible first | refine And.intro ?_ ?_ | refine WX.of ?_) | exact zc | ((with_reducible refine VC.mk ?_); exact zw) | (with_reducible first | refine splitT ?_ | refine splitF ?_) | ((with_reducible refine splitM.mk (fun hsm => ?_) (fun hsm => ?_)) <;> (try exact zx)) | ((with_reducible refine splitB.mk (fun h => ?_) (fun h => ?_)) <;> (try simp only [zs, ne_eq] at h) <;> (try simp (disch := omega) only [w64] at h) <;> (try exact zx)) | (with_reducible intro hz; (try exact absurd hz (Nat.succ_ne_zero _)))))
    · intro i ⟨hi, hp⟩
      by_cases hlt : i < n
      · obtain ⟨⟨p, q⟩, ha⟩ := get_some (l := seg l s n) (i := i) (by omega)
        have e : ((seg l s n)[((i : Nat) : Int).toNat]?).getD (0, 0) = (p, q) := by rw [Int.toNat_natCast, ha]; rfl
        by_cases hf : fOk p q = true
        · have hsf := smF_ok hf
          have hsb := hsf
          unfold smF at hsb
          have hq4 := quad hsU hsf
          have hall : ∀ a, (seg l s n)[((i : Nat) : Int).toNat]? = some a → smF a.1 a.2 := fun a h => by
            rw [Int.toNat_natCast, ha] at h; obtain rfl := Option.some.inj h; exact hsf
          (repeat' ((try (conv => whnf)); first | (with_reducible first | refine And.intro ?_ ?_ | refine WX.of ?_) | exact zc | ((with_reducible refine VC.mk ?_); exact zw) | with_reducible refine atL_i ha ?_ | ((with_reducible refine splitT_of ?_ ?_); (focus (simp only [hf, Bool.not_true, Bool.not_false, decide_true, decide_false]; done))) | ((with_reducible refine splitF_of ?_ ?_); (focus (simp only [hf, Bool.not_true, Bool.not_false, decide_true, decide_false]; done))) | ((with_reducible refine VC.mk ?_); (refine ⟨⟨h1, h2⟩, ?_, hsU, hall⟩); omega) | (with_reducible first | refine splitT ?_ | refine splitF ?_) | ((with_reducible refine splitM.mk (fun hsm => ?_) (fun hsm => ?_)) <;> (try exact zx)) | ((with_reducible refine splitB.mk (fun h => ?_) (fun h => ?_)) <;> (try simp only [zs, ne_eq] at h) <;> (try simp (disch := omega) only [w64] at h) <;> (try exact zx)) | (with_reducible intro hz; (try exact absurd hz (Nat.succ_ne_zero _)))))
          · exact ⟨congrArg SV.bool (by rw [sc_no ha (by unfold elB; dsimp only; rw [show decide (4 * (p.natAbs : Int) * uq ≤ up * q) = false from decide_eq_false (by omega), Bool.and_false, Bool.false_and])])⟩
          · rw [e] at h
            have hm : mkOk up uq i (p, q) = false := by
              cases hm : mkOk up uq i (p, q) with
              | false => rfl
              | true => exact absurd (mkC_ok.2 hm) h
            exact ⟨congrArg SV.bool (by rw [sc_no ha (by unfold elB; rw [hm, Bool.and_false])])⟩
          · rw [e] at h
            have hm := mkC_ok.1 h
            have hd : decide (4 * (p.natAbs : Int) * uq ≤ up * q) = true := decide_eq_true (by omega)
            have hel : elB up uq i (p, q) = true := by unfold elB; rw [hm]; dsimp only; rw [hf, hd]; rfl
            refine ⟨i + 1, by omega, ⟨hlt, upto_step2 ha hel hp⟩, ?_⟩
            (repeat' ((try (conv => whnf)); first | (with_reducible first | refine And.intro ?_ ?_ | refine WX.of ?_) | exact zc | ((with_reducible refine VC.mk ?_); exact zw) | (with_reducible first | refine splitT ?_ | refine splitF ?_) | ((with_reducible refine splitM.mk (fun hsm => ?_) (fun hsm => ?_)) <;> (try exact zx)) | ((with_reducible refine splitB.mk (fun h => ?_) (fun h => ?_)) <;> (try simp only [zs, ne_eq] at h) <;> (try simp (disch := omega) only [w64] at h) <;> (try exact zx)) | (with_reducible intro hz; (try exact absurd hz (Nat.succ_ne_zero _)))))
        · have hf : fOk p q = false := by simpa using hf
          (repeat' ((try (conv => whnf)); first | (with_reducible first | refine And.intro ?_ ?_ | refine WX.of ?_) | exact zc | ((with_reducible refine VC.mk ?_); exact zw) | with_reducible refine atL_i ha ?_ | ((with_reducible refine splitT_of ?_ ?_); (focus (simp only [hf, Bool.not_true, Bool.not_false, decide_true, decide_false]; done))) | ((with_reducible refine splitF_of ?_ ?_); (focus (simp only [hf, Bool.not_true, Bool.not_false, decide_true, decide_false]; done))) | (with_reducible first | refine splitT ?_ | refine splitF ?_) | ((with_reducible refine splitM.mk (fun hsm => ?_) (fun hsm => ?_)) <;> (try exact zx)) | ((with_reducible refine splitB.mk (fun h => ?_) (fun h => ?_)) <;> (try simp only [zs, ne_eq] at h) <;> (try simp (disch := omega) only [w64] at h) <;> (try exact zx)) | (with_reducible intro hz; (try exact absurd hz (Nat.succ_ne_zero _)))))
          all_goals exact ⟨congrArg SV.bool (by rw [sc_no ha (by unfold elB; dsimp only; rw [hf, Bool.false_and, Bool.false_and])])⟩
      · obtain rfl : i = n := by omega
        (repeat' ((try (conv => whnf)); first | (with_reducible first | refine And.intro ?_ ?_ | refine WX.of ?_) | exact zc | ((with_reducible refine VC.mk ?_); exact zw) | (with_reducible first | refine splitT ?_ | refine splitF ?_) | ((with_reducible refine splitM.mk (fun hsm => ?_) (fun hsm => ?_)) <;> (try exact zx)) | ((with_reducible refine splitB.mk (fun h => ?_) (fun h => ?_)) <;> (try simp only [zs, ne_eq] at h) <;> (try simp (disch := omega) only [w64] at h) <;> (try exact zx)) | (with_reducible intro hz; (try exact absurd hz (Nat.succ_ne_zero _)))))
        exact ⟨congrArg SV.bool (sc_yes hL hw2.1 hw2.2 (by omega) hp).symm⟩
/-- A valid thing, and things with names of their own. -/
def thB (T : List ThT) (i : Nat) (x : ThT) : Bool := (wordB x.1 && !((T.take i).any fun o => decide (o.1 = x.1))) && (wiB x.2.1.1 x.2.1.2 100000 && gwB x.2.2.1 x.2.2.2)
def bnB (up uq vp gp gq : Int) (E : List (Int × Int)) (T : List ThT) : Bool := (scB up uq E && decide (2 ≤ vp ∧ vp ≤ 40) && gwB gp gq && decide (T.length ≤ 10)) && allI ([], (0, 0), 0, 0) (thB T) T
theorem bn_no {up uq vp gp gq : Int} {E : List (Int × Int)} {T : List ThT} {k : Nat} {a : ThT} (ha : T[k]? = some a) (h : thB T k a = false) : bnB up uq vp gp gq E T = false := by
  unfold bnB; rw [allI_no ha h, Bool.and_false]
theorem bn_yes {up uq vp gp gq : Int} {E : List (Int × Int)} {T : List ThT} (h : ∀ (k : Nat) a, T[k]? = some a → thB T k a = true) : bnB up uq vp gp gq E T = (scB up uq E && decide (2 ≤ vp ∧ vp ≤ 40) && gwB gp gq && decide (T.length ≤ 10)) := by
  unfold bnB; rw [allI_iff.2 h, Bool.and_true]
theorem wi_no0 {p q m : Int} (h : fOk p q = false) : wiB p q m = false := by simp [wiB, h]
theorem wi_no1 {p q m : Int} (h : p ≤ 0) : wiB p q m = false := by simp [wiB, show ¬ 0 < p by omega]
theorem wi_no2 {p q m : Int} (h : 0 < cmpF p q m 1) : wiB p q m = false := by
  have := cmpF_gt.1 h
  simp [wiB, show ¬ p ≤ m * q by omega]
theorem wi_yes {p q m : Int} (hf : fOk p q = true) (h0 : 0 < p) (h : cmpF p q m 1 ≤ 0) : wiB p q m = true := by
  have := cmpF_le.1 h
  simp [wiB, hf, h0, show p ≤ m * q by omega]
def s_cl1 : Spec := fun args S => match args, S with
  | [.agg [.str nm, .int .i64 p, .int .i64 q, .int .i64 r, .int .i64 s], .ptr 0 0 0], [.arr (.prod .str (.prod (.prod (.int .i64) (.int .i64)) (.prod (.int .i64) (.int .i64)))) [o] 0 true] => ⟨True, .bool (decide (nm = o.1)), [.arr (.prod .str (.prod (.prod (.int .i64) (.int .i64)) (.prod (.int .i64) (.int .i64)))) [o] 0 true]⟩
  | _, _ => noSpec
theorem ok_ValidBench1 : SpecOk Tryz.prog 135 s_cl1 := by
  intro args S h; unfold s_cl1 at h ⊢; (split at h <;> first | exact False.elim h | skip)
  dsimp only at h ⊢
  refine funW tabOk (E := []) trivial [] (k := 1) (fn := Tryz.f135) rfl rfl rfl rfl rfl rfl ?_
  (repeat' ((try (conv => whnf)); first | (with_reducible first | refine And.intro ?_ ?_ | refine WX.of ?_) | exact zc | ((with_reducible refine VC.mk ?_); exact zw) | (with_reducible first | refine splitT ?_ | refine splitF ?_) | ((with_reducible refine splitM.mk (fun hsm => ?_) (fun hsm => ?_)) <;> (try exact zx)) | ((with_reducible refine splitB.mk (fun h => ?_) (fun h => ?_)) <;> (try simp only [zs, ne_eq] at h) <;> (try simp (disch := omega) only [w64] at h) <;> (try exact zx)) | (with_reducible intro hz; (try exact absurd hz (Nat.succ_ne_zero _)))))
def s_idxTh (g : Nat) : Spec := fun args S => match args, S with
  | [.sl 0 s n x, .fn g' [.ptr 1 0 0]], [.arr (.prod .str (.prod (.prod (.int .i64) (.int .i64)) (.prod (.int .i64) (.int .i64)))) l 5 wr, .arr (.prod .str (.prod (.prod (.int .i64) (.int .i64)) (.prod (.int .i64) (.int .i64)))) [o] 0 true] => ⟨g' = g ∧ s + n ≤ l.length ∧ n ≤ 9223372036854775807, .int .i64 (findI (fun a : ThT => decide (a.1 = o.1)) (seg l s n)), [.arr (.prod .str (.prod (.prod (.int .i64) (.int .i64)) (.prod (.int .i64) (.int .i64)))) l 5 wr, .arr (.prod .str (.prod (.prod (.int .i64) (.int .i64)) (.prod (.int .i64) (.int .i64)))) [o] 0 true]⟩
  | _, _ => noSpec
theorem ok_idxTh : SpecOk Tryz.prog 161 (s_idxTh 135) := by
  intro args S h; unfold s_idxTh at h ⊢; (split at h <;> first | exact False.elim h | skip)
  dsimp only at h ⊢
  rename_i s n x g l wr o
  obtain ⟨rfl, h1, h2⟩ := h
  have hL := seg_len h1
  refine funW tabOk (E := [(135, s_cl1)]) ⟨ok_ValidBench1, trivial⟩ [] (k := 2) (fn := Tryz.f161) rfl rfl rfl rfl rfl rfl ?_
  (repeat' ((try (conv => whnf)); first | (with_reducible first | refine And.intro ?_ ?_ | refine WX.of ?_) | exact zc | ((with_reducible refine VC.mk ?_); exact zw) | (with_reducible first | refine splitT ?_ | refine splitF ?_) | ((with_reducible refine splitM.mk (fun hsm => ?_) (fun hsm => ?_)) <;> (try exact zx)) | ((with_reducible refine splitB.mk (fun h => ?_) (fun h => ?_)) <;> (try simp only [zs, ne_eq] at h) <;> (try simp (disch := omega) only [w64] at h) <;> (try exact zx)) | (with_reducible intro hz; (try exact absurd hz (Nat.succ_ne_zero _)))))
  refine loopW tabOk (E := [(135, s_cl1)]) ⟨ok_ValidBench1, trivial⟩ [] (σ := Nat) (fun i => [(0, .sl 0 s n x), (1, .fn 135 [.ptr 1 0 0]), (7, .int .i64 n), (8, .int .i64 i)]) (fun i => [.arr (.prod .str (.prod (.prod (.int .i64) (.int .i64)) (.prod (.int .i64) (.int .i64)))) l 5 wr, .arr (.prod .str (.prod (.prod (.int .i64) (.int .i64)) (.prod (.int .i64) (.int .i64)))) [o] 0 true]) (fun i => n - i) (fun i => i ≤ n ∧ ∀ (j : Nat) (a : ThT), j < i → (seg l s n)[j]? = some a → decide (a.1 = o.1) = false) 0 ⟨Nat.zero_le _, fun j a hj => by omega⟩ ?_ ?_
  · (repeat' ((try (conv => whnf)); first | (with_reducible first | refine And.intro ?_ ?_ | refine WX.of ?_) | exact zc | ((with_reducible refine VC.mk ?_); exact zw) | (with_reducible first | refine splitT ?_ | refine splitF ?_) | ((with_reducible refine splitM.mk (fun hsm => ?_) (fun hsm => ?_)) <;> (try exact zx)) | ((with_reducible refine splitB.mk (fun h => ?_) (fun h => ?_)) <;> (try simp only [zs, ne_eq] at h) <;> (try simp (disch := omega) only [w64] at h) <;> (try exact zx)) | (with_reducible intro hz; (try exact absurd hz (Nat.succ_ne_zero _)))))
  · intro i ⟨hi, hp⟩
    by_cases hlt : i < n
    · obtain ⟨⟨nm, ⟨p, q⟩, r, s0⟩, ha⟩ := get_some (l := seg l s n) (i := i) (by omega)
      (repeat' ((try (conv => whnf)); first | (with_reducible first | refine And.intro ?_ ?_ | refine WX.of ?_) | exact zc | ((with_reducible refine VC.mk ?_); exact zw) | with_reducible refine atL_i ha ?_ | (with_reducible first | refine splitT ?_ | refine splitF ?_) | ((with_reducible refine splitM.mk (fun hsm => ?_) (fun hsm => ?_)) <;> (try exact zx)) | ((with_reducible refine splitB.mk (fun h => ?_) (fun h => ?_)) <;> (try simp only [zs, ne_eq] at h) <;> (try simp (disch := omega) only [w64] at h) <;> (try exact zx)) | (with_reducible intro hz; (try exact absurd hz (Nat.succ_ne_zero _)))))
      · exact ⟨by rw [findI_some (p := fun a : ThT => decide (a.1 = o.1)) ha (decide_eq_true h) hp]⟩
      · refine ⟨i + 1, by omega, ⟨hlt, upto_step ha (decide_eq_false h) hp⟩, ?_⟩
        (repeat' ((try (conv => whnf)); first | (with_reducible first | refine And.intro ?_ ?_ | refine WX.of ?_) | exact zc | ((with_reducible refine VC.mk ?_); exact zw) | (with_reducible first | refine splitT ?_ | refine splitF ?_) | ((with_reducible refine splitM.mk (fun hsm => ?_) (fun hsm => ?_)) <;> (try exact zx)) | ((with_reducible refine splitB.mk (fun h => ?_) (fun h => ?_)) <;> (try simp only [zs, ne_eq] at h) <;> (try simp (disch := omega) only [w64] at h) <;> (try exact zx)) | (with_reducible intro hz; (try exact absurd hz (Nat.succ_ne_zero _)))))
    · (repeat' ((try (conv => whnf)); first | (with_reducible first | refine And.intro ?_ ?_ | refine WX.of ?_) | exact zc | ((with_reducible refine VC.mk ?_); exact zw) | (with_reducible first | refine splitT ?_ | refine splitF ?_) | ((with_reducible refine splitM.mk (fun hsm => ?_) (fun hsm => ?_)) <;> (try exact zx)) | ((with_reducible refine splitB.mk (fun h => ?_) (fun h => ?_)) <;> (try simp only [zs, ne_eq] at h) <;> (try simp (disch := omega) only [w64] at h) <;> (try exact zx)) | (with_reducible intro hz; (try exact absurd hz (Nat.succ_ne_zero _)))))
      exact ⟨by rw [findI_none (p := fun a : ThT => decide (a.1 = o.1)) fun j a hj => hp j a (by have := (List.getElem?_eq_some_iff.1 hj).1; omega) hj]⟩
def s_anyTh (g : Nat) : Spec := fun args S => match args, S with
  | [.sl 0 s n x, .fn g' [.ptr 1 0 0]], [.arr (.prod .str (.prod (.prod (.int .i64) (.int .i64)) (.prod (.int .i64) (.int .i64)))) l 5 wr, .arr (.prod .str (.prod (.prod (.int .i64) (.int .i64)) (.prod (.int .i64) (.int .i64)))) [o] 0 true] => ⟨g' = g ∧ s + n ≤ l.length ∧ n ≤ 9223372036854775807, .bool ((seg l s n).any (fun a : ThT => decide (a.1 = o.1))), [.arr (.prod .str (.prod (.prod (.int .i64) (.int .i64)) (.prod (.int .i64) (.int .i64)))) l 5 wr, .arr (.prod .str (.prod (.prod (.int .i64) (.int .i64)) (.prod (.int .i64) (.int .i64)))) [o] 0 true]⟩
  | _, _ => noSpec
theorem ok_anyTh : SpecOk Tryz.prog 134 (s_anyTh 135) := by
  intro args S h; unfold s_anyTh at h ⊢; (split at h <;> first | exact False.elim h | skip)
  dsimp only at h ⊢
  rename_i s n x g l wr o
  obtain ⟨rfl, h1, h2⟩ := h
  refine funW tabOk (E := [(161, (s_idxTh 135))]) ⟨ok_idxTh, trivial⟩ [] (k := 2) (fn := Tryz.f134) rfl rfl rfl rfl rfl rfl ?_
  (repeat' ((try (conv => whnf)); first | (with_reducible first | refine And.intro ?_ ?_ | refine WX.of ?_) | exact zc | ((with_reducible refine VC.mk ?_); exact zw) | (with_reducible first | refine splitT ?_ | refine splitF ?_) | ((with_reducible refine splitM.mk (fun hsm => ?_) (fun hsm => ?_)) <;> (try exact zx)) | ((with_reducible refine splitB.mk (fun h => ?_) (fun h => ?_)) <;> (try simp only [zs, ne_eq] at h) <;> (try simp (disch := omega) only [w64] at h) <;> (try exact zx)) | (with_reducible intro hz; (try exact absurd hz (Nat.succ_ne_zero _)))))
  exact ⟨by rw [findI_any]⟩
def s_vBench : Spec := fun args S => match args, S with
  | [.agg [.int .i64 up, .int .i64 uq, .sl 0 s n x, .int .i64 vp, .bool vb, .int .i64 gp, .int .i64 gq, .sl 1 t m y]], [.arr (.prod (.int .i64) (.int .i64)) l 2 wr, .arr (.prod .str (.prod (.prod (.int .i64) (.int .i64)) (.prod (.int .i64) (.int .i64)))) T 5 wT] => ⟨(s + n ≤ l.length ∧ n ≤ 1048576) ∧ (t + m ≤ T.length ∧ m ≤ 1048576) ∧ ∀ (j : Nat) (a : ThT), T[j]? = some a → a.1.length < 9223372036854775808, .bool (bnB up uq vp gp gq (seg l s n) (seg T t m)), [.arr (.prod (.int .i64) (.int .i64)) l 2 wr, .arr (.prod .str (.prod (.prod (.int .i64) (.int .i64)) (.prod (.int .i64) (.int .i64)))) T 5 wT]⟩
  | _, _ => noSpec
theorem ok_ValidBenchI : SpecOk Tryz.prog 82 s_vBench := by
  intro args S h; unfold s_vBench at h ⊢; (split at h <;> first | exact False.elim h | skip)
  dsimp only at h ⊢
  rename_i up uq s n x vp vb gp gq t m y l wr T wT
  obtain ⟨⟨h1, h2⟩, ⟨h3, h4⟩, ho⟩ := h
  have hL := seg_len h1
  have hM := seg_len h3
  refine funW tabOk (E := [(98, s_word), (134, (s_anyTh 135)), (102, s_fOk), (49, s_num), (50, s_cmp), (136, s_gw), (137, s_vScale), (138, s_ver)]) ⟨ok_isWord, ok_anyTh, ok_ValidFrac, ok_num, ok_compare, ok_isGrowth, ok_ValidScale, ok_ValidVernier, trivial⟩ [(6, [(12, 2)])] (k := 2) (fn := Tryz.f82) rfl rfl rfl rfl rfl rfl ?_
  (repeat' ((try (conv => whnf)); first | (with_reducible first | refine And.intro ?_ ?_ | refine WX.of ?_) | exact zc | ((with_reducible refine VC.mk ?_); exact zw) | (with_reducible first | refine splitT ?_ | refine splitF ?_) | ((with_reducible refine splitM.mk (fun hsm => ?_) (fun hsm => ?_)) <;> (try exact zx)) | ((with_reducible refine splitB.mk (fun h => ?_) (fun h => ?_)) <;> (try simp only [zs, ne_eq] at h) <;> (try simp (disch := omega) only [w64] at h) <;> (try exact zx)) | (with_reducible intro hz; (try exact absurd hz (Nat.succ_ne_zero _)))))
  refine loopW tabOk (E := [(98, s_word), (134, (s_anyTh 135)), (102, s_fOk), (49, s_num), (50, s_cmp), (136, s_gw), (137, s_vScale), (138, s_ver)]) ⟨ok_isWord, ok_anyTh, ok_ValidFrac, ok_num, ok_compare, ok_isGrowth, ok_ValidScale, ok_ValidVernier, trivial⟩ [(6, [(12, 2)])] (σ := Nat) (fun i => [(1, .ptr 2 0 0), (6, .sl 1 t m y), (7, .int .i64 m), (8, .int .i64 i)]) (fun i => [.arr (.prod (.int .i64) (.int .i64)) l 2 wr, .arr (.prod .str (.prod (.prod (.int .i64) (.int .i64)) (.prod (.int .i64) (.int .i64)))) T 5 wT, .box [.int .i64 up, .int .i64 uq, .sl 0 s n x, .int .i64 vp, .bool vb, .int .i64 gp, .int .i64 gq, .sl 1 t m y] true false]) (fun i => m - i) (fun i => i ≤ m ∧ ∀ (j : Nat) (a : ThT), j < i → (seg T t m)[j]? = some a → thB (seg T t m) j a = true) 0 ⟨Nat.zero_le _, fun j a hj => by omega⟩ ?_ ?_
  · (repeat' ((try (conv => whnf)); first | (with_reducible first | refine And.intro ?_ ?_ | refine WX.of ?_) | exact zc | ((with_reducible refine VC.mk ?_); exact zw) | (with_reducible first | refine splitT ?_ | refine splitF ?_) | ((with_reducible refine splitM.mk (fun hsm => ?_) (fun hsm => ?_)) <;> (try exact zx)) | ((with_reducible refine splitB.mk (fun h => ?_) (fun h => ?_)) <;> (try simp only [zs, ne_eq] at h) <;> (try simp (disch := omega) only [w64] at h) <;> (try exact zx)) | (with_reducible intro hz; (try exact absurd hz (Nat.succ_ne_zero _)))))
  · intro i ⟨hi, hp⟩
    by_cases hlt : i < m
    · obtain ⟨⟨nm, ⟨p, q⟩, r, s0⟩, ha⟩ := get_some (l := seg T t m) (i := i) (by omega)
      have hno := ho _ _ (seg_get ha).1
      dsimp only at hno
      have hsg := seg_take (l := T) (s := t) (m := m) (i := i) (by omega)
      (repeat' ((try (conv => whnf)); first | (with_reducible first | refine And.intro ?_ ?_ | refine WX.of ?_) | exact zc | ((with_reducible refine VC.mk ?_); exact zw) | with_reducible refine atL_i ha ?_ | (with_reducible first | refine splitT ?_ | refine splitF ?_) | ((with_reducible refine splitM.mk (fun hsm => ?_) (fun hsm => ?_)) <;> (try exact zx)) | ((with_reducible refine splitB.mk (fun h => ?_) (fun h => ?_)) <;> (try simp only [zs, ne_eq] at h) <;> (try simp (disch := omega) only [w64] at h) <;> (try exact zx)) | (with_reducible intro hz; (try exact absurd hz (Nat.succ_ne_zero _)))))
      · exact ⟨congrArg SV.bool (by rw [bn_no ha (by simp only [thB, h, Bool.false_and])])⟩
      · rw [Int.toNat_natCast, hsg] at h
        exact ⟨congrArg SV.bool (by rw [bn_no ha (by simp only [thB, h, Bool.not_true, Bool.and_false, Bool.false_and])])⟩
      · exact ⟨congrArg SV.bool (by rw [bn_no ha (by simp only [thB, wi_no0 h, Bool.and_false, Bool.false_and])])⟩
      · exact ⟨congrArg SV.bool (by rw [bn_no ha (by simp only [thB, wi_no1 h, Bool.and_false, Bool.false_and])])⟩
      · exact ⟨⟨smF_ok (by assumption), smF_1 (by omega)⟩⟩
      · exact ⟨congrArg SV.bool (by rw [bn_no ha (by simp only [thB, wi_no2 h, Bool.and_false, Bool.false_and])])⟩
      · exact ⟨congrArg SV.bool (by rw [bn_no ha (by simp only [thB, h, Bool.and_false])])⟩
      · rename_i hw hn hf hp0 hcm
        rw [Int.toNat_natCast, hsg] at hn
        have hth : thB (seg T t m) i (nm, (p, q), r, s0) = true := by
          simp only [thB, wi_yes hf hp0 hcm, hw, hn, h, Bool.not_false, Bool.and_self]
        refine ⟨i + 1, by omega, ⟨hlt, upto_step2 ha hth hp⟩, ?_⟩
        (repeat' ((try (conv => whnf)); first | (with_reducible first | refine And.intro ?_ ?_ | refine WX.of ?_) | exact zc | ((with_reducible refine VC.mk ?_); exact zw) | (with_reducible first | refine splitT ?_ | refine splitF ?_) | ((with_reducible refine splitM.mk (fun hsm => ?_) (fun hsm => ?_)) <;> (try exact zx)) | ((with_reducible refine splitB.mk (fun h => ?_) (fun h => ?_)) <;> (try simp only [zs, ne_eq] at h) <;> (try simp (disch := omega) only [w64] at h) <;> (try exact zx)) | (with_reducible intro hz; (try exact absurd hz (Nat.succ_ne_zero _)))))
    · obtain rfl : i = m := by omega
      have hbn := bn_yes (up := up) (uq := uq) (vp := vp) (gp := gp) (gq := gq) (E := seg l s n) (T := seg T t i) fun k a ha => hp k a (by have := (List.getElem?_eq_some_iff.1 ha).1; omega) ha
      (repeat' ((try (conv => whnf)); first | (with_reducible first | refine And.intro ?_ ?_ | refine WX.of ?_) | exact zc | ((with_reducible refine VC.mk ?_); exact zw) | (with_reducible first | refine splitT ?_ | refine splitF ?_) | ((with_reducible refine splitM.mk (fun hsm => ?_) (fun hsm => ?_)) <;> (try exact zx)) | ((with_reducible refine splitB.mk (fun h => ?_) (fun h => ?_)) <;> (try simp only [zs, ne_eq] at h) <;> (try simp (disch := omega) only [w64] at h) <;> (try exact zx)) | (with_reducible intro hz; (try exact absurd hz (Nat.succ_ne_zero _)))))
      · rename_i hsc hv
        exact ⟨congrArg SV.bool (by rw [hbn, hM, hsc, h, show decide (2 ≤ vp ∧ vp ≤ 40) = true from decide_eq_true hv, Bool.true_and, Bool.true_and, Bool.true_and, decide_eq_decide]; omega)⟩
      · exact ⟨congrArg SV.bool (by rw [hbn, h, Bool.and_false, Bool.false_and])⟩
      · exact ⟨congrArg SV.bool (by rw [hbn, decide_eq_false h, Bool.and_false, Bool.false_and, Bool.false_and])⟩
      · exact ⟨congrArg SV.bool (by rw [hbn, h, Bool.false_and, Bool.false_and, Bool.false_and])⟩
def s_l07Ok : Spec := fun args S => match args, S with
  | [.ptr 0 0 0], [.box [.int .i64 up, .int .i64 uq, .sl 1 s n x, .int .i64 vp, .bool vb, .int .i64 gp, .int .i64 gq, .sl 2 t m y] true false, .arr (.prod (.int .i64) (.int .i64)) l 2 wr, .arr (.prod .str (.prod (.prod (.int .i64) (.int .i64)) (.prod (.int .i64) (.int .i64)))) T 5 wT] => ⟨(s + n ≤ l.length ∧ n ≤ 1048576) ∧ (t + m ≤ T.length ∧ m ≤ 1048576) ∧ ∀ (j : Nat) (a : ThT), T[j]? = some a → a.1.length < 9223372036854775808, .bool (bnB up uq vp gp gq (seg l s n) (seg T t m)), [.box [.int .i64 up, .int .i64 uq, .sl 1 s n x, .int .i64 vp, .bool vb, .int .i64 gp, .int .i64 gq, .sl 2 t m y] true false, .arr (.prod (.int .i64) (.int .i64)) l 2 wr, .arr (.prod .str (.prod (.prod (.int .i64) (.int .i64)) (.prod (.int .i64) (.int .i64)))) T 5 wT]⟩
  | _, _ => noSpec
theorem ok_l07Ok : SpecOk Tryz.prog 70 s_l07Ok := by
  intro args S h; unfold s_l07Ok at h ⊢; (split at h <;> first | exact False.elim h | skip)
  dsimp only at h ⊢
  rename_i up uq s n x vp vb gp gq t m y l wr T wT
  obtain ⟨⟨h1, h2⟩, ⟨h3, h4⟩, ho⟩ := h
  have hL := seg_len h1
  have hM := seg_len h3
  refine funW tabOk (E := [(124, s_l02Ok), (125, s_l02Ver), (126, s_gw), (127, s_word), (128, s_wi)]) ⟨ok_l02Ok, ok_l02Vernier, ok_l07Grows, ok_l07Name, ok_l02Within, trivial⟩ [] (k := 3) (fn := Tryz.f70) rfl rfl rfl rfl rfl rfl ?_
  (repeat' ((try (conv => whnf)); first | (with_reducible first | refine And.intro ?_ ?_ | refine WX.of ?_) | exact zc | ((with_reducible refine VC.mk ?_); exact zw) | (with_reducible first | refine splitT ?_ | refine splitF ?_) | ((with_reducible refine splitM.mk (fun hsm => ?_) (fun hsm => ?_)) <;> (try exact zx)) | ((with_reducible refine splitB.mk (fun h => ?_) (fun h => ?_)) <;> (try simp only [zs, ne_eq] at h) <;> (try simp (disch := omega) only [w64] at h) <;> (try exact zx)) | (with_reducible intro hz; (try exact absurd hz (Nat.succ_ne_zero _)))))
  · exact ⟨congrArg SV.bool (by unfold bnB; rw [h, Bool.false_and, Bool.false_and, Bool.false_and, Bool.false_and])⟩
  · exact ⟨congrArg SV.bool (by unfold bnB; rw [decide_eq_false h, Bool.and_false, Bool.false_and, Bool.false_and, Bool.false_and])⟩
  · exact ⟨congrArg SV.bool (by unfold bnB; rw [h, Bool.and_false, Bool.false_and, Bool.false_and])⟩
  · exact ⟨congrArg SV.bool (by unfold bnB; rw [hM, show decide (m ≤ 10) = false from decide_eq_false (by omega), Bool.and_false, Bool.false_and])⟩
  · rename_i hsc hv hg
    have hm10 := h
    refine loopW tabOk (E := [(124, s_l02Ok), (125, s_l02Ver), (126, s_gw), (127, s_word), (128, s_wi)]) ⟨ok_l02Ok, ok_l02Vernier, ok_l07Grows, ok_l07Name, ok_l02Within, trivial⟩ [] (σ := Nat) (fun i => [(0, .ptr 0 0 0), (3, .int .i64 i)]) (fun i => [.box [.int .i64 up, .int .i64 uq, .sl 1 s n x, .int .i64 vp, .bool vb, .int .i64 gp, .int .i64 gq, .sl 2 t m y] true false, .arr (.prod (.int .i64) (.int .i64)) l 2 wr, .arr (.prod .str (.prod (.prod (.int .i64) (.int .i64)) (.prod (.int .i64) (.int .i64)))) T 5 wT]) (fun i => m - i) (fun i => i ≤ m ∧ ∀ (j : Nat) (a : ThT), j < i → (seg T t m)[j]? = some a → thB (seg T t m) j a = true) 0 ⟨Nat.zero_le _, fun j a hj => by omega⟩ ?_ ?_
    · (repeat' ((try (conv => whnf)); first | (with_reducible first | refine And.intro ?_ ?_ | refine WX.of ?_) | exact zc | ((with_reducible refine VC.mk ?_); exact zw) | (with_reducible first | refine splitT ?_ | refine splitF ?_) | ((with_reducible refine splitM.mk (fun hsm => ?_) (fun hsm => ?_)) <;> (try exact zx)) | ((with_reducible refine splitB.mk (fun h => ?_) (fun h => ?_)) <;> (try simp only [zs, ne_eq] at h) <;> (try simp (disch := omega) only [w64] at h) <;> (try exact zx)) | (with_reducible intro hz; (try exact absurd hz (Nat.succ_ne_zero _)))))
    · intro i ⟨hi, hp⟩
      by_cases hlt : i < m
      · obtain ⟨⟨nm, ⟨p, q⟩, r, s0⟩, ha⟩ := get_some (l := seg T t m) (i := i) (by omega)
        have hno := ho _ _ (seg_get ha).1
        dsimp only at hno
        (repeat' ((try (conv => whnf)); first | (with_reducible first | refine And.intro ?_ ?_ | refine WX.of ?_) | exact zc | ((with_reducible refine VC.mk ?_); exact zw) | with_reducible refine atL_i ha ?_ | (with_reducible first | refine splitT ?_ | refine splitF ?_) | ((with_reducible refine splitM.mk (fun hsm => ?_) (fun hsm => ?_)) <;> (try exact zx)) | ((with_reducible refine splitB.mk (fun h => ?_) (fun h => ?_)) <;> (try simp only [zs, ne_eq] at h) <;> (try simp (disch := omega) only [w64] at h) <;> (try exact zx)) | (with_reducible intro hz; (try exact absurd hz (Nat.succ_ne_zero _)))))
        · exact ⟨congrArg SV.bool (by rw [bn_no ha (by simp only [thB, h, Bool.false_and])])⟩
        · exact ⟨congrArg SV.bool (by rw [bn_no ha (by simp only [thB, h, Bool.and_false, Bool.false_and])])⟩
        · exact ⟨congrArg SV.bool (by rw [bn_no ha (by simp only [thB, h, Bool.and_false])])⟩
        · rename_i hw hwi
          have hgw := h
          refine loopW tabOk (E := [(124, s_l02Ok), (125, s_l02Ver), (126, s_gw), (127, s_word), (128, s_wi)]) ⟨ok_l02Ok, ok_l02Vernier, ok_l07Grows, ok_l07Name, ok_l02Within, trivial⟩ [] (σ := Nat) (fun j => [(0, .ptr 0 0 0), (3, .int .i64 i), (4, .ptr 2 (t + i) 0), (5, .int .i64 j)]) (fun j => [.box [.int .i64 up, .int .i64 uq, .sl 1 s n x, .int .i64 vp, .bool vb, .int .i64 gp, .int .i64 gq, .sl 2 t m y] true false, .arr (.prod (.int .i64) (.int .i64)) l 2 wr, .arr (.prod .str (.prod (.prod (.int .i64) (.int .i64)) (.prod (.int .i64) (.int .i64)))) T 5 wT]) (fun j => i - j) (fun j => j ≤ i ∧ ∀ (k : Nat) (a : ThT), k < j → (seg T t m)[k]? = some a → decide (a.1 = nm) = false) 0 ⟨Nat.zero_le _, fun j a hj => by omega⟩ ?_ ?_
          · (repeat' ((try (conv => whnf)); first | (with_reducible first | refine And.intro ?_ ?_ | refine WX.of ?_) | exact zc | ((with_reducible refine VC.mk ?_); exact zw) | (with_reducible first | refine splitT ?_ | refine splitF ?_) | ((with_reducible refine splitM.mk (fun hsm => ?_) (fun hsm => ?_)) <;> (try exact zx)) | ((with_reducible refine splitB.mk (fun h => ?_) (fun h => ?_)) <;> (try simp only [zs, ne_eq] at h) <;> (try simp (disch := omega) only [w64] at h) <;> (try exact zx)) | (with_reducible intro hz; (try exact absurd hz (Nat.succ_ne_zero _)))))
          · intro j ⟨hj, hq⟩
            by_cases hjl : j < i
            · obtain ⟨⟨nm', ⟨p', q'⟩, r', s0'⟩, hb⟩ := get_some (l := seg T t m) (i := j) (by omega)
              (repeat' ((try (conv => whnf)); first | (with_reducible first | refine And.intro ?_ ?_ | refine WX.of ?_) | exact zc | ((with_reducible refine VC.mk ?_); exact zw) | with_reducible refine atL_i hb ?_ | with_reducible refine atL_p (seg_get ha).1 ?_ | (with_reducible first | refine splitT ?_ | refine splitF ?_) | ((with_reducible refine splitM.mk (fun hsm => ?_) (fun hsm => ?_)) <;> (try exact zx)) | ((with_reducible refine splitB.mk (fun h => ?_) (fun h => ?_)) <;> (try simp only [zs, ne_eq] at h) <;> (try simp (disch := omega) only [w64] at h) <;> (try exact zx)) | (with_reducible intro hz; (try exact absurd hz (Nat.succ_ne_zero _)))))
              · exact ⟨congrArg SV.bool (by rw [bn_no ha (by simp only [thB, any_take hb hjl (p := fun o : ThT => decide (o.1 = nm)) (decide_eq_true h), Bool.not_true, Bool.and_false, Bool.false_and])])⟩
              · refine ⟨j + 1, by omega, ⟨hjl, upto_step hb (decide_eq_false h) hq⟩, ?_⟩
                (repeat' ((try (conv => whnf)); first | (with_reducible first | refine And.intro ?_ ?_ | refine WX.of ?_) | exact zc | ((with_reducible refine VC.mk ?_); exact zw) | (with_reducible first | refine splitT ?_ | refine splitF ?_) | ((with_reducible refine splitM.mk (fun hsm => ?_) (fun hsm => ?_)) <;> (try exact zx)) | ((with_reducible refine splitB.mk (fun h => ?_) (fun h => ?_)) <;> (try simp only [zs, ne_eq] at h) <;> (try simp (disch := omega) only [w64] at h) <;> (try exact zx)) | (with_reducible intro hz; (try exact absurd hz (Nat.succ_ne_zero _)))))
            · have han : ((seg T t m).take i).any (fun o : ThT => decide (o.1 = nm)) = false := any_no fun k a hk => by
                rw [List.getElem?_take] at hk
                split at hk
                · exact hq k a (by omega) hk
                · simp at hk
              have hth : thB (seg T t m) i (nm, (p, q), r, s0) = true := by
                simp only [thB, hw, hwi, hgw, han, Bool.not_false, Bool.and_self]
              (repeat' ((try (conv => whnf)); first | (with_reducible first | refine And.intro ?_ ?_ | refine WX.of ?_) | exact zc | ((with_reducible refine VC.mk ?_); exact zw) | (with_reducible first | refine splitT ?_ | refine splitF ?_) | ((with_reducible refine splitM.mk (fun hsm => ?_) (fun hsm => ?_)) <;> (try exact zx)) | ((with_reducible refine splitB.mk (fun h => ?_) (fun h => ?_)) <;> (try simp only [zs, ne_eq] at h) <;> (try simp (disch := omega) only [w64] at h) <;> (try exact zx)) | (with_reducible intro hz; (try exact absurd hz (Nat.succ_ne_zero _)))))
              refine ⟨i + 1, by omega, ⟨hlt, upto_step2 ha hth hp⟩, ?_⟩
              (repeat' ((try (conv => whnf)); first | (with_reducible first | refine And.intro ?_ ?_ | refine WX.of ?_) | exact zc | ((with_reducible refine VC.mk ?_); exact zw) | (with_reducible first | refine splitT ?_ | refine splitF ?_) | ((with_reducible refine splitM.mk (fun hsm => ?_) (fun hsm => ?_)) <;> (try exact zx)) | ((with_reducible refine splitB.mk (fun h => ?_) (fun h => ?_)) <;> (try simp only [zs, ne_eq] at h) <;> (try simp (disch := omega) only [w64] at h) <;> (try exact zx)) | (with_reducible intro hz; (try exact absurd hz (Nat.succ_ne_zero _)))))
      · obtain rfl : i = m := by omega
        have hbn := bn_yes (up := up) (uq := uq) (vp := vp) (gp := gp) (gq := gq) (E := seg l s n) (T := seg T t i) fun k a ha => hp k a (by have := (List.getElem?_eq_some_iff.1 ha).1; omega) ha
        (repeat' ((try (conv => whnf)); first | (with_reducible first | refine And.intro ?_ ?_ | refine WX.of ?_) | exact zc | ((with_reducible refine VC.mk ?_); exact zw) | (with_reducible first | refine splitT ?_ | refine splitF ?_) | ((with_reducible refine splitM.mk (fun hsm => ?_) (fun hsm => ?_)) <;> (try exact zx)) | ((with_reducible refine splitB.mk (fun h => ?_) (fun h => ?_)) <;> (try simp only [zs, ne_eq] at h) <;> (try simp (disch := omega) only [w64] at h) <;> (try exact zx)) | (with_reducible intro hz; (try exact absurd hz (Nat.succ_ne_zero _)))))
        exact ⟨congrArg SV.bool (by rw [hbn, hM, hsc, hg, show decide (2 ≤ vp ∧ vp ≤ 40) = true from decide_eq_true hv, show decide (i ≤ 10) = true from decide_eq_true (by omega)]; rfl)⟩
abbrev ShT : Type := Int × (Int × Int) × (Int × Int)
/-- A valid shot on m things. -/
def shB (m : Nat) (c : ShT) : Bool := decide (0 ≤ c.1 ∧ c.1 ≤ (m : Int) - 1) && fOk c.2.1.1 c.2.1.2 && decide ((c.2.1.1.natAbs : Int) ≤ 100 * c.2.1.2) && fOk c.2.2.1 c.2.2.2
theorem sh_no1 {m : Nat} {i wp wq sp sq : Int} (h : ¬ (0 ≤ i ∧ i ≤ (m : Int) - 1)) : shB m (i, (wp, wq), sp, sq) = false := by
  simp only [shB, decide_eq_false h, Bool.false_and]
theorem sh_no2 {m : Nat} {i wp wq sp sq : Int} (h : (fOk wp wq && fOk sp sq) = false) : shB m (i, (wp, wq), sp, sq) = false := by
  unfold shB
  dsimp only
  cases h1 : fOk wp wq
  · simp
  · cases h2 : fOk sp sq
    · simp
    · rw [h1, h2] at h; simp at h
theorem sh_no3 {m : Nat} {i wp wq sp sq : Int} (h : ¬ (wp.natAbs : Int) ≤ 100 * wq) : shB m (i, (wp, wq), sp, sq) = false := by
  simp only [shB, decide_eq_false h, Bool.and_false, Bool.false_and]
theorem sh_yes {m : Nat} {i wp wq sp sq : Int} (h1 : 0 ≤ i ∧ i ≤ (m : Int) - 1) (h2 : fOk wp wq = true) : shB m (i, (wp, wq), sp, sq) = (decide ((wp.natAbs : Int) ≤ 100 * wq) && fOk sp sq) := by
  simp only [shB, decide_eq_true h1, h2, Bool.true_and]
theorem smF_abs {p q : Int} (h : smF p q) : smF (p.natAbs : Int) q := by unfold smF at h ⊢; omega
theorem abs_in {p q : Int} (h : fOk p q = true) : -9223372036854775808 < p ∧ p < 9223372036854775808 := by
  have := smF_ok h; unfold smF at this; omega
theorem w100 {p q : Int} (h : fOk p q = true) : IntKind.i64.wrap (100 * q) = 100 * q := by
  have := smF_ok h; unfold smF at this; rw [w64 (by omega)]
def s_isThing : Spec := fun args S => match args, S with
  | [.agg [.int .i64 up, .int .i64 uq, .sl 0 s n x, .int .i64 vp, .bool vb, .int .i64 gp, .int .i64 gq, .sl 1 t m y], .int .i64 i], [.arr (.prod (.int .i64) (.int .i64)) l 2 wr, .arr (.prod .str (.prod (.prod (.int .i64) (.int .i64)) (.prod (.int .i64) (.int .i64)))) T 5 wT] => ⟨m ≤ 1048576, .bool (decide (0 ≤ i ∧ i ≤ (m : Int) - 1)), [.arr (.prod (.int .i64) (.int .i64)) l 2 wr, .arr (.prod .str (.prod (.prod (.int .i64) (.int .i64)) (.prod (.int .i64) (.int .i64)))) T 5 wT]⟩
  | _, _ => noSpec
theorem ok_isThing : SpecOk Tryz.prog 196 s_isThing := by
  intro args S h; unfold s_isThing at h ⊢; (split at h <;> first | exact False.elim h | skip)
  dsimp only at h ⊢
  refine funW tabOk (E := [(101, s_within)]) ⟨ok_within, trivial⟩ [] (k := 2) (fn := Tryz.f196) rfl rfl rfl rfl rfl rfl ?_
  (repeat' ((try (conv => whnf)); first | (with_reducible first | refine And.intro ?_ ?_ | refine WX.of ?_) | exact zc | ((with_reducible refine VC.mk ?_); exact zw) | (with_reducible first | refine splitT ?_ | refine splitF ?_) | ((with_reducible refine splitM.mk (fun hsm => ?_) (fun hsm => ?_)) <;> (try exact zx)) | ((with_reducible refine splitB.mk (fun h => ?_) (fun h => ?_)) <;> (try simp only [zs, ne_eq] at h) <;> (try simp (disch := omega) only [w64] at h) <;> (try exact zx)) | (with_reducible intro hz; (try exact absurd hz (Nat.succ_ne_zero _)))))
  exact ⟨by rw [w64 (by omega)]⟩
def s_vShot : Spec := fun args S => match args, S with
  | [.agg [.int .i64 up, .int .i64 uq, .sl 0 s n x, .int .i64 vp, .bool vb, .int .i64 gp, .int .i64 gq, .sl 1 t m y], .agg [.int .i64 i, .int .i64 wp, .int .i64 wq, .int .i64 sp, .int .i64 sq]], [.arr (.prod (.int .i64) (.int .i64)) l 2 wr, .arr (.prod .str (.prod (.prod (.int .i64) (.int .i64)) (.prod (.int .i64) (.int .i64)))) T 5 wT] => ⟨(s + n ≤ l.length ∧ n ≤ 1048576) ∧ (t + m ≤ T.length ∧ m ≤ 1048576) ∧ ∀ (j : Nat) (a : ThT), T[j]? = some a → a.1.length < 9223372036854775808, .bool (bnB up uq vp gp gq (seg l s n) (seg T t m) && shB m (i, (wp, wq), sp, sq)), [.arr (.prod (.int .i64) (.int .i64)) l 2 wr, .arr (.prod .str (.prod (.prod (.int .i64) (.int .i64)) (.prod (.int .i64) (.int .i64)))) T 5 wT]⟩
  | _, _ => noSpec
theorem ok_ValidShotI : SpecOk Tryz.prog 187 s_vShot := by
  intro args S h; unfold s_vShot at h ⊢; (split at h <;> first | exact False.elim h | skip)
  dsimp only at h ⊢
  rename_i up uq s n x vp vb gp gq t m y i wp wq sp sq l wr T wT
  have hq := h
  have hc := cmpF_le (p := (wp.natAbs : Int)) (q := wq) (p' := 100) (q' := 1)
  refine funW tabOk (E := [(82, s_vBench), (196, s_isThing), (61, s_allF), (163, s_size), (49, s_num), (50, s_cmp)]) ⟨ok_ValidBenchI, ok_isThing, ok_areValid, ok_size, ok_num, ok_compare, trivial⟩ [] (k := 2) (fn := Tryz.f187) rfl rfl rfl rfl rfl rfl ?_
  (repeat' ((try (conv => whnf)); first | (with_reducible first | refine And.intro ?_ ?_ | refine WX.of ?_) | exact zc | ((with_reducible refine VC.mk ?_); exact zw) | ((with_reducible refine VC.mk ?_); exact hq) | ((with_reducible refine VC.mk ?_); exact ⟨Nat.le_refl 2, (by omega)⟩) | (with_reducible first | refine splitT ?_ | refine splitF ?_) | ((with_reducible refine splitM.mk (fun hsm => ?_) (fun hsm => ?_)) <;> (try exact zx)) | ((with_reducible refine splitB.mk (fun h => ?_) (fun h => ?_)) <;> (try simp only [zs, ne_eq] at h) <;> (try simp (disch := omega) only [w64] at h) <;> (try exact zx)) | (with_reducible intro hz; (try exact absurd hz (Nat.succ_ne_zero _)))))
  · rw [allF_two, Bool.and_eq_true] at h
    exact ⟨smF_ok h.1⟩
  · rw [allF_two, Bool.and_eq_true] at h
    exact ⟨⟨smF_abs (smF_ok h.1), smF_1 (by omega)⟩⟩
  · rename_i hb hi
    rw [allF_two, Bool.and_eq_true] at h
    exact ⟨congrArg SV.bool (by rw [hb, Bool.true_and, sh_yes hi h.1, h.2, Bool.and_true, decide_eq_decide, hc]; omega)⟩
  · rw [allF_two] at h
    exact ⟨congrArg SV.bool (by rw [sh_no2 h, Bool.and_false])⟩
  · exact ⟨congrArg SV.bool (by rw [sh_no1 h, Bool.and_false])⟩
  · exact ⟨congrArg SV.bool (by rw [h, Bool.false_and])⟩
def s_toShot : Spec := fun args S => match args, S with
  | [.agg [.int .i64 i, .int .i64 wp, .int .i64 wq, .int .i64 sp, .int .i64 sq]], [] => ⟨True, .agg [.int .i64 i, .int .i64 wp, .int .i64 wq, .int .i64 sp, .int .i64 sq], []⟩
  | _, _ => noSpec
theorem ok_toShot : SpecOk Tryz.prog 79 s_toShot := by
  intro args S h; unfold s_toShot at h ⊢; (split at h <;> first | exact False.elim h | skip)
  dsimp only at h ⊢
  refine funW tabOk (E := [(77, s_toFrac)]) ⟨ok_toFrac, trivial⟩ [] (k := 0) (fn := Tryz.f79) rfl rfl rfl rfl rfl rfl ?_
  (repeat' ((try (conv => whnf)); first | (with_reducible first | refine And.intro ?_ ?_ | refine WX.of ?_) | exact zc | ((with_reducible refine VC.mk ?_); exact zw) | (with_reducible first | refine splitT ?_ | refine splitF ?_) | ((with_reducible refine splitM.mk (fun hsm => ?_) (fun hsm => ?_)) <;> (try exact zx)) | ((with_reducible refine splitB.mk (fun h => ?_) (fun h => ?_)) <;> (try simp only [zs, ne_eq] at h) <;> (try simp (disch := omega) only [w64] at h) <;> (try exact zx)) | (with_reducible intro hz; (try exact absurd hz (Nat.succ_ne_zero _)))))
end Go.Proofs.YtonnkpclllmkoaaGreat.Eng
set_option linter.unusedVariables false
set_option linter.unusedSimpArgs false
namespace Go.Proofs.YtonnkpclllmkoaaGreat.Eng
open Go Go.RowKit
set_option maxRecDepth 100000
/-- Fractions that may fail. -/
abbrev FrT : Type := Int × Int
def rO (p q : Int) : Option FrT := if redOk p q = true then some (redP p q, redQ p q) else none
def adO (a b : FrT) : Option FrT := rO (a.1 * b.2 + b.1 * a.2) (a.2 * b.2)
def sbO (a b : FrT) : Option FrT := rO (a.1 * b.2 - b.1 * a.2) (a.2 * b.2)
def muO (a b : FrT) : Option FrT := rO (a.1 * b.1) (a.2 * b.2)
def dvO (a b : FrT) : Option FrT := if b.1 = 0 then none else rO (a.1 * b.2) (a.2 * b.1)
def tv (o : Option FrT) : FrT := o.getD (0, 1)
def zv (o : Option FrT) : FrT := o.getD (0, 0)
def oC (o : Option FrT) : Int := if o.isSome = true then 0 else 3
theorem tv_r (p q : Int) : tolP p q = (tv (rO p q)).1 ∧ tolQ p q = (tv (rO p q)).2 ∧ redOk p q = (rO p q).isSome := by
  unfold tolP tolQ rO tv
  cases redOk p q <;> simp
theorem zv_r (p q : Int) : rdP p q = (zv (rO p q)).1 ∧ rdQ p q = (zv (rO p q)).2 ∧ rdC p q = oC (rO p q) := by
  unfold rdP rdQ rdC rO zv oC
  cases redOk p q <;> simp
theorem smF_tv (o : Option FrT) (h : ∀ v, o = some v → smF v.1 v.2) : smF (tv o).1 (tv o).2 := by
  cases o with
  | none => exact smF_1 (n := 0) (by omega)
  | some v => exact h v rfl
theorem rO_f {p q : Int} {v : FrT} (h : rO p q = some v) : fOk v.1 v.2 = true := by
  unfold rO at h
  split at h
  · rename_i hk; obtain rfl := Option.some.inj h; exact hk
  · simp at h
theorem smF_rO (p q : Int) : smF (tv (rO p q)).1 (tv (rO p q)).2 := smF_tv _ fun v h => smF_ok (rO_f h)
theorem smF_dv (a b : FrT) : smF (tv (dvO a b)).1 (tv (dvO a b)).2 := by
  unfold dvO; split
  · exact smF_1 (n := 0) (by omega)
  · exact smF_rO _ _
def s_addO : Spec := fun args S => match args, S with
  | [.ptr b 0 0, .agg [.int .i64 p, .int .i64 q], .agg [.int .i64 p', .int .i64 q']], [.arr .bool [bad] 0 true] => ⟨b = 0 ∧ smF p q ∧ smF p' q', .agg [.int .i64 (tv (adO (p, q) (p', q'))).1, .int .i64 (tv (adO (p, q) (p', q'))).2], [.arr .bool [bad || !(adO (p, q) (p', q')).isSome] 0 true]⟩
  | _, _ => noSpec
def s_subO : Spec := fun args S => match args, S with
  | [.ptr b 0 0, .agg [.int .i64 p, .int .i64 q], .agg [.int .i64 p', .int .i64 q']], [.arr .bool [bad] 0 true] => ⟨b = 0 ∧ smF p q ∧ smF p' q', .agg [.int .i64 (tv (sbO (p, q) (p', q'))).1, .int .i64 (tv (sbO (p, q) (p', q'))).2], [.arr .bool [bad || !(sbO (p, q) (p', q')).isSome] 0 true]⟩
  | _, _ => noSpec
def s_mulO : Spec := fun args S => match args, S with
  | [.ptr b 0 0, .agg [.int .i64 p, .int .i64 q], .agg [.int .i64 p', .int .i64 q']], [.arr .bool [bad] 0 true] => ⟨b = 0 ∧ smF p q ∧ smF p' q', .agg [.int .i64 (tv (muO (p, q) (p', q'))).1, .int .i64 (tv (muO (p, q) (p', q'))).2], [.arr .bool [bad || !(muO (p, q) (p', q')).isSome] 0 true]⟩
  | _, _ => noSpec
def s_divO : Spec := fun args S => match args, S with
  | [.ptr b 0 0, .agg [.int .i64 p, .int .i64 q], .agg [.int .i64 p', .int .i64 q']], [.arr .bool [bad] 0 true] => ⟨b = 0 ∧ smF p q ∧ smF p' q', .agg [.int .i64 (tv (dvO (p, q) (p', q'))).1, .int .i64 (tv (dvO (p, q) (p', q'))).2], [.arr .bool [bad || !(dvO (p, q) (p', q')).isSome] 0 true]⟩
  | _, _ => noSpec
theorem ok_addO : SpecOk Tryz.prog 44 s_addO := by
  intro args S h; unfold s_addO at h ⊢; (split at h <;> first | exact False.elim h | skip)
  dsimp only at h ⊢
  rename_i b p q p' q' bad
  have h2 := ok_add [.ptr b 0 0, .agg [.int .i64 p, .int .i64 q], .agg [.int .i64 p', .int .i64 q']] [.arr .bool [bad] 0 true] h
  have e := tv_r (p * q' + p' * q) (q * q')
  simp only [s_add, e.1, e.2.1, e.2.2] at h2
  exact h2
theorem ok_subO : SpecOk Tryz.prog 47 s_subO := by
  intro args S h; unfold s_subO at h ⊢; (split at h <;> first | exact False.elim h | skip)
  dsimp only at h ⊢
  rename_i b p q p' q' bad
  have h2 := ok_sub [.ptr b 0 0, .agg [.int .i64 p, .int .i64 q], .agg [.int .i64 p', .int .i64 q']] [.arr .bool [bad] 0 true] h
  have e := tv_r (p * q' - p' * q) (q * q')
  simp only [s_sub, e.1, e.2.1, e.2.2] at h2
  exact h2
theorem ok_mulO : SpecOk Tryz.prog 48 s_mulO := by
  intro args S h; unfold s_mulO at h ⊢; (split at h <;> first | exact False.elim h | skip)
  dsimp only at h ⊢
  rename_i b p q p' q' bad
  have h2 := ok_mul [.ptr b 0 0, .agg [.int .i64 p, .int .i64 q], .agg [.int .i64 p', .int .i64 q']] [.arr .bool [bad] 0 true] h
  have e := tv_r (p * p') (q * q')
  simp only [s_mul, e.1, e.2.1, e.2.2] at h2
  exact h2
theorem dv_r (p q p' q' : Int) : divP p q p' q' = (tv (dvO (p, q) (p', q'))).1 ∧ divQ p q p' q' = (tv (dvO (p, q) (p', q'))).2 ∧ divOk p q p' q' = (dvO (p, q) (p', q')).isSome := by
  have e := tv_r (p * q') (q * p')
  unfold divP divQ divOk dvO
  by_cases h : p' = 0
  · simp [h, tv]
  · simp [h, e.1, e.2.1, e.2.2]
theorem ok_divO : SpecOk Tryz.prog 179 s_divO := by
  intro args S h; unfold s_divO at h ⊢; (split at h <;> first | exact False.elim h | skip)
  dsimp only at h ⊢
  rename_i b p q p' q' bad
  have h2 := ok_div [.ptr b 0 0, .agg [.int .i64 p, .int .i64 q], .agg [.int .i64 p', .int .i64 q']] [.arr .bool [bad] 0 true] h
  have e := dv_r p q p' q'
  simp only [s_div, e.1, e.2.1, e.2.2] at h2
  exact h2
def s_addZ : Spec := fun args S => match args, S with
  | [.agg [.int .i64 p, .int .i64 q], .agg [.int .i64 p', .int .i64 q']], [] => ⟨smF p q ∧ smF p' q', .tup [.agg [.int .i64 (zv (adO (p, q) (p', q'))).1, .int .i64 (zv (adO (p, q) (p', q'))).2], .int .i64 (oC (adO (p, q) (p', q')))], []⟩
  | _, _ => noSpec
def s_mulZ : Spec := fun args S => match args, S with
  | [.agg [.int .i64 p, .int .i64 q], .agg [.int .i64 p', .int .i64 q']], [] => ⟨smF p q ∧ smF p' q', .tup [.agg [.int .i64 (zv (muO (p, q) (p', q'))).1, .int .i64 (zv (muO (p, q) (p', q'))).2], .int .i64 (oC (muO (p, q) (p', q')))], []⟩
  | _, _ => noSpec
def s_subZ : Spec := fun args S => match args, S with
  | [.agg [.int .i64 p, .int .i64 q], .agg [.int .i64 p', .int .i64 q']], [] => ⟨smF p q ∧ smF p' q', .tup [.agg [.int .i64 (zv (sbO (p, q) (p', q'))).1, .int .i64 (zv (sbO (p, q) (p', q'))).2], .int .i64 (oC (sbO (p, q) (p', q')))], []⟩
  | _, _ => noSpec
def s_divZ : Spec := fun args S => match args, S with
  | [.agg [.int .i64 p, .int .i64 q], .agg [.int .i64 p', .int .i64 q']], [] => ⟨smF p q ∧ smF p' q' ∧ p' ≠ 0, .tup [.agg [.int .i64 (zv (dvO (p, q) (p', q'))).1, .int .i64 (zv (dvO (p, q) (p', q'))).2], .int .i64 (oC (dvO (p, q) (p', q')))], []⟩
  | _, _ => noSpec
theorem ok_l01AddZ : SpecOk Tryz.prog 57 s_addZ := by
  intro args S h; unfold s_addZ at h ⊢; (split at h <;> first | exact False.elim h | skip)
  dsimp only at h ⊢
  rename_i p q p' q'
  have h2 := ok_l01Add [.agg [.int .i64 p, .int .i64 q], .agg [.int .i64 p', .int .i64 q']] [] h
  have e := zv_r (p * q' + p' * q) (q * q')
  simp only [s_addS, e.1, e.2.1, e.2.2] at h2
  exact h2
theorem ok_l01MulZ : SpecOk Tryz.prog 55 s_mulZ := by
  intro args S h; unfold s_mulZ at h ⊢; (split at h <;> first | exact False.elim h | skip)
  dsimp only at h ⊢
  rename_i p q p' q'
  have h2 := ok_l01Mul [.agg [.int .i64 p, .int .i64 q], .agg [.int .i64 p', .int .i64 q']] [] h
  have e := zv_r (p * p') (q * q')
  simp only [s_mulS, e.1, e.2.1, e.2.2] at h2
  exact h2
def s_neg : Spec := fun args S => match args, S with
  | [.agg [.int .i64 p, .int .i64 q]], [] => ⟨smF p q, .agg [.int .i64 (-p), .int .i64 q], []⟩
  | _, _ => noSpec
theorem ok_l01Neg : SpecOk Tryz.prog 95 s_neg := by
  intro args S h; unfold s_neg at h ⊢; (split at h <;> first | exact False.elim h | skip)
  dsimp only at h ⊢
  rename_i p q
  unfold smF at h
  refine funW tabOk (E := []) trivial [] (k := 0) (fn := Tryz.f95) rfl rfl rfl rfl rfl rfl ?_
  (repeat' ((try (conv => whnf)); first | (with_reducible first | refine And.intro ?_ ?_ | refine WX.of ?_) | exact zc | ((with_reducible refine VC.mk ?_); exact zw) | (with_reducible first | refine splitT ?_ | refine splitF ?_) | ((with_reducible refine splitM.mk (fun hsm => ?_) (fun hsm => ?_)) <;> (try exact zx)) | ((with_reducible refine splitB.mk (fun h => ?_) (fun h => ?_)) <;> (try simp only [zs, ne_eq] at h) <;> (try simp (disch := omega) only [w64] at h) <;> (try exact zx)) | (with_reducible intro hz; (try exact absurd hz (Nat.succ_ne_zero _)))))
  exact ⟨by rw [w64 (by omega), Int.zero_sub]⟩
theorem smF_neg {p q : Int} (h : smF p q) : smF (-p) q := by unfold smF at h ⊢; omega
theorem ok_l01SubZ : SpecOk Tryz.prog 54 s_subZ := by
  intro args S h; unfold s_subZ at h ⊢; (split at h <;> first | exact False.elim h | skip)
  dsimp only at h ⊢
  rename_i p q p' q'
  have e : adO (p, q) (-p', q') = sbO (p, q) (p', q') := by unfold adO sbO; dsimp only; rw [Int.neg_mul, Int.sub_eq_add_neg]
  refine funW tabOk (E := [(95, s_neg), (57, s_addZ)]) ⟨ok_l01Neg, ok_l01AddZ, trivial⟩ [(1, [(0, 1)])] (k := 0) (fn := Tryz.f54) rfl rfl rfl rfl rfl rfl ?_
  (repeat' ((try (conv => whnf)); first | (with_reducible first | refine And.intro ?_ ?_ | refine WX.of ?_) | exact zc | ((with_reducible refine VC.mk ?_); exact zw) | ((with_reducible refine VC.mk ?_); exact h.2) | ((with_reducible refine VC.mk ?_); exact ⟨h.1, smF_neg h.2⟩) | (with_reducible first | refine splitT ?_ | refine splitF ?_) | ((with_reducible refine splitM.mk (fun hsm => ?_) (fun hsm => ?_)) <;> (try exact zx)) | ((with_reducible refine splitB.mk (fun h => ?_) (fun h => ?_)) <;> (try simp only [zs, ne_eq] at h) <;> (try simp (disch := omega) only [w64] at h) <;> (try exact zx)) | (with_reducible intro hz; (try exact absurd hz (Nat.succ_ne_zero _)))))
  all_goals exact ⟨by rw [← e]⟩
theorem ok_l01DivZ : SpecOk Tryz.prog 171 s_divZ := by
  intro args S h; unfold s_divZ at h ⊢; (split at h <;> first | exact False.elim h | skip)
  dsimp only at h ⊢
  rename_i p q p' q'
  obtain ⟨h1, h2, h3⟩ := h
  have hm := smF_mul h1 h2
  have e := zv_r (p * q') (q * p')
  have e2 : dvO (p, q) (p', q') = rO (p * q') (q * p') := if_neg h3
  have hne : q * p' ≠ 0 := Int.mul_ne_zero (by unfold smF at h1; omega) h3
  rw [e2, ← e.1, ← e.2.1, ← e.2.2]
  refine funW tabOk (E := [(113, s_red)]) ⟨ok_l01Reduced, trivial⟩ [] (k := 0) (fn := Tryz.f171) rfl rfl rfl rfl rfl rfl ?_
  (repeat' ((try (conv => whnf)); first | (with_reducible first | refine And.intro ?_ ?_ | refine WX.of ?_) | exact zc | ((with_reducible refine VC.mk ?_); exact zw) | ((with_reducible refine VC.mk ?_); (simp (disch := omega) only [w64]); (refine ⟨hne, ?_, ?_⟩); (omega); (omega)) | (with_reducible first | refine splitT ?_ | refine splitF ?_) | ((with_reducible refine splitM.mk (fun hsm => ?_) (fun hsm => ?_)) <;> (try exact zx)) | ((with_reducible refine splitB.mk (fun h => ?_) (fun h => ?_)) <;> (try simp only [zs, ne_eq] at h) <;> (try simp (disch := omega) only [w64] at h) <;> (try exact zx)) | (with_reducible intro hz; (try exact absurd hz (Nat.succ_ne_zero _)))))
  all_goals (refine ⟨?_⟩; simp (disch := omega) only [w64]; rfl)
/-- 1 + grows * warm. -/
def stO (g w : FrT) : Option FrT := (muO g w).bind fun m => adO (1, 1) m
def stV (g w : FrT) : FrT := tv (adO (1, 1) (tv (muO g w)))
theorem stV_e {g w s : FrT} (h : stO g w = some s) : stV g w = s := by
  unfold stO at h; unfold stV
  cases hm : muO g w with
  | none => rw [hm] at h; simp at h
  | some m => rw [hm] at h; simp only [Option.bind_some] at h; simp only [tv, Option.getD_some, h]
theorem smF_st (g w : FrT) : smF (stV g w).1 (stV g w).2 := smF_rO _ _
def s_strO : Spec := fun args S => match args, S with
  | [.ptr b 0 0, .agg [.int .i64 p, .int .i64 q], .agg [.int .i64 p', .int .i64 q']], [.arr .bool [bad] 0 true] => ⟨b = 0 ∧ smF p q ∧ smF p' q', .agg [.int .i64 (stV (p, q) (p', q')).1, .int .i64 (stV (p, q) (p', q')).2], [.arr .bool [bad || !(stO (p, q) (p', q')).isSome] 0 true]⟩
  | _, _ => noSpec
theorem smF_mu (a b : FrT) : smF (tv (muO a b)).1 (tv (muO a b)).2 := smF_rO _ _
theorem ok_strO : SpecOk Tryz.prog 176 s_strO := by
  intro args S h; unfold s_strO at h ⊢; (split at h <;> first | exact False.elim h | skip)
  dsimp only at h ⊢
  rename_i b p q p' q' bad
  obtain ⟨rfl, h1, h2⟩ := h
  have h3 := smF_mu (p, q) (p', q')
  have h4 : smF 1 1 := smF_1 (by omega)
  have hb : (bad || !(muO (p, q) (p', q')).isSome || !(adO (1, 1) (tv (muO (p, q) (p', q')))).isSome) = (bad || !(stO (p, q) (p', q')).isSome) := by
    unfold stO
    cases hm : muO (p, q) (p', q') with
    | none => simp
    | some m => simp [tv]
  refine funW tabOk (E := [(44, s_addO), (48, s_mulO), (49, s_num)]) ⟨ok_addO, ok_mulO, ok_num, trivial⟩ [(1, [(3, 0), (4, 0)])] (k := 1) (fn := Tryz.f176) rfl rfl rfl rfl rfl rfl ?_
  (repeat' ((try (conv => whnf)); first | (with_reducible first | refine And.intro ?_ ?_ | refine WX.of ?_) | exact zc | ((with_reducible refine VC.mk ?_); exact zw) | ((with_reducible refine VC.mk ?_); exact ⟨rfl, h1, h2⟩) | ((with_reducible refine VC.mk ?_); exact ⟨rfl, h4, h3⟩) | (with_reducible first | refine splitT ?_ | refine splitF ?_) | ((with_reducible refine splitM.mk (fun hsm => ?_) (fun hsm => ?_)) <;> (try exact zx)) | ((with_reducible refine splitB.mk (fun h => ?_) (fun h => ?_)) <;> (try simp only [zs, ne_eq] at h) <;> (try simp (disch := omega) only [w64] at h) <;> (try exact zx)) | (with_reducible intro hz; (try exact absurd hz (Nat.succ_ne_zero _)))))
  all_goals exact ⟨by rw [← hb]⟩
def s_stZ : Spec := fun args S => match args, S with
  | [.agg [.int .i64 p, .int .i64 q], .agg [.int .i64 p', .int .i64 q']], [] => ⟨smF p q ∧ smF p' q', .tup [.agg [.int .i64 (zv (stO (p, q) (p', q'))).1, .int .i64 (zv (stO (p, q) (p', q'))).2], .int .i64 (oC (stO (p, q) (p', q')))], []⟩
  | _, _ => noSpec
theorem oC_n {o : Option FrT} (h : ¬ oC o = 0) : o = none := by cases o with | none => rfl | some v => simp [oC] at h
theorem oC_s {o : Option FrT} (h : oC o = 0) : ∃ v, o = some v := by cases o with | none => simp [oC] at h | some v => exact ⟨v, rfl⟩
theorem ok_stZ : SpecOk Tryz.prog 168 s_stZ := by
  intro args S h; unfold s_stZ at h ⊢; (split at h <;> first | exact False.elim h | skip)
  dsimp only at h ⊢
  rename_i p q p' q'
  have hq := h
  refine funW tabOk (E := [(55, s_mulZ), (57, s_addZ), (56, s_num)]) ⟨ok_l01MulZ, ok_l01AddZ, ok_l01Whole, trivial⟩ [(4, [(1, 0)])] (k := 0) (fn := Tryz.f168) rfl rfl rfl rfl rfl rfl ?_
  (repeat' ((try (conv => whnf)); first | (with_reducible first | refine And.intro ?_ ?_ | refine WX.of ?_) | exact zc | ((with_reducible refine VC.mk ?_); exact zw) | ((with_reducible refine VC.mk ?_); exact hq) | (with_reducible first | refine splitT ?_ | refine splitF ?_) | ((with_reducible refine splitM.mk (fun hsm => ?_) (fun hsm => ?_)) <;> (try exact zx)) | ((with_reducible refine splitB.mk (fun h => ?_) (fun h => ?_)) <;> (try simp only [zs, ne_eq] at h) <;> (try simp (disch := omega) only [w64] at h) <;> (try exact zx)) | (with_reducible intro hz; (try exact absurd hz (Nat.succ_ne_zero _)))))
  · have e := oC_n h
    exact ⟨by simp [stO, e, zv, oC]⟩
  · obtain ⟨v, e⟩ := oC_s h
    have hv := smF_ok (rO_f e)
    exact ⟨⟨smF_1 (by omega), by rw [e]; exact hv⟩⟩
  · obtain ⟨v, e⟩ := oC_s h
    refine ⟨?_⟩
    simp only [stO, e, zv, Option.getD_some, Option.bind_some]
/-- The ends of a shot. -/
def enO (g w L st : FrT) : Option FrT := (stO g w).bind fun s => (muO L s).bind fun a => adO st a
def thAt (T : List ThT) (c : ShT) : ThT := (T[c.1.toNat]?).getD ([], (0, 0), 0, 0)
def enT (T : List ThT) (c : ShT) : Option FrT := enO (thAt T c).2.2 c.2.1 (thAt T c).2.1 c.2.2
def okC (ok : Bool) (o : Option FrT) : Int := if ok = true then oC o else 1
theorem en_none {g w L st : FrT} (h : enO g w L st = none) : (false || !(stO g w).isSome || !(muO L (stV g w)).isSome || !(adO st (tv (muO L (stV g w)))).isSome) = true := by
  unfold enO at h
  cases h1 : stO g w with
  | none => simp
  | some s =>
    rw [h1] at h
    simp only [Option.bind_some] at h
    rw [stV_e h1]
    cases h2 : muO L s with
    | none => simp
    | some a =>
      rw [h2] at h
      simp only [Option.bind_some] at h
      simp [tv, h]
theorem en_some {g w L st e : FrT} (h : enO g w L st = some e) : (false || !(stO g w).isSome || !(muO L (stV g w)).isSome || !(adO st (tv (muO L (stV g w)))).isSome) = false ∧ tv (adO st (tv (muO L (stV g w)))) = e := by
  unfold enO at h
  cases h1 : stO g w with
  | none => rw [h1] at h; simp at h
  | some s =>
    rw [h1] at h
    simp only [Option.bind_some] at h
    rw [stV_e h1]
    cases h2 : muO L s with
    | none => rw [h2] at h; simp at h
    | some a =>
      rw [h2] at h
      simp only [Option.bind_some] at h
      simp [tv, h]
theorem bn_at {up uq vp gp gq : Int} {E : List (Int × Int)} {T : List ThT} (h : bnB up uq vp gp gq E T = true) {k : Nat} {a : ThT} (ha : T[k]? = some a) : fOk a.2.1.1 a.2.1.2 = true ∧ fOk a.2.2.1 a.2.2.2 = true ∧ gwB a.2.2.1 a.2.2.2 = true := by
  unfold bnB at h
  rw [Bool.and_eq_true] at h
  have := allI_at h.2 ha
  unfold thB wiB at this
  simp only [Bool.and_eq_true] at this
  have hg := this.2.2
  have hg2 := hg
  unfold gwB at hg2
  simp only [Bool.and_eq_true] at hg2
  exact ⟨this.2.1.1.1, hg2.1.1, hg⟩
theorem bn_g {up uq vp gp gq : Int} {E : List (Int × Int)} {T : List ThT} (h : bnB up uq vp gp gq E T = true) : fOk gp gq = true ∧ gwB gp gq = true ∧ fOk up uq = true ∧ (2 ≤ vp ∧ vp ≤ 40) ∧ scB up uq E = true := by
  unfold bnB at h
  simp only [Bool.and_eq_true, decide_eq_true_eq] at h
  obtain ⟨⟨⟨⟨hs, hv⟩, hg⟩, hT⟩, _⟩ := h
  have hs2 := hs
  unfold gwB at hg
  unfold scB at hs2
  simp only [Bool.and_eq_true] at hs2
  refine ⟨?_, hg, hs2.1.1.1, hv, hs⟩
  simp only [Bool.and_eq_true] at hg
  exact hg.1.1
theorem sh_at {m : Nat} {i wp wq sp sq : Int} (h : shB m (i, (wp, wq), sp, sq) = true) : (0 ≤ i ∧ i ≤ (m : Int) - 1) ∧ fOk wp wq = true ∧ (wp.natAbs : Int) ≤ 100 * wq ∧ fOk sp sq = true := by
  unfold shB at h
  simp only [Bool.and_eq_true, decide_eq_true_eq] at h
  exact ⟨h.1.1.1, h.1.1.2, h.1.2, h.2⟩
def s_ends : Spec := fun args S => match args, S with
  | [.agg [.int .i64 up, .int .i64 uq, .sl 0 s n x, .int .i64 vp, .bool vb, .int .i64 gp, .int .i64 gq, .sl 1 t m y], .agg [.int .i64 i, .int .i64 wp, .int .i64 wq, .int .i64 sp, .int .i64 sq]], [.arr (.prod (.int .i64) (.int .i64)) l 2 wr, .arr (.prod .str (.prod (.prod (.int .i64) (.int .i64)) (.prod (.int .i64) (.int .i64)))) T 5 wT] => ⟨(s + n ≤ l.length ∧ n ≤ 1048576) ∧ (t + m ≤ T.length ∧ m ≤ 1048576) ∧ ∀ (j : Nat) (a : ThT), T[j]? = some a → a.1.length < 9223372036854775808, .tup [.agg [.int .i64 (if okC (bnB up uq vp gp gq (seg l s n) (seg T t m) && shB m (i, (wp, wq), sp, sq)) (enT (seg T t m) (i, (wp, wq), sp, sq)) = 0 then sp else 0), .int .i64 (if okC (bnB up uq vp gp gq (seg l s n) (seg T t m) && shB m (i, (wp, wq), sp, sq)) (enT (seg T t m) (i, (wp, wq), sp, sq)) = 0 then sq else 0)], .agg [.int .i64 (if okC (bnB up uq vp gp gq (seg l s n) (seg T t m) && shB m (i, (wp, wq), sp, sq)) (enT (seg T t m) (i, (wp, wq), sp, sq)) = 0 then (zv (enT (seg T t m) (i, (wp, wq), sp, sq))).1 else 0), .int .i64 (if okC (bnB up uq vp gp gq (seg l s n) (seg T t m) && shB m (i, (wp, wq), sp, sq)) (enT (seg T t m) (i, (wp, wq), sp, sq)) = 0 then (zv (enT (seg T t m) (i, (wp, wq), sp, sq))).2 else 0)], .int .i64 (okC (bnB up uq vp gp gq (seg l s n) (seg T t m) && shB m (i, (wp, wq), sp, sq)) (enT (seg T t m) (i, (wp, wq), sp, sq)))], [.arr (.prod (.int .i64) (.int .i64)) l 2 wr, .arr (.prod .str (.prod (.prod (.int .i64) (.int .i64)) (.prod (.int .i64) (.int .i64)))) T 5 wT]⟩
  | _, _ => noSpec
theorem ok_EndsOfI : SpecOk Tryz.prog 175 s_ends := by
  intro args S h; unfold s_ends at h ⊢; (split at h <;> first | exact False.elim h | skip)
  dsimp only at h ⊢
  rename_i up uq s n x vp vb gp gq t m y i wp wq sp sq l wr T wT
  have hq := h
  have hM := seg_len h.2.1.1
  cases hk : (bnB up uq vp gp gq (seg l s n) (seg T t m) && shB m (i, (wp, wq), sp, sq)) with
  | false =>
    refine funW tabOk (E := [(187, s_vShot), (176, s_strO), (48, s_mulO), (44, s_addO)]) ⟨ok_ValidShotI, ok_strO, ok_mulO, ok_addO, trivial⟩ [(4, [(2, 1), (2, 2), (5, 1), (14, 0), (14, 1), (14, 2)]), (7, [(2, 1)])] (k := 2) (fn := Tryz.f175) rfl rfl rfl rfl rfl rfl ?_
    (repeat' ((try (conv => whnf)); first | (with_reducible first | refine And.intro ?_ ?_ | refine WX.of ?_) | exact zc | ((with_reducible refine VC.mk ?_); exact zw) | ((with_reducible refine VC.mk ?_); exact hq) | ((with_reducible refine splitT_of ?_ ?_); (focus (simp only [hk, Bool.not_true, Bool.not_false, decide_true, decide_false]; done))) | ((with_reducible refine splitF_of ?_ ?_); (focus (simp only [hk, Bool.not_true, Bool.not_false, decide_true, decide_false]; done))) | (with_reducible first | refine splitT ?_ | refine splitF ?_) | ((with_reducible refine splitM.mk (fun hsm => ?_) (fun hsm => ?_)) <;> (try exact zx)) | ((with_reducible refine splitB.mk (fun h => ?_) (fun h => ?_)) <;> (try simp only [zs, ne_eq] at h) <;> (try simp (disch := omega) only [w64] at h) <;> (try exact zx)) | (with_reducible intro hz; (try exact absurd hz (Nat.succ_ne_zero _)))))
    all_goals exact ⟨by simp [okC]⟩
  | true =>
    have hk2 := hk
    rw [Bool.and_eq_true] at hk2
    have hs := sh_at hk2.2
    obtain ⟨⟨nm, ⟨Lp, Lq⟩, tp, tq⟩, ha⟩ := get_some (l := seg T t m) (i := i.toNat) (by omega)
    have hb := bn_at hk2.1 ha
    dsimp only at hb
    have e : thAt (seg T t m) (i, (wp, wq), sp, sq) = (nm, (Lp, Lq), tp, tq) := by unfold thAt; rw [ha]; rfl
    have hst := smF_st (tp, tq) (wp, wq)
    have hmu := smF_mu (Lp, Lq) (stV (tp, tq) (wp, wq))
    cases he : enO (tp, tq) (wp, wq) (Lp, Lq) (sp, sq) with
    | none =>
      have hbad := en_none he
      have hET : enT (seg T t m) (i, (wp, wq), sp, sq) = none := by unfold enT; rw [e]; exact he
      rw [hET]
      refine funW tabOk (E := [(187, s_vShot), (176, s_strO), (48, s_mulO), (44, s_addO)]) ⟨ok_ValidShotI, ok_strO, ok_mulO, ok_addO, trivial⟩ [(4, [(2, 1), (2, 2), (5, 1), (14, 0), (14, 1), (14, 2)]), (7, [(2, 1)])] (k := 2) (fn := Tryz.f175) rfl rfl rfl rfl rfl rfl ?_
      (repeat' ((try (conv => whnf)); first | (with_reducible first | refine And.intro ?_ ?_ | refine WX.of ?_) | exact zc | ((with_reducible refine VC.mk ?_); exact zw) | ((with_reducible refine VC.mk ?_); exact hq) | ((with_reducible refine VC.mk ?_); exact ⟨rfl, smF_ok hb.2.1, smF_ok hs.2.1⟩) | ((with_reducible refine VC.mk ?_); exact ⟨rfl, smF_ok hb.1, hst⟩) | ((with_reducible refine VC.mk ?_); exact ⟨rfl, smF_ok hs.2.2.2, hmu⟩) | ((with_reducible refine splitT_of ?_ ?_); (focus (simp only [hk, hbad, Bool.not_true, Bool.not_false, decide_true, decide_false]; done))) | ((with_reducible refine splitF_of ?_ ?_); (focus (simp only [hk, hbad, Bool.not_true, Bool.not_false, decide_true, decide_false]; done))) | with_reducible refine atL_p (seg_get ha).1 ?_ | (with_reducible first | refine splitT ?_ | refine splitF ?_) | ((with_reducible refine splitM.mk (fun hsm => ?_) (fun hsm => ?_)) <;> (try exact zx)) | ((with_reducible refine splitB.mk (fun h => ?_) (fun h => ?_)) <;> (try simp only [zs, ne_eq] at h) <;> (try simp (disch := omega) only [w64] at h) <;> (try exact zx)) | (with_reducible intro hz; (try exact absurd hz (Nat.succ_ne_zero _)))))
    | some v =>
      have hbad := en_some he
      have hET : enT (seg T t m) (i, (wp, wq), sp, sq) = some v := by unfold enT; rw [e]; exact he
      rw [hET]
      refine funW tabOk (E := [(187, s_vShot), (176, s_strO), (48, s_mulO), (44, s_addO)]) ⟨ok_ValidShotI, ok_strO, ok_mulO, ok_addO, trivial⟩ [(4, [(2, 1), (2, 2), (5, 1), (14, 0), (14, 1), (14, 2)]), (7, [(2, 1)])] (k := 2) (fn := Tryz.f175) rfl rfl rfl rfl rfl rfl ?_
      (repeat' ((try (conv => whnf)); first | (with_reducible first | refine And.intro ?_ ?_ | refine WX.of ?_) | exact zc | ((with_reducible refine VC.mk ?_); exact zw) | ((with_reducible refine VC.mk ?_); exact hq) | ((with_reducible refine VC.mk ?_); exact ⟨rfl, smF_ok hb.2.1, smF_ok hs.2.1⟩) | ((with_reducible refine VC.mk ?_); exact ⟨rfl, smF_ok hb.1, hst⟩) | ((with_reducible refine VC.mk ?_); exact ⟨rfl, smF_ok hs.2.2.2, hmu⟩) | ((with_reducible refine splitT_of ?_ ?_); (focus (simp only [hk, hbad.1, Bool.not_true, Bool.not_false, decide_true, decide_false]; done))) | ((with_reducible refine splitF_of ?_ ?_); (focus (simp only [hk, hbad.1, Bool.not_true, Bool.not_false, decide_true, decide_false]; done))) | with_reducible refine atL_p (seg_get ha).1 ?_ | (with_reducible first | refine splitT ?_ | refine splitF ?_) | ((with_reducible refine splitM.mk (fun hsm => ?_) (fun hsm => ?_)) <;> (try exact zx)) | ((with_reducible refine splitB.mk (fun h => ?_) (fun h => ?_)) <;> (try simp only [zs, ne_eq] at h) <;> (try simp (disch := omega) only [w64] at h) <;> (try exact zx)) | (with_reducible intro hz; (try exact absurd hz (Nat.succ_ne_zero _)))))
      exact ⟨by rw [← hbad.2]; rfl⟩
theorem stO_f {g w s : FrT} (h : stO g w = some s) : fOk s.1 s.2 = true := by
  unfold stO at h
  cases hm : muO g w with
  | none => rw [hm] at h; simp at h
  | some m => rw [hm] at h; exact rO_f h
theorem oC_3 {o : Option FrT} (h : ¬ oC o = 0) : oC o = 3 := by rw [oC_n h]; rfl
theorem en_1 {g w L st : FrT} (h : ¬ oC (stO g w) = 0) : enO g w L st = none ∧ oC (stO g w) = 3 := ⟨by unfold enO; rw [oC_n h]; rfl, oC_3 h⟩
theorem en_2 {g w L st : FrT} (h : oC (stO g w) = 0) (h2 : ¬ oC (muO L (zv (stO g w))) = 0) : enO g w L st = none ∧ oC (muO L (zv (stO g w))) = 3 := by
  obtain ⟨v, ev⟩ := oC_s h
  refine ⟨?_, oC_3 h2⟩
  have := oC_n h2
  rw [ev] at this
  unfold enO; rw [ev]
  show (muO L v).bind _ = none
  rw [show muO L v = none from this]; rfl
theorem en_3 {g w L st : FrT} (h : oC (stO g w) = 0) (h2 : oC (muO L (zv (stO g w))) = 0) : enO g w L st = adO st (zv (muO L (zv (stO g w)))) := by
  obtain ⟨v, ev⟩ := oC_s h
  obtain ⟨a, ea⟩ := oC_s h2
  rw [ev] at ea
  unfold enO; rw [ev]
  show (muO L v).bind _ = adO st (zv (muO L v))
  rw [show muO L v = some a from ea]; rfl
end Go.Proofs.YtonnkpclllmkoaaGreat.Eng
set_option linter.unusedVariables false
set_option linter.unusedSimpArgs false
namespace Go.Proofs.YtonnkpclllmkoaaGreat.Eng
open Go Go.RowKit
set_option maxRecDepth 100000
/-- A standard; a chain of them. -/
abbrev StT : Type := List UInt8 × Int × SpT × FrT × (Int × Int)
def stD : StT := ([], 0, ((0, 0), 0, 0), (0, 0), 0, 0)
def stMd (x : StT) : Int := x.2.2.2.2.1
def gdB (x : StT) (d : Int) : Bool := decide (x.2.2.2.2.1 ≤ d ∧ d ≤ x.2.2.2.2.1 + x.2.2.2.2.2)
def stAt (L : List StT) (i : Int) : StT := (L[i.toNat]?).getD stD
theorem stAt_z {L : List StT} {i : Int} {x : StT} (h : L[i.toNat]? = some x) : stAt L i = x := by unfold stAt; rw [h]; rfl
def s1B (L : List StT) (i : Nat) (x : StT) : Bool := wordB x.1 && !((L.take i).any fun o => decide (o.1 = x.1))
def dyB (d : Int) : Bool := decide (0 ≤ d ∧ d ≤ 100000)
def s2B (x : StT) : Bool := spB x.2.2.1 && fOk x.2.2.2.1.1 x.2.2.2.1.2 && decide (0 ≤ x.2.2.2.1.1) && dyB x.2.2.2.2.1 && dyB x.2.2.2.2.2
def s3B (L : List StT) (i : Nat) (x : StT) : Bool := decide (-1 ≤ x.2.1 ∧ x.2.1 ≤ (i : Int) - 1) && (decide (x.2.1 < 0) || gdB (stAt L x.2.1) x.2.2.2.2.1)
def stB (L : List StT) (i : Nat) (x : StT) : Bool := s1B L i x && s2B x && s3B L i x
def chB (L : List StT) : Bool := allI stD (stB L) L && decide (L.length ≤ 30)
theorem ch_no {L : List StT} {k : Nat} {a : StT} (ha : L[k]? = some a) (h : stB L k a = false) : chB L = false := by
  unfold chB; rw [allI_no ha h, Bool.false_and]
theorem ch_yes {L : List StT} (h : ∀ (k : Nat) a, L[k]? = some a → stB L k a = true) : chB L = decide (L.length ≤ 30) := by
  unfold chB; rw [allI_iff.2 h, Bool.true_and]
theorem st_1 {L : List StT} {i : Nat} {x : StT} (h : s1B L i x = false) : stB L i x = false := by unfold stB; rw [h, Bool.false_and, Bool.false_and]
theorem st_2 {L : List StT} {i : Nat} {x : StT} (h : s2B x = false) : stB L i x = false := by unfold stB; rw [h, Bool.and_false, Bool.false_and]
theorem st_3 {L : List StT} {i : Nat} {x : StT} (h : s3B L i x = false) : stB L i x = false := by unfold stB; rw [h, Bool.and_false]
theorem ch_len {L : List StT} (h : chB L = true) : L.length ≤ 30 := by unfold chB at h; simp at h; exact h.2
theorem ch_at {L : List StT} (h : chB L = true) {k : Nat} {a : StT} (ha : L[k]? = some a) : stB L k a = true := by
  unfold chB at h; rw [Bool.and_eq_true] at h; exact allI_at h.1 ha
structure StOk (L : List StT) (k : Nat) (a : StT) : Prop where
  nm : wordB a.1 = true
  vl : spB a.2.2.1 = true
  dr : fOk a.2.2.2.1.1 a.2.2.2.1.2 = true
  dn : 0 ≤ a.2.2.2.1.1
  md : 0 ≤ a.2.2.2.2.1 ∧ a.2.2.2.2.1 ≤ 100000
  gd : 0 ≤ a.2.2.2.2.2 ∧ a.2.2.2.2.2 ≤ 100000
  fr : -1 ≤ a.2.1 ∧ a.2.1 ≤ (k : Int) - 1
  go : 0 ≤ a.2.1 → (stAt L a.2.1).2.2.2.2.1 ≤ a.2.2.2.2.1 ∧ a.2.2.2.2.1 ≤ (stAt L a.2.1).2.2.2.2.1 + (stAt L a.2.1).2.2.2.2.2
theorem stB_ok {L : List StT} {k : Nat} {a : StT} (h : stB L k a = true) : StOk L k a := by
  unfold stB s1B s2B s3B gdB dyB at h
  simp only [Bool.and_eq_true, Bool.or_eq_true, decide_eq_true_eq] at h
  obtain ⟨⟨⟨h1, _⟩, ⟨⟨⟨h2, h3⟩, h4⟩, h5⟩, h6⟩, h7, h8⟩ := h
  exact ⟨h1, h2, h3, h4, h5, h6, h7, fun h9 => by rcases h8 with h8 | h8 <;> omega⟩
theorem ch_ok {L : List StT} (h : chB L = true) {k : Nat} {a : StT} (ha : L[k]? = some a) : StOk L k a := stB_ok (ch_at h ha)
theorem ch_z {L : List StT} (h : chB L = true) {i : Int} (h0 : 0 ≤ i ∧ i < L.length) : ∃ a, L[i.toNat]? = some a ∧ stAt L i = a ∧ StOk L i.toNat a := by
  obtain ⟨a, ha⟩ := get_some (l := L) (i := i.toNat) (by omega)
  exact ⟨a, ha, stAt_z ha, ch_ok h ha⟩
def pathF (L : List StT) : Nat → Int → List Int
  | 0, _ => []
  | n + 1, i => if i < 0 then [] else pathF L n (stAt L i).2.1 ++ [i]
def pathL (L : List StT) (i : Int) : List Int := pathF L 31 i
theorem pathF_neg (L : List StT) (n : Nat) {i : Int} (h : i < 0) : pathF L n i = [] := by
  cases n with
  | zero => rfl
  | succ n => rw [pathF, if_pos h]
theorem fr_lt {L : List StT} (h : chB L = true) {i : Int} (h0 : 0 ≤ i ∧ i < L.length) : -1 ≤ (stAt L i).2.1 ∧ (stAt L i).2.1 ≤ i - 1 := by
  obtain ⟨a, _, e, ho⟩ := ch_z h h0
  rw [e]; have := ho.fr; omega
theorem pathF_fuel {L : List StT} (h : chB L = true) : ∀ (n : Nat) {m : Nat} {i : Int}, i < n → i < m → i < L.length → pathF L n i = pathF L m i
  | 0, m, i, h1, h2, h3 => by rw [pathF_neg L 0 (by omega), pathF_neg L m (by omega)]
  | n + 1, 0, i, h1, h2, h3 => by rw [pathF_neg L _ (by omega), pathF_neg L _ (by omega)]
  | n + 1, m + 1, i, h1, h2, h3 => by
    rw [pathF, pathF]
    split
    · rfl
    · have := fr_lt h (i := i) (by omega)
      rw [pathF_fuel h n (m := m) (by omega) (by omega) (by omega)]
theorem path_neg {L : List StT} {i : Int} (h : i < 0) : pathL L i = [] := pathF_neg L _ h
theorem path_step {L : List StT} (h : chB L = true) {i : Int} (h0 : 0 ≤ i ∧ i < L.length) : pathL L i = pathL L (stAt L i).2.1 ++ [i] := by
  have hl := ch_len h
  have hf := fr_lt h h0
  unfold pathL
  rw [pathF, if_neg (by omega), pathF_fuel h 30 (m := 31) (by omega) (by omega) (by omega)]
theorem path_in {L : List StT} (h : chB L = true) : ∀ (n : Nat) {i : Int}, i < n → i < L.length → ∀ j ∈ pathL L i, 0 ≤ j ∧ j ≤ i
  | 0, i, h1, h2, j, hj => by rw [path_neg (by omega)] at hj; simp at hj
  | n + 1, i, h1, h2, j, hj => by
    by_cases h0 : i < 0
    · rw [path_neg h0] at hj; simp at hj
    · have hf := fr_lt h (i := i) (by omega)
      rw [path_step h (by omega)] at hj
      rcases List.mem_append.1 hj with hj | hj
      · have := path_in h n (i := (stAt L i).2.1) (by omega) (by omega) j hj
        omega
      · simp at hj; omega
theorem path_mem {L : List StT} (h : chB L = true) {i : Int} (h2 : i < L.length) : ∀ j ∈ pathL L i, 0 ≤ j ∧ j ≤ i := fun j hj => by
  by_cases h0 : i < 0
  · rw [path_neg h0] at hj; simp at hj
  · exact path_in h (i.toNat + 1) (by omega) h2 j hj
theorem path_len {L : List StT} (h : chB L = true) : ∀ (n : Nat) {i : Int}, i < n → i < L.length → ((pathL L i).length : Int) ≤ i + 1 ∨ i < 0
  | 0, i, h1, h2 => by right; omega
  | n + 1, i, h1, h2 => by
    by_cases h0 : i < 0
    · exact .inr h0
    · left
      have hf := fr_lt h (i := i) (by omega)
      rw [path_step h (by omega), List.length_append]
      rcases path_len h n (i := (stAt L i).2.1) (by omega) (by omega) with h3 | h3
      · simp; omega
      · rw [path_neg h3]; simp; omega
theorem path_30 {L : List StT} (h : chB L = true) {i : Int} (h2 : i < L.length) : (pathL L i).length ≤ 30 := by
  have hl := ch_len h
  by_cases h0 : i < 0
  · rw [path_neg h0]; simp
  · rcases path_len h (i.toNat + 1) (i := i) (by omega) h2 with h3 | h3 <;> omega
/-- What an option is, told by a value and a flag. -/
def Tol {α : Type} (o : Option α) (v : α) (bad : Bool) : Prop := (bad = true ∧ o = none) ∨ (bad = false ∧ o = some v)
theorem Tol.of (o : Option FrT) : Tol o (tv o) (!o.isSome) := by cases o with | none => exact .inl ⟨rfl, rfl⟩ | some v => exact .inr ⟨rfl, rfl⟩
def spV (a b : Option FrT) : SpT := (tv a, tv b)
def spO (a b : Option FrT) : Option SpT := a.bind fun x => b.bind fun y => some (x, y)
theorem sp_tol (a b : Option FrT) : Tol (spO a b) (spV a b) (!a.isSome || !b.isSome) := by
  cases a <;> cases b <;> simp [Tol, spO, spV, tv]
def plO (s t : SpT) : Option SpT := spO (adO s.1 t.1) (adO s.2 t.2)
def miO (s t : SpT) : Option SpT := spO (sbO s.1 t.2) (sbO s.2 t.1)
def wdO (s : SpT) (d : FrT) : Option SpT := spO (sbO s.1 d) (adO s.2 d)
def plV (s t : SpT) : SpT := spV (adO s.1 t.1) (adO s.2 t.2)
def miV (s t : SpT) : SpT := spV (sbO s.1 t.2) (sbO s.2 t.1)
def wdV (s : SpT) (d : FrT) : SpT := spV (sbO s.1 d) (adO s.2 d)
def smS (s : SpT) : Prop := smF s.1.1 s.1.2 ∧ smF s.2.1 s.2.2
theorem smS_pl (s t : SpT) : smS (plV s t) := ⟨smF_rO _ _, smF_rO _ _⟩
theorem smS_wd (s : SpT) (d : FrT) : smS (wdV s d) := ⟨smF_rO _ _, smF_rO _ _⟩
theorem smS_ok {s : SpT} (h : spB s = true) : smS s := ⟨smF_ok (spB_f h).1, smF_ok (spB_f h).2.1⟩
theorem smS_0 : smS ((0, 1), 0, 1) := ⟨smF_1 (n := 0) (by omega), smF_1 (n := 0) (by omega)⟩
theorem spO_f {a b : Option FrT} {v : SpT} (h : spO a b = some v) : a = some v.1 ∧ b = some v.2 := by
  cases a <;> cases b <;> simp [spO] at h ⊢
  rw [← h]; exact ⟨rfl, rfl⟩
theorem smS_plO {s t v : SpT} (h : plO s t = some v) : smS v := ⟨smF_ok (rO_f (spO_f h).1), smF_ok (rO_f (spO_f h).2)⟩
theorem smS_wdO {s v : SpT} {d : FrT} (h : wdO s d = some v) : smS v := ⟨smF_ok (rO_f (spO_f h).1), smF_ok (rO_f (spO_f h).2)⟩
/-- A span, wider by a drift on some days. -/
def drO (s : SpT) (d : FrT) (n : Int) : Option SpT := (muO d (n, 1)).bind fun m => wdO s m
def drV (s : SpT) (d : FrT) (n : Int) : SpT := wdV s (tv (muO d (n, 1)))
/-- One step along a path: to x, and on until a day. -/
def alO1 (s : SpT) (x : StT) (e : Int) : Option SpT := (plO s x.2.2.1).bind fun u => drO u x.2.2.2.1 (e - x.2.2.2.2.1)
def alV1 (s : SpT) (x : StT) (e : Int) : SpT := drV (plV s x.2.2.1) x.2.2.2.1 (e - x.2.2.2.2.1)
def alB1 (s : SpT) (x : StT) (e : Int) : Bool := (!(adO s.1 x.2.2.1.1).isSome || !(adO s.2 x.2.2.1.2).isSome) || (!(muO x.2.2.2.1 (e - x.2.2.2.2.1, 1)).isSome || (!(sbO (plV s x.2.2.1).1 (tv (muO x.2.2.2.1 (e - x.2.2.2.2.1, 1)))).isSome || !(adO (plV s x.2.2.1).2 (tv (muO x.2.2.2.1 (e - x.2.2.2.2.1, 1)))).isSome))
theorem al1_tol (s : SpT) (x : StT) (e : Int) : Tol (alO1 s x e) (alV1 s x e) (alB1 s x e) := by
  unfold alO1 alV1 alB1 drO drV
  rcases sp_tol (adO s.1 x.2.2.1.1) (adO s.2 x.2.2.1.2) with ⟨h1, h2⟩ | ⟨h1, h2⟩
  · rw [h1]; rw [show plO s x.2.2.1 = none from h2]; exact .inl ⟨rfl, rfl⟩
  · rw [h1]; rw [show plO s x.2.2.1 = some (plV s x.2.2.1) from h2, Option.bind_some]
    rcases Tol.of (muO x.2.2.2.1 (e - x.2.2.2.2.1, 1)) with ⟨h3, h4⟩ | ⟨h3, h4⟩
    · rw [h3, h4]; exact .inl ⟨rfl, rfl⟩
    · rw [h3]
      generalize muO x.2.2.2.1 (e - x.2.2.2.2.1, 1) = o at *
      rw [show (o.bind fun m => wdO (plV s x.2.2.1) m) = wdO (plV s x.2.2.1) (tv o) from by rw [h4]; rfl]
      exact sp_tol _ _
/-- The day on which a path goes on. -/
def nxD (L : List StT) (day : Int) : List Int → Int
  | [] => day
  | k :: _ => stMd (stAt L k)
def alO (L : List StT) (day : Int) : List Int → SpT → Option SpT
  | [], s => some s
  | i :: W, s => (alO1 s (stAt L i) (nxD L day W)).bind fun u => alO L day W u
def alT (L : List StT) (day : Int) : List Int → SpT × Bool → SpT × Bool
  | [], z => z
  | i :: W, z => alT L day W (alV1 z.1 (stAt L i) (nxD L day W), z.2 || alB1 z.1 (stAt L i) (nxD L day W))
theorem alT_bad (L : List StT) (day : Int) : ∀ (W : List Int) (z : SpT × Bool), z.2 = true → (alT L day W z).2 = true
  | [], z, h => h
  | i :: W, z, h => alT_bad L day W _ (by rw [h]; rfl)
theorem al_tol (L : List StT) (day : Int) : ∀ (W : List Int) (s : SpT), Tol (alO L day W s) (alT L day W (s, false)).1 (alT L day W (s, false)).2
  | [], s => .inr ⟨rfl, rfl⟩
  | i :: W, s => by
    rw [alO, alT]
    rcases al1_tol s (stAt L i) (nxD L day W) with ⟨h1, h2⟩ | ⟨h1, h2⟩
    · rw [h2, h1]
      exact .inl ⟨alT_bad L day W _ rfl, rfl⟩
    · rw [h2, h1, Option.bind_some]
      exact al_tol L day W _
theorem smS_al1 (s : SpT) (x : StT) (e : Int) : smS (alV1 s x e) := smS_wd _ _
def zsS (o : Option SpT) : SpT := o.getD ((0, 0), 0, 0)
def oCS (o : Option SpT) : Int := if o.isSome = true then 0 else 3
theorem oCS_n {o : Option SpT} (h : ¬ oCS o = 0) : o = none := by cases o with | none => rfl | some v => simp [oCS] at h
theorem oCS_s {o : Option SpT} (h : oCS o = 0) : ∃ v, o = some v := by cases o with | none => simp [oCS] at h | some v => exact ⟨v, rfl⟩
theorem Tol.if {o : Option SpT} {v : SpT} {bad : Bool} (h : Tol o v bad) : (if bad = true then ((0, 0), 0, 0) else v) = zsS o ∧ (if bad = true then (3 : Int) else 0) = oCS o := by
  rcases h with ⟨h1, h2⟩ | ⟨h1, h2⟩ <;> (subst h1; subst h2; exact ⟨rfl, rfl⟩)
end Go.Proofs.YtonnkpclllmkoaaGreat.Eng
set_option linter.unusedVariables false
set_option linter.unusedSimpArgs false
namespace Go.Proofs.YtonnkpclllmkoaaGreat.Eng
open Go Go.RowKit
set_option maxRecDepth 100000
def s_good : Spec := fun args S => match args, S with
  | [.agg [.str nm, .int .i64 fr, .int .i64 p, .int .i64 q, .int .i64 p', .int .i64 q', .int .i64 dp, .int .i64 dq, .int .i64 md, .int .i64 gd], .int .i64 d], [] => ⟨(0 ≤ md ∧ md ≤ 100000) ∧ 0 ≤ gd ∧ gd ≤ 100000, .bool (gdB (nm, fr, ((p, q), p', q'), (dp, dq), md, gd) d), []⟩
  | _, _ => noSpec
theorem ok_good : SpecOk Tryz.prog 40 s_good := by
  intro args S h; unfold s_good at h ⊢; (split at h <;> first | exact False.elim h | skip)
  dsimp only at h ⊢
  refine funW tabOk (E := [(101, s_within)]) ⟨ok_within, trivial⟩ [] (k := 0) (fn := Tryz.f40) rfl rfl rfl rfl rfl rfl ?_
  (repeat' ((try (conv => whnf)); first | (with_reducible first | refine And.intro ?_ ?_ | refine WX.of ?_) | exact zc | ((with_reducible refine VC.mk ?_); exact zw) | (with_reducible first | refine splitT ?_ | refine splitF ?_) | ((with_reducible refine splitM.mk (fun hsm => ?_) (fun hsm => ?_)) <;> (try exact zx)) | ((with_reducible refine splitB.mk (fun h => ?_) (fun h => ?_)) <;> (try simp only [zs, ne_eq] at h) <;> (try simp (disch := omega) only [w64] at h) <;> (try exact zx)) | (with_reducible intro hz; (try exact absurd hz (Nat.succ_ne_zero _)))))
  all_goals (refine ⟨?_⟩; simp (disch := omega) only [w64]; rfl)
theorem bd2 {a b : Int} (h : (0 ≤ a ∧ a ≤ 100000) ∧ 0 ≤ b ∧ b ≤ 100000) : (0 ≤ a ∧ a ≤ 100000) ∧ 0 ≤ b ∧ b ≤ 100000 := h
def s_l05Good : Spec := fun args S => match args, S with
  | [.ptr 0 i 0, .int .i64 d], [.arr (.prod .str (.prod (.int .i64) (.prod (.prod (.prod (.int .i64) (.int .i64)) (.prod (.int .i64) (.int .i64))) (.prod (.prod (.int .i64) (.int .i64)) (.prod (.int .i64) (.int .i64)))))) l 10 wr] => ⟨i < l.length ∧ (0 ≤ ((l[i]?).getD stD).2.2.2.2.1 ∧ ((l[i]?).getD stD).2.2.2.2.1 ≤ 100000) ∧ 0 ≤ ((l[i]?).getD stD).2.2.2.2.2 ∧ ((l[i]?).getD stD).2.2.2.2.2 ≤ 100000, .bool (gdB ((l[i]?).getD stD) d), [.arr (.prod .str (.prod (.int .i64) (.prod (.prod (.prod (.int .i64) (.int .i64)) (.prod (.int .i64) (.int .i64))) (.prod (.prod (.int .i64) (.int .i64)) (.prod (.int .i64) (.int .i64)))))) l 10 wr]⟩
  | _, _ => noSpec
theorem ok_l05Good : SpecOk Tryz.prog 52 s_l05Good := by
  intro args S h; unfold s_l05Good at h ⊢; (split at h <;> first | exact False.elim h | skip)
  dsimp only at h ⊢
  rename_i i d l wr
  obtain ⟨hi, hb⟩ := h
  obtain ⟨⟨nm, fr, ⟨⟨p, q⟩, p', q'⟩, ⟨dp, dq⟩, md, gd⟩, ha⟩ := get_some hi
  rw [show (l[i]?).getD stD = (nm, fr, ((p, q), p', q'), (dp, dq), md, gd) from by rw [ha]; rfl] at hb ⊢
  have hb := bd2 hb
  dsimp only at hb
  refine funW tabOk (E := []) trivial [] (k := 1) (fn := Tryz.f52) rfl rfl rfl rfl rfl rfl ?_
  (repeat' ((try (conv => whnf)); first | (with_reducible first | refine And.intro ?_ ?_ | refine WX.of ?_) | exact zc | ((with_reducible refine VC.mk ?_); exact zw) | with_reducible refine atL_p ha ?_ | (with_reducible first | refine splitT ?_ | refine splitF ?_) | ((with_reducible refine splitM.mk (fun hsm => ?_) (fun hsm => ?_)) <;> (try exact zx)) | ((with_reducible refine splitB.mk (fun h => ?_) (fun h => ?_)) <;> (try simp only [zs, ne_eq] at h) <;> (try simp (disch := omega) only [w64] at h) <;> (try exact zx)) | (with_reducible intro hz; (try exact absurd hz (Nat.succ_ne_zero _)))))
  all_goals (refine ⟨congrArg SV.bool ?_⟩; unfold gdB; (try simp (disch := omega) only [w64]); first | (simp; omega) | (rw [Bool.eq_iff_iff]; simp; omega))
def s_l05Day : Spec := fun args S => match args, S with
  | [.int .i64 d], [] => ⟨True, .bool (dyB d), []⟩
  | _, _ => noSpec
theorem ok_l05Day : SpecOk Tryz.prog 64 s_l05Day := by
  intro args S h; unfold s_l05Day at h ⊢; (split at h <;> first | exact False.elim h | skip)
  dsimp only at h ⊢
  refine funW tabOk (E := [(112, s_within)]) ⟨ok_l00In, trivial⟩ [] (k := 0) (fn := Tryz.f64) rfl rfl rfl rfl rfl rfl ?_
  (repeat' ((try (conv => whnf)); first | (with_reducible first | refine And.intro ?_ ?_ | refine WX.of ?_) | exact zc | ((with_reducible refine VC.mk ?_); exact zw) | (with_reducible first | refine splitT ?_ | refine splitF ?_) | ((with_reducible refine splitM.mk (fun hsm => ?_) (fun hsm => ?_)) <;> (try exact zx)) | ((with_reducible refine splitB.mk (fun h => ?_) (fun h => ?_)) <;> (try simp only [zs, ne_eq] at h) <;> (try simp (disch := omega) only [w64] at h) <;> (try exact zx)) | (with_reducible intro hz; (try exact absurd hz (Nat.succ_ne_zero _)))))
/-- The span of a standard, by its pointer. -/
def s_l01SpanV : Spec := fun args S => match args, S with
  | [.ptr 0 i 2], [.arr (.prod .str (.prod (.int .i64) (.prod (.prod (.prod (.int .i64) (.int .i64)) (.prod (.int .i64) (.int .i64))) (.prod (.prod (.int .i64) (.int .i64)) (.prod (.int .i64) (.int .i64)))))) l 10 wr] => ⟨i < l.length, .bool (spB ((l[i]?).getD stD).2.2.1), [.arr (.prod .str (.prod (.int .i64) (.prod (.prod (.prod (.int .i64) (.int .i64)) (.prod (.int .i64) (.int .i64))) (.prod (.prod (.int .i64) (.int .i64)) (.prod (.int .i64) (.int .i64)))))) l 10 wr]⟩
  | _, _ => noSpec
theorem ok_l01SpanV : SpecOk Tryz.prog 145 s_l01SpanV := by
  intro args S h; unfold s_l01SpanV at h ⊢; (split at h <;> first | exact False.elim h | skip)
  dsimp only at h ⊢
  rename_i i l wr
  obtain ⟨⟨nm, fr, ⟨⟨p, q⟩, p', q'⟩, ⟨dp, dq⟩, md, gd⟩, ha⟩ := get_some h
  rw [show (l[i]?).getD stD = (nm, fr, ((p, q), p', q'), (dp, dq), md, gd) from by rw [ha]; rfl]
  have hc := cmpF_le (p := p) (q := q) (p' := p') (q' := q')
  refine funW tabOk (E := [(146, s_fOk), (58, s_cmp)]) ⟨ok_l01Ok, ok_l01Cmp, trivial⟩ [] (k := 1) (fn := Tryz.f145) rfl rfl rfl rfl rfl rfl ?_
  (repeat' ((try (conv => whnf)); first | (with_reducible first | refine And.intro ?_ ?_ | refine WX.of ?_) | exact zc | ((with_reducible refine VC.mk ?_); exact zw) | with_reducible refine atL_p ha ?_ | (with_reducible first | refine splitT ?_ | refine splitF ?_) | ((with_reducible refine splitM.mk (fun hsm => ?_) (fun hsm => ?_)) <;> (try exact zx)) | ((with_reducible refine splitB.mk (fun h => ?_) (fun h => ?_)) <;> (try simp only [zs, ne_eq] at h) <;> (try simp (disch := omega) only [w64] at h) <;> (try exact zx)) | (with_reducible intro hz; (try exact absurd hz (Nat.succ_ne_zero _)))))
  · rename_i h1
    exact ⟨⟨smF_ok h1, smF_ok h⟩⟩
  · rename_i h1
    exact ⟨congrArg SV.bool (by unfold spB spOk; dsimp only; rw [h1, h]; simp only [hc, Bool.true_and])⟩
  · rename_i h1
    exact ⟨congrArg SV.bool (by unfold spB spOk; dsimp only; rw [h1, h]; rfl)⟩
  · exact ⟨congrArg SV.bool (by unfold spB spOk; dsimp only; rw [h]; rfl)⟩
def s_clCh : Spec := fun args S => match args, S with
  | [.agg [.str nm, .int .i64 fr, .int .i64 p, .int .i64 q, .int .i64 p', .int .i64 q', .int .i64 dp, .int .i64 dq, .int .i64 md, .int .i64 gd], .ptr 0 0 0], [.arr (.prod .str (.prod (.int .i64) (.prod (.prod (.prod (.int .i64) (.int .i64)) (.prod (.int .i64) (.int .i64))) (.prod (.prod (.int .i64) (.int .i64)) (.prod (.int .i64) (.int .i64)))))) [o] 0 true] => ⟨True, .bool (decide (nm = o.1)), [.arr (.prod .str (.prod (.int .i64) (.prod (.prod (.prod (.int .i64) (.int .i64)) (.prod (.int .i64) (.int .i64))) (.prod (.prod (.int .i64) (.int .i64)) (.prod (.int .i64) (.int .i64)))))) [o] 0 true]⟩
  | _, _ => noSpec
theorem ok_ValidChain1 : SpecOk Tryz.prog 100 s_clCh := by
  intro args S h; unfold s_clCh at h ⊢; (split at h <;> first | exact False.elim h | skip)
  dsimp only at h ⊢
  refine funW tabOk (E := []) trivial [] (k := 1) (fn := Tryz.f100) rfl rfl rfl rfl rfl rfl ?_
  (repeat' ((try (conv => whnf)); first | (with_reducible first | refine And.intro ?_ ?_ | refine WX.of ?_) | exact zc | ((with_reducible refine VC.mk ?_); exact zw) | (with_reducible first | refine splitT ?_ | refine splitF ?_) | ((with_reducible refine splitM.mk (fun hsm => ?_) (fun hsm => ?_)) <;> (try exact zx)) | ((with_reducible refine splitB.mk (fun h => ?_) (fun h => ?_)) <;> (try simp only [zs, ne_eq] at h) <;> (try simp (disch := omega) only [w64] at h) <;> (try exact zx)) | (with_reducible intro hz; (try exact absurd hz (Nat.succ_ne_zero _)))))
def s_idxCh (g : Nat) : Spec := fun args S => match args, S with
  | [.sl 0 q0 n0 x0, .fn g' [.ptr 1 0 0]], [.arr (.prod .str (.prod (.int .i64) (.prod (.prod (.prod (.int .i64) (.int .i64)) (.prod (.int .i64) (.int .i64))) (.prod (.prod (.int .i64) (.int .i64)) (.prod (.int .i64) (.int .i64)))))) l0 10 wr0, .arr (.prod .str (.prod (.int .i64) (.prod (.prod (.prod (.int .i64) (.int .i64)) (.prod (.int .i64) (.int .i64))) (.prod (.prod (.int .i64) (.int .i64)) (.prod (.int .i64) (.int .i64)))))) [o] 0 true] => ⟨g' = g ∧ (q0 + n0 ≤ l0.length ∧ n0 ≤ 4611686018427387904) ∧ True, .int .i64 (findI (fun a : StT => decide (a.1 = o.1)) (seg l0 q0 n0)), [.arr (.prod .str (.prod (.int .i64) (.prod (.prod (.prod (.int .i64) (.int .i64)) (.prod (.int .i64) (.int .i64))) (.prod (.prod (.int .i64) (.int .i64)) (.prod (.int .i64) (.int .i64)))))) l0 10 wr0, .arr (.prod .str (.prod (.int .i64) (.prod (.prod (.prod (.int .i64) (.int .i64)) (.prod (.int .i64) (.int .i64))) (.prod (.prod (.int .i64) (.int .i64)) (.prod (.int .i64) (.int .i64)))))) [o] 0 true]⟩
  | _, _ => noSpec
theorem ok_idxCh : SpecOk Tryz.prog 143 (s_idxCh 100) := by
  intro args S h; unfold s_idxCh at h ⊢; (split at h <;> first | exact False.elim h | skip)
  dsimp only at h ⊢
  rename_i q0 n0 x0 g l0 wr0 o
  obtain ⟨rfl, ⟨h1, h2⟩, hcp⟩ := h
  have hL := seg_len h1
  refine funW tabOk (E := [(100, s_clCh)]) ⟨ok_ValidChain1, trivial⟩ [] (k := 2) (fn := Tryz.f143) rfl rfl rfl rfl rfl rfl ?_
  (repeat' ((try (conv => whnf)); first | (with_reducible first | refine And.intro ?_ ?_ | refine WX.of ?_) | exact zc | ((with_reducible refine VC.mk ?_); exact zw) | (with_reducible first | refine splitT ?_ | refine splitF ?_) | ((with_reducible refine splitM.mk (fun hsm => ?_) (fun hsm => ?_)) <;> (try exact zx)) | ((with_reducible refine splitB.mk (fun h => ?_) (fun h => ?_)) <;> (try simp only [zs, ne_eq] at h) <;> (try simp (disch := omega) only [w64] at h) <;> (try exact zx)) | (with_reducible intro hz; (try exact absurd hz (Nat.succ_ne_zero _)))))
  refine loopW tabOk (E := [(100, s_clCh)]) ⟨ok_ValidChain1, trivial⟩ [] (σ := Nat) (fun i => [(0, .sl 0 q0 n0 x0), (1, .fn 100 [.ptr 1 0 0]), (7, .int .i64 n0), (8, .int .i64 i)]) (fun i => [.arr (.prod .str (.prod (.int .i64) (.prod (.prod (.prod (.int .i64) (.int .i64)) (.prod (.int .i64) (.int .i64))) (.prod (.prod (.int .i64) (.int .i64)) (.prod (.int .i64) (.int .i64)))))) l0 10 wr0, .arr (.prod .str (.prod (.int .i64) (.prod (.prod (.prod (.int .i64) (.int .i64)) (.prod (.int .i64) (.int .i64))) (.prod (.prod (.int .i64) (.int .i64)) (.prod (.int .i64) (.int .i64)))))) [o] 0 true]) (fun i => n0 - i) (fun i => i ≤ n0 ∧ ∀ (j : Nat) a, j < i → (seg l0 q0 n0)[j]? = some a → (fun a : StT => decide (a.1 = o.1)) a = false) 0 ⟨Nat.zero_le _, fun j a hj => by omega⟩ ?_ ?_
  · (repeat' ((try (conv => whnf)); first | (with_reducible first | refine And.intro ?_ ?_ | refine WX.of ?_) | exact zc | ((with_reducible refine VC.mk ?_); exact zw) | (with_reducible first | refine splitT ?_ | refine splitF ?_) | ((with_reducible refine splitM.mk (fun hsm => ?_) (fun hsm => ?_)) <;> (try exact zx)) | ((with_reducible refine splitB.mk (fun h => ?_) (fun h => ?_)) <;> (try simp only [zs, ne_eq] at h) <;> (try simp (disch := omega) only [w64] at h) <;> (try exact zx)) | (with_reducible intro hz; (try exact absurd hz (Nat.succ_ne_zero _)))))
  · intro ii ⟨hi, hp⟩
    by_cases hlt : ii < n0
    · obtain ⟨⟨nm, fr, ⟨⟨p, q⟩, p', q'⟩, ⟨dp, dq⟩, md, gd⟩, ha⟩ := get_some (l := seg l0 q0 n0) (i := ii) (by omega)
      (repeat' ((try (conv => whnf)); first | (with_reducible first | refine And.intro ?_ ?_ | refine WX.of ?_) | exact zc | ((with_reducible refine VC.mk ?_); exact zw) | refine atL_i ha ?_ | ((with_reducible refine VC.mk ?_); exact hcp) | (with_reducible first | refine splitT ?_ | refine splitF ?_) | ((with_reducible refine splitM.mk (fun hsm => ?_) (fun hsm => ?_)) <;> (try exact zx)) | ((with_reducible refine splitB.mk (fun h => ?_) (fun h => ?_)) <;> (try simp only [zs, ne_eq] at h) <;> (try simp (disch := omega) only [w64] at h) <;> (try exact zx)) | (with_reducible intro hz; (try exact absurd hz (Nat.succ_ne_zero _)))))
      · exact ⟨by rw [findI_some ha (by first | (simpa [decide_eq_true_eq] using h; done) | (simp [decide_eq_true_eq] at h ⊢; omega)) hp]⟩
      · refine ⟨ii + 1, by omega, ⟨hlt, upto_step ha (by first | (simpa [decide_eq_true_eq] using h; done) | (simp [decide_eq_true_eq] at h ⊢; omega)) hp⟩, ?_⟩
        (repeat' ((try (conv => whnf)); first | (with_reducible first | refine And.intro ?_ ?_ | refine WX.of ?_) | exact zc | ((with_reducible refine VC.mk ?_); exact zw) | (with_reducible first | refine splitT ?_ | refine splitF ?_) | ((with_reducible refine splitM.mk (fun hsm => ?_) (fun hsm => ?_)) <;> (try exact zx)) | ((with_reducible refine splitB.mk (fun h => ?_) (fun h => ?_)) <;> (try simp only [zs, ne_eq] at h) <;> (try simp (disch := omega) only [w64] at h) <;> (try exact zx)) | (with_reducible intro hz; (try exact absurd hz (Nat.succ_ne_zero _)))))
    · (repeat' ((try (conv => whnf)); first | (with_reducible first | refine And.intro ?_ ?_ | refine WX.of ?_) | exact zc | ((with_reducible refine VC.mk ?_); exact zw) | (with_reducible first | refine splitT ?_ | refine splitF ?_) | ((with_reducible refine splitM.mk (fun hsm => ?_) (fun hsm => ?_)) <;> (try exact zx)) | ((with_reducible refine splitB.mk (fun h => ?_) (fun h => ?_)) <;> (try simp only [zs, ne_eq] at h) <;> (try simp (disch := omega) only [w64] at h) <;> (try exact zx)) | (with_reducible intro hz; (try exact absurd hz (Nat.succ_ne_zero _)))))
      exact ⟨by rw [findI_none fun j a hj => hp j a (by have := (List.getElem?_eq_some_iff.1 hj).1; omega) hj]⟩
def s_anyCh (g : Nat) : Spec := fun args S => match args, S with
  | [.sl 0 q0 n0 x0, .fn g' [.ptr 1 0 0]], [.arr (.prod .str (.prod (.int .i64) (.prod (.prod (.prod (.int .i64) (.int .i64)) (.prod (.int .i64) (.int .i64))) (.prod (.prod (.int .i64) (.int .i64)) (.prod (.int .i64) (.int .i64)))))) l0 10 wr0, .arr (.prod .str (.prod (.int .i64) (.prod (.prod (.prod (.int .i64) (.int .i64)) (.prod (.int .i64) (.int .i64))) (.prod (.prod (.int .i64) (.int .i64)) (.prod (.int .i64) (.int .i64)))))) [o] 0 true] => ⟨g' = g ∧ (q0 + n0 ≤ l0.length ∧ n0 ≤ 4611686018427387904) ∧ True, .bool ((seg l0 q0 n0).any (fun a : StT => decide (a.1 = o.1))), [.arr (.prod .str (.prod (.int .i64) (.prod (.prod (.prod (.int .i64) (.int .i64)) (.prod (.int .i64) (.int .i64))) (.prod (.prod (.int .i64) (.int .i64)) (.prod (.int .i64) (.int .i64)))))) l0 10 wr0, .arr (.prod .str (.prod (.int .i64) (.prod (.prod (.prod (.int .i64) (.int .i64)) (.prod (.int .i64) (.int .i64))) (.prod (.prod (.int .i64) (.int .i64)) (.prod (.int .i64) (.int .i64)))))) [o] 0 true]⟩
  | _, _ => noSpec
theorem ok_anyCh : SpecOk Tryz.prog 99 (s_anyCh 100) := by
  intro args S h; unfold s_anyCh at h ⊢; (split at h <;> first | exact False.elim h | skip)
  dsimp only at h ⊢
  rename_i q0 n0 x0 g l0 wr0 o
  obtain ⟨rfl, h1, h2⟩ := h
  refine funW tabOk (E := [(143, (s_idxCh 100))]) ⟨ok_idxCh, trivial⟩ [] (k := 2) (fn := Tryz.f99) rfl rfl rfl rfl rfl rfl ?_
  (repeat' ((try (conv => whnf)); first | (with_reducible first | refine And.intro ?_ ?_ | refine WX.of ?_) | exact zc | ((with_reducible refine VC.mk ?_); exact zw) | ((with_reducible refine VC.mk ?_); exact ⟨rfl, h1, h2⟩) | (with_reducible first | refine splitT ?_ | refine splitF ?_) | ((with_reducible refine splitM.mk (fun hsm => ?_) (fun hsm => ?_)) <;> (try exact zx)) | ((with_reducible refine splitB.mk (fun h => ?_) (fun h => ?_)) <;> (try simp only [zs, ne_eq] at h) <;> (try simp (disch := omega) only [w64] at h) <;> (try exact zx)) | (with_reducible intro hz; (try exact absurd hz (Nat.succ_ne_zero _)))))
  exact ⟨by rw [findI_any]⟩
theorem s3_take {L : List StT} {i : Nat} {x : StT} (hi : i ≤ L.length) : s3B (L.take i) i x = s3B L i x := by
  unfold s3B
  by_cases h : -1 ≤ x.2.1 ∧ x.2.1 ≤ (i : Int) - 1
  · by_cases h0 : x.2.1 < 0
    · simp [h0]
    · have : stAt (L.take i) x.2.1 = stAt L x.2.1 := by
        unfold stAt; rw [List.getElem?_take, if_pos (by omega)]
      rw [this]
  · simp [h]
/-- A standard behind n others. -/
def s_l05Std : Spec := fun args S => match args, S with
  | [.sl 0 s n x, .ptr 0 i 0], [.arr (.prod .str (.prod (.int .i64) (.prod (.prod (.prod (.int .i64) (.int .i64)) (.prod (.int .i64) (.int .i64))) (.prod (.prod (.int .i64) (.int .i64)) (.prod (.int .i64) (.int .i64)))))) l 10 wr] => ⟨s + n ≤ l.length ∧ n ≤ 1048576 ∧ i < l.length ∧ ∀ (j : Nat) (a : StT), (seg l s n)[j]? = some a → s2B a = true, .bool (s2B ((l[i]?).getD stD) && s3B (seg l s n) n ((l[i]?).getD stD)), [.arr (.prod .str (.prod (.int .i64) (.prod (.prod (.prod (.int .i64) (.int .i64)) (.prod (.int .i64) (.int .i64))) (.prod (.prod (.int .i64) (.int .i64)) (.prod (.int .i64) (.int .i64)))))) l 10 wr]⟩
  | _, _ => noSpec
theorem s2_of {x : StT} (h : s2B x = true) : (0 ≤ x.2.2.2.2.1 ∧ x.2.2.2.2.1 ≤ 100000) ∧ 0 ≤ x.2.2.2.2.2 ∧ x.2.2.2.2.2 ≤ 100000 := by
  unfold s2B dyB at h; simp only [Bool.and_eq_true, decide_eq_true_eq] at h; exact ⟨h.1.2, h.2⟩
theorem in_em (a : Int) (n : Nat) : (0 ≤ a ∧ a ≤ (n : Int) - 1) ∨ ¬ (0 ≤ a ∧ a ≤ (n : Int) - 1) := Decidable.em _
theorem s3_neg {L : List StT} {n : Nat} {x : StT} (h : x.2.1 = -1) : s3B L n x = true := by
  unfold s3B
  rw [decide_eq_true (show -1 ≤ x.2.1 ∧ x.2.1 ≤ (n : Int) - 1 from ⟨by omega, by omega⟩), decide_eq_true (show x.2.1 < 0 by omega)]; rfl
theorem s3_in {L : List StT} {n : Nat} {x : StT} (h : 0 ≤ x.2.1 ∧ x.2.1 ≤ (n : Int) - 1) : s3B L n x = gdB (stAt L x.2.1) x.2.2.2.2.1 := by
  unfold s3B
  rw [decide_eq_true (show -1 ≤ x.2.1 ∧ x.2.1 ≤ (n : Int) - 1 from ⟨by omega, by omega⟩), decide_eq_false (show ¬ x.2.1 < 0 by omega)]; rfl
theorem s3_out {L : List StT} {n : Nat} {x : StT} (h : ¬ x.2.1 = -1) (h2 : ¬ (0 ≤ x.2.1 ∧ x.2.1 ≤ (n : Int) - 1)) : s3B L n x = false := by
  unfold s3B
  rw [decide_eq_false (show ¬ (-1 ≤ x.2.1 ∧ x.2.1 ≤ (n : Int) - 1) by omega)]; rfl
theorem ok_l05Standard : SpecOk Tryz.prog 104 s_l05Std := by
  intro args S h; unfold s_l05Std at h ⊢; (split at h <;> first | exact False.elim h | skip)
  dsimp only at h ⊢
  rename_i s n x i l wr
  obtain ⟨h1, h2, hi, hb⟩ := h
  have hL := seg_len h1
  obtain ⟨⟨nm, fr, ⟨⟨p, q⟩, p', q'⟩, ⟨dp, dq⟩, md, gd⟩, ha⟩ := get_some hi
  have e : (l[i]?).getD stD = (nm, fr, ((p, q), p', q'), (dp, dq), md, gd) := by rw [ha]; rfl
  have hsp : spB ((l[i]?).getD stD).2.2.1 = spB ((p, q), p', q') := by rw [e]
  rcases in_em fr n with hin | hin
  · obtain ⟨y, hy⟩ := get_some (l := seg l s n) (i := fr.toNat) (by omega)
    have hyb := s2_of (hb _ _ hy)
    have hyl := (seg_get hy).1
    have hey : (l[s + fr.toNat]?).getD stD = y := by rw [hyl]; rfl
    have hay : stAt (seg l s n) fr = y := stAt_z hy
    have h3 : s3B (seg l s n) n (nm, fr, ((p, q), p', q'), (dp, dq), md, gd) = gdB y md := by rw [s3_in (by exact hin)]; dsimp only; rw [hay]
    rw [e]
    refine funW tabOk (E := [(145, s_l01SpanV), (146, s_fOk), (64, s_l05Day), (112, s_within), (52, s_l05Good)]) ⟨ok_l01SpanV, ok_l01Ok, ok_l05Day, ok_l00In, ok_l05Good, trivial⟩ [] (k := 1) (fn := Tryz.f104) rfl rfl rfl rfl rfl rfl ?_
    (repeat' ((try (conv => whnf)); first | (with_reducible first | refine And.intro ?_ ?_ | refine WX.of ?_) | exact zc | ((with_reducible refine VC.mk ?_); exact zw) | with_reducible refine atL_p ha ?_ | ((with_reducible refine VC.mk ?_); exact ⟨(List.getElem?_eq_some_iff.1 hyl).1, by rw [hey]; exact hyb⟩) | (with_reducible first | refine splitT ?_ | refine splitF ?_) | ((with_reducible refine splitM.mk (fun hsm => ?_) (fun hsm => ?_)) <;> (try exact zx)) | ((with_reducible refine splitB.mk (fun h => ?_) (fun h => ?_)) <;> (try simp only [zs, ne_eq] at h) <;> (try simp (disch := omega) only [w64] at h) <;> (try exact zx)) | (with_reducible intro hz; (try exact absurd hz (Nat.succ_ne_zero _)))))
    all_goals (refine ⟨congrArg SV.bool ?_⟩; (try rw [hsp] at *); (try dsimp only at *); rw [h3]; (try rw [hey]); first | (exfalso; omega) | (unfold s2B; dsimp only; simp [*]; done) | (unfold s2B; dsimp only; simp [*]; intros; omega))
  · have h3 : s3B (seg l s n) n (nm, fr, ((p, q), p', q'), (dp, dq), md, gd) = decide (fr = -1) := by
      by_cases h4 : fr = -1
      · rw [s3_neg (by exact h4), decide_eq_true h4]
      · rw [s3_out (by exact h4) (by exact hin), decide_eq_false h4]
    rw [e]
    refine funW tabOk (E := [(145, s_l01SpanV), (146, s_fOk), (64, s_l05Day), (112, s_within), (52, s_l05Good)]) ⟨ok_l01SpanV, ok_l01Ok, ok_l05Day, ok_l00In, ok_l05Good, trivial⟩ [] (k := 1) (fn := Tryz.f104) rfl rfl rfl rfl rfl rfl ?_
    (repeat' ((try (conv => whnf)); first | (with_reducible first | refine And.intro ?_ ?_ | refine WX.of ?_) | exact zc | ((with_reducible refine VC.mk ?_); exact zw) | with_reducible refine atL_p ha ?_ | (with_reducible first | refine splitT ?_ | refine splitF ?_) | ((with_reducible refine splitM.mk (fun hsm => ?_) (fun hsm => ?_)) <;> (try exact zx)) | ((with_reducible refine splitB.mk (fun h => ?_) (fun h => ?_)) <;> (try simp only [zs, ne_eq] at h) <;> (try simp (disch := omega) only [w64] at h) <;> (try exact zx)) | (with_reducible intro hz; (try exact absurd hz (Nat.succ_ne_zero _)))))
    all_goals (first | (exfalso; omega) | (refine ⟨congrArg SV.bool ?_⟩; (try rw [hsp] at *); (try dsimp only at *); rw [h3]; unfold s2B; dsimp only; simp [*]; done) | (refine ⟨congrArg SV.bool ?_⟩; rw [h3]; unfold s2B; dsimp only; simp [*]; intros; omega))
def s_l05Ok : Spec := fun args S => match args, S with
  | [.sl 0 s n x], [.arr (.prod .str (.prod (.int .i64) (.prod (.prod (.prod (.int .i64) (.int .i64)) (.prod (.int .i64) (.int .i64))) (.prod (.prod (.int .i64) (.int .i64)) (.prod (.int .i64) (.int .i64)))))) l 10 wr] => ⟨(s + n ≤ l.length ∧ n ≤ 1048576) ∧ ∀ (j : Nat) (a : StT), l[j]? = some a → a.1.length < 9223372036854775808, .bool (chB (seg l s n)), [.arr (.prod .str (.prod (.int .i64) (.prod (.prod (.prod (.int .i64) (.int .i64)) (.prod (.int .i64) (.int .i64))) (.prod (.prod (.int .i64) (.int .i64)) (.prod (.int .i64) (.int .i64)))))) l 10 wr]⟩
  | _, _ => noSpec
theorem seg_atD {α : Type} {l : List α} {s n i : Nat} {a : α} {d : α} (h : (seg l s n)[i]? = some a) : (l[s + i]?).getD d = a := by rw [(seg_get h).1]; rfl
theorem ok_l05Ok : SpecOk Tryz.prog 37 s_l05Ok := by
  intro args S h; unfold s_l05Ok at h ⊢; (split at h <;> first | exact False.elim h | skip)
  dsimp only at h ⊢
  rename_i s n x l wr
  obtain ⟨⟨h1, h2⟩, ho⟩ := h
  have hL := seg_len h1
  refine funW tabOk (E := [(103, s_word), (104, s_l05Std)]) ⟨ok_l05Name, ok_l05Standard, trivial⟩ [] (k := 1) (fn := Tryz.f37) rfl rfl rfl rfl rfl rfl ?_
  (repeat' ((try (conv => whnf)); first | (with_reducible first | refine And.intro ?_ ?_ | refine WX.of ?_) | exact zc | ((with_reducible refine VC.mk ?_); exact zw) | (with_reducible first | refine splitT ?_ | refine splitF ?_) | ((with_reducible refine splitM.mk (fun hsm => ?_) (fun hsm => ?_)) <;> (try exact zx)) | ((with_reducible refine splitB.mk (fun h => ?_) (fun h => ?_)) <;> (try simp only [zs, ne_eq] at h) <;> (try simp (disch := omega) only [w64] at h) <;> (try exact zx)) | (with_reducible intro hz; (try exact absurd hz (Nat.succ_ne_zero _)))))
  · exact ⟨congrArg SV.bool (by unfold chB; rw [hL, show decide (n ≤ 30) = false from decide_eq_false (by omega), Bool.and_false])⟩
  · have hn30 := h
    refine loopW tabOk (E := [(103, s_word), (104, s_l05Std)]) ⟨ok_l05Name, ok_l05Standard, trivial⟩ [] (σ := Nat) (fun i => [(0, .sl 0 s n x), (3, .int .i64 i)]) (fun i => [.arr (.prod .str (.prod (.int .i64) (.prod (.prod (.prod (.int .i64) (.int .i64)) (.prod (.int .i64) (.int .i64))) (.prod (.prod (.int .i64) (.int .i64)) (.prod (.int .i64) (.int .i64)))))) l 10 wr]) (fun i => n - i) (fun i => i ≤ n ∧ ∀ (j : Nat) (a : StT), j < i → (seg l s n)[j]? = some a → stB (seg l s n) j a = true) 0 ⟨Nat.zero_le _, fun j a hj => by omega⟩ ?_ ?_
    · (repeat' ((try (conv => whnf)); first | (with_reducible first | refine And.intro ?_ ?_ | refine WX.of ?_) | exact zc | ((with_reducible refine VC.mk ?_); exact zw) | (with_reducible first | refine splitT ?_ | refine splitF ?_) | ((with_reducible refine splitM.mk (fun hsm => ?_) (fun hsm => ?_)) <;> (try exact zx)) | ((with_reducible refine splitB.mk (fun h => ?_) (fun h => ?_)) <;> (try simp only [zs, ne_eq] at h) <;> (try simp (disch := omega) only [w64] at h) <;> (try exact zx)) | (with_reducible intro hz; (try exact absurd hz (Nat.succ_ne_zero _)))))
    · intro i ⟨hi, hp⟩
      by_cases hlt : i < n
      · obtain ⟨⟨nm, fr, ⟨⟨p, q⟩, p', q'⟩, ⟨dp, dq⟩, md, gd⟩, ha⟩ := get_some (l := seg l s n) (i := i) (by omega)
        have hno := ho _ _ (seg_get ha).1
        dsimp only at hno
        have hsg := seg_take (l := l) (s := s) (m := n) (i := i) (by omega)
        have hse := seg_atD (d := stD) ha
        have hst : ∀ (j : Nat) (a : StT), (seg l s i)[j]? = some a → s2B a = true := fun j a hj => by
          rw [hsg, List.getElem?_take] at hj
          split at hj
          · have := hp j a (by omega) hj
            unfold stB at this; simp only [Bool.and_eq_true] at this; exact this.1.2
          · simp at hj
        have hs3 := s3_take (L := seg l s n) (i := i) (x := (nm, fr, ((p, q), p', q'), (dp, dq), md, gd)) (by omega)
        have hli := (List.getElem?_eq_some_iff.1 (seg_get ha).1).1
        (repeat' ((try (conv => whnf)); first | (with_reducible first | refine And.intro ?_ ?_ | refine WX.of ?_) | exact zc | ((with_reducible refine VC.mk ?_); exact zw) | with_reducible refine atL_i ha ?_ | ((with_reducible refine VC.mk ?_); exact ⟨by omega, by omega, hli, hst⟩) | (with_reducible first | refine splitT ?_ | refine splitF ?_) | ((with_reducible refine splitM.mk (fun hsm => ?_) (fun hsm => ?_)) <;> (try exact zx)) | ((with_reducible refine splitB.mk (fun h => ?_) (fun h => ?_)) <;> (try simp only [zs, ne_eq] at h) <;> (try simp (disch := omega) only [w64] at h) <;> (try exact zx)) | (with_reducible intro hz; (try exact absurd hz (Nat.succ_ne_zero _)))))
        · exact ⟨congrArg SV.bool (by rw [ch_no ha (st_1 (by unfold s1B; dsimp only; rw [h, Bool.false_and]))])⟩
        · rw [Int.toNat_natCast, hse, hsg, hs3, Bool.and_eq_false_iff] at h
          exact ⟨congrArg SV.bool (by rw [ch_no ha (by rcases h with h | h; exact st_2 h; exact st_3 h)])⟩
        · rename_i hw
          rw [Int.toNat_natCast, hse, hsg, hs3] at h
          have h23 := h
          (repeat' ((try (conv => whnf)); first | (with_reducible first | refine And.intro ?_ ?_ | refine WX.of ?_) | exact zc | ((with_reducible refine VC.mk ?_); exact zw) | (with_reducible first | refine splitT ?_ | refine splitF ?_) | ((with_reducible refine splitM.mk (fun hsm => ?_) (fun hsm => ?_)) <;> (try exact zx)) | ((with_reducible refine splitB.mk (fun h => ?_) (fun h => ?_)) <;> (try simp only [zs, ne_eq] at h) <;> (try simp (disch := omega) only [w64] at h) <;> (try exact zx)) | (with_reducible intro hz; (try exact absurd hz (Nat.succ_ne_zero _)))))
          refine loopW tabOk (E := [(103, s_word), (104, s_l05Std)]) ⟨ok_l05Name, ok_l05Standard, trivial⟩ [] (σ := Nat) (fun j => [(0, .sl 0 s n x), (3, .int .i64 i), (4, .int .i64 j)]) (fun j => [.arr (.prod .str (.prod (.int .i64) (.prod (.prod (.prod (.int .i64) (.int .i64)) (.prod (.int .i64) (.int .i64))) (.prod (.prod (.int .i64) (.int .i64)) (.prod (.int .i64) (.int .i64)))))) l 10 wr]) (fun j => i - j) (fun j => j ≤ i ∧ ∀ (k : Nat) (a : StT), k < j → (seg l s n)[k]? = some a → decide (a.1 = nm) = false) 0 ⟨Nat.zero_le _, fun j a hj => by omega⟩ ?_ ?_
          · (repeat' ((try (conv => whnf)); first | (with_reducible first | refine And.intro ?_ ?_ | refine WX.of ?_) | exact zc | ((with_reducible refine VC.mk ?_); exact zw) | (with_reducible first | refine splitT ?_ | refine splitF ?_) | ((with_reducible refine splitM.mk (fun hsm => ?_) (fun hsm => ?_)) <;> (try exact zx)) | ((with_reducible refine splitB.mk (fun h => ?_) (fun h => ?_)) <;> (try simp only [zs, ne_eq] at h) <;> (try simp (disch := omega) only [w64] at h) <;> (try exact zx)) | (with_reducible intro hz; (try exact absurd hz (Nat.succ_ne_zero _)))))
          · intro j ⟨hj, hq⟩
            by_cases hjl : j < i
            · obtain ⟨⟨nm0, fr0, ⟨⟨p0, q0⟩, p0', q0'⟩, ⟨dp0, dq0⟩, md0, gd0⟩, hb⟩ := get_some (l := seg l s n) (i := j) (by omega)
              (repeat' ((try (conv => whnf)); first | (with_reducible first | refine And.intro ?_ ?_ | refine WX.of ?_) | exact zc | ((with_reducible refine VC.mk ?_); exact zw) | with_reducible refine atL_i hb ?_ | with_reducible refine atL_i ha ?_ | (with_reducible first | refine splitT ?_ | refine splitF ?_) | ((with_reducible refine splitM.mk (fun hsm => ?_) (fun hsm => ?_)) <;> (try exact zx)) | ((with_reducible refine splitB.mk (fun h => ?_) (fun h => ?_)) <;> (try simp only [zs, ne_eq] at h) <;> (try simp (disch := omega) only [w64] at h) <;> (try exact zx)) | (with_reducible intro hz; (try exact absurd hz (Nat.succ_ne_zero _)))))
              · exact ⟨congrArg SV.bool (by rw [ch_no ha (st_1 (by unfold s1B; dsimp only; rw [any_take hb hjl (p := fun o : StT => decide (o.1 = nm)) (decide_eq_true h), Bool.not_true, Bool.and_false]))])⟩
              · refine ⟨j + 1, by omega, ⟨hjl, upto_step hb (decide_eq_false h) hq⟩, ?_⟩
                (repeat' ((try (conv => whnf)); first | (with_reducible first | refine And.intro ?_ ?_ | refine WX.of ?_) | exact zc | ((with_reducible refine VC.mk ?_); exact zw) | (with_reducible first | refine splitT ?_ | refine splitF ?_) | ((with_reducible refine splitM.mk (fun hsm => ?_) (fun hsm => ?_)) <;> (try exact zx)) | ((with_reducible refine splitB.mk (fun h => ?_) (fun h => ?_)) <;> (try simp only [zs, ne_eq] at h) <;> (try simp (disch := omega) only [w64] at h) <;> (try exact zx)) | (with_reducible intro hz; (try exact absurd hz (Nat.succ_ne_zero _)))))
            · have han : ((seg l s n).take i).any (fun o : StT => decide (o.1 = nm)) = false := any_no fun k a hk => by
                rw [List.getElem?_take] at hk
                split at hk
                · exact hq k a (by omega) hk
                · simp at hk
              have hth : stB (seg l s n) i (nm, fr, ((p, q), p', q'), (dp, dq), md, gd) = true := by
                unfold stB s1B; dsimp only; rw [hw, han, Bool.not_false, Bool.and_self, Bool.true_and]; exact h23
              (repeat' ((try (conv => whnf)); first | (with_reducible first | refine And.intro ?_ ?_ | refine WX.of ?_) | exact zc | ((with_reducible refine VC.mk ?_); exact zw) | (with_reducible first | refine splitT ?_ | refine splitF ?_) | ((with_reducible refine splitM.mk (fun hsm => ?_) (fun hsm => ?_)) <;> (try exact zx)) | ((with_reducible refine splitB.mk (fun h => ?_) (fun h => ?_)) <;> (try simp only [zs, ne_eq] at h) <;> (try simp (disch := omega) only [w64] at h) <;> (try exact zx)) | (with_reducible intro hz; (try exact absurd hz (Nat.succ_ne_zero _)))))
              refine ⟨i + 1, by omega, ⟨hlt, upto_step2 ha hth hp⟩, ?_⟩
              (repeat' ((try (conv => whnf)); first | (with_reducible first | refine And.intro ?_ ?_ | refine WX.of ?_) | exact zc | ((with_reducible refine VC.mk ?_); exact zw) | (with_reducible first | refine splitT ?_ | refine splitF ?_) | ((with_reducible refine splitM.mk (fun hsm => ?_) (fun hsm => ?_)) <;> (try exact zx)) | ((with_reducible refine splitB.mk (fun h => ?_) (fun h => ?_)) <;> (try simp only [zs, ne_eq] at h) <;> (try simp (disch := omega) only [w64] at h) <;> (try exact zx)) | (with_reducible intro hz; (try exact absurd hz (Nat.succ_ne_zero _)))))
      · obtain rfl : i = n := by omega
        have hbn := ch_yes (L := seg l s i) fun k a ha => hp k a (by have := (List.getElem?_eq_some_iff.1 ha).1; omega) ha
        (repeat' ((try (conv => whnf)); first | (with_reducible first | refine And.intro ?_ ?_ | refine WX.of ?_) | exact zc | ((with_reducible refine VC.mk ?_); exact zw) | (with_reducible first | refine splitT ?_ | refine splitF ?_) | ((with_reducible refine splitM.mk (fun hsm => ?_) (fun hsm => ?_)) <;> (try exact zx)) | ((with_reducible refine splitB.mk (fun h => ?_) (fun h => ?_)) <;> (try simp only [zs, ne_eq] at h) <;> (try simp (disch := omega) only [w64] at h) <;> (try exact zx)) | (with_reducible intro hz; (try exact absurd hz (Nat.succ_ne_zero _)))))
        exact ⟨congrArg SV.bool (by rw [hbn, hL, show decide (i ≤ 30) = true from decide_eq_true (by omega)])⟩
set_option maxHeartbeats 1600000 in
theorem ok_ValidChainI : SpecOk Tryz.prog 36 s_l05Ok := by
  intro args S h; unfold s_l05Ok at h ⊢; (split at h <;> first | exact False.elim h | skip)
  dsimp only at h ⊢
  rename_i s n x l wr
  obtain ⟨⟨h1, h2⟩, ho⟩ := h
  have hL := seg_len h1
  refine funW tabOk (E := [(98, s_word), (99, (s_anyCh 100)), (101, s_within), (59, s_vSpan), (102, s_fOk), (40, s_good)]) ⟨ok_isWord, ok_anyCh, ok_within, ok_ValidSpan, ok_ValidFrac, ok_good, trivial⟩ [] (k := 1) (fn := Tryz.f36) rfl rfl rfl rfl rfl rfl ?_
  (repeat' ((try (conv => whnf)); first | (with_reducible first | refine And.intro ?_ ?_ | refine WX.of ?_) | exact zc | ((with_reducible refine VC.mk ?_); exact zw) | (with_reducible first | refine splitT ?_ | refine splitF ?_) | ((with_reducible refine splitM.mk (fun hsm => ?_) (fun hsm => ?_)) <;> (try exact zx)) | ((with_reducible refine splitB.mk (fun h => ?_) (fun h => ?_)) <;> (try simp only [zs, ne_eq] at h) <;> (try simp (disch := omega) only [w64] at h) <;> (try exact zx)) | (with_reducible intro hz; (try exact absurd hz (Nat.succ_ne_zero _)))))
  refine loopW tabOk (E := [(98, s_word), (99, (s_anyCh 100)), (101, s_within), (59, s_vSpan), (102, s_fOk), (40, s_good)]) ⟨ok_isWord, ok_anyCh, ok_within, ok_ValidSpan, ok_ValidFrac, ok_good, trivial⟩ [] (σ := Nat) (fun i => [(0, .sl 0 s n x), (5, .sl 0 s n x), (6, .int .i64 n), (7, .int .i64 i)]) (fun i => [.arr (.prod .str (.prod (.int .i64) (.prod (.prod (.prod (.int .i64) (.int .i64)) (.prod (.int .i64) (.int .i64))) (.prod (.prod (.int .i64) (.int .i64)) (.prod (.int .i64) (.int .i64)))))) l 10 wr]) (fun i => n - i) (fun i => i ≤ n ∧ ∀ (j : Nat) (a : StT), j < i → (seg l s n)[j]? = some a → stB (seg l s n) j a = true) 0 ⟨Nat.zero_le _, fun j a hj => by omega⟩ ?_ ?_
  · (repeat' ((try (conv => whnf)); first | (with_reducible first | refine And.intro ?_ ?_ | refine WX.of ?_) | exact zc | ((with_reducible refine VC.mk ?_); exact zw) | (with_reducible first | refine splitT ?_ | refine splitF ?_) | ((with_reducible refine splitM.mk (fun hsm => ?_) (fun hsm => ?_)) <;> (try exact zx)) | ((with_reducible refine splitB.mk (fun h => ?_) (fun h => ?_)) <;> (try simp only [zs, ne_eq] at h) <;> (try simp (disch := omega) only [w64] at h) <;> (try exact zx)) | (with_reducible intro hz; (try exact absurd hz (Nat.succ_ne_zero _)))))
  · intro i ⟨hi, hp⟩
    by_cases hlt : i < n
    · obtain ⟨⟨nm, fr, ⟨⟨p, q⟩, p', q'⟩, ⟨dp, dq⟩, md, gd⟩, ha⟩ := get_some (l := seg l s n) (i := i) (by omega)
      have hno := ho _ _ (seg_get ha).1
      dsimp only at hno
      have hsg := seg_take (l := l) (s := s) (m := n) (i := i) (by omega)
      rcases in_em fr i with hin | hin
      · obtain ⟨⟨nm0, fr0, ⟨⟨p0, q0⟩, p0', q0'⟩, ⟨dp0, dq0⟩, md0, gd0⟩, hy⟩ := get_some (l := seg l s n) (i := fr.toNat) (by omega)
        have hyp := hp _ _ (by omega) hy
        have hyb := s2_of (show s2B _ = true from by unfold stB at hyp; simp only [Bool.and_eq_true] at hyp; exact hyp.1.2)
        have hay : stAt (seg l s n) fr = (nm0, fr0, ((p0, q0), p0', q0'), (dp0, dq0), md0, gd0) := stAt_z hy
        (repeat' ((try (conv => whnf)); first | (with_reducible first | refine And.intro ?_ ?_ | refine WX.of ?_) | exact zc | ((with_reducible refine VC.mk ?_); exact zw) | with_reducible refine atL_i ha ?_ | with_reducible refine atL_p (seg_get hy).1 ?_ | ((with_reducible refine VC.mk ?_); exact hno) | ((with_reducible refine VC.mk ?_); exact hyb) | (with_reducible first | refine splitT ?_ | refine splitF ?_) | ((with_reducible refine splitM.mk (fun hsm => ?_) (fun hsm => ?_)) <;> (try exact zx)) | ((with_reducible refine splitB.mk (fun h => ?_) (fun h => ?_)) <;> (try simp only [zs, ne_eq] at h) <;> (try simp (disch := omega) only [w64] at h) <;> (try exact zx)) | (with_reducible intro hz; (try exact absurd hz (Nat.succ_ne_zero _)))))
        all_goals first
          | exact ⟨⟨rfl, ⟨by omega, by omega⟩, trivial⟩⟩
          | (refine ⟨congrArg SV.bool ?_⟩; rw [ch_no ha]; unfold stB s1B s2B s3B spB dyB; dsimp only; first | (rw [Int.toNat_natCast, hsg] at h; simp [h]; done) | (simp [h]; done) | (rw [hay]; simp [h]; done) | (rw [hay]; simp [h]; intros; omega) | (rw [decide_eq_false h]; simp; done) | (simp [Int.not_le.2 h]; done) | (rw [decide_eq_false (Int.not_le.2 h)]; simp; done))
          | skip
        rename_i _ hw han hfr hsp hdf hdp hmd hgd h0
        rw [Int.toNat_natCast, hsg] at han
        have hth : stB (seg l s n) i (nm, fr, ((p, q), p', q'), (dp, dq), md, gd) = true := by
          unfold stB s1B s2B s3B spB dyB; dsimp only; rw [hay, hw, han, hsp, hdf, h, decide_eq_true hfr, decide_eq_true hdp, decide_eq_true hmd, decide_eq_true hgd]; simp
        refine ⟨i + 1, by omega, ⟨hlt, upto_step2 ha hth hp⟩, ?_⟩
        (repeat' ((try (conv => whnf)); first | (with_reducible first | refine And.intro ?_ ?_ | refine WX.of ?_) | exact zc | ((with_reducible refine VC.mk ?_); exact zw) | (with_reducible first | refine splitT ?_ | refine splitF ?_) | ((with_reducible refine splitM.mk (fun hsm => ?_) (fun hsm => ?_)) <;> (try exact zx)) | ((with_reducible refine splitB.mk (fun h => ?_) (fun h => ?_)) <;> (try simp only [zs, ne_eq] at h) <;> (try simp (disch := omega) only [w64] at h) <;> (try exact zx)) | (with_reducible intro hz; (try exact absurd hz (Nat.succ_ne_zero _)))))
      · (repeat' ((try (conv => whnf)); first | (with_reducible first | refine And.intro ?_ ?_ | refine WX.of ?_) | exact zc | ((with_reducible refine VC.mk ?_); exact zw) | with_reducible refine atL_i ha ?_ | ((with_reducible refine VC.mk ?_); exact hno) | (with_reducible first | refine splitT ?_ | refine splitF ?_) | ((with_reducible refine splitM.mk (fun hsm => ?_) (fun hsm => ?_)) <;> (try exact zx)) | ((with_reducible refine splitB.mk (fun h => ?_) (fun h => ?_)) <;> (try simp only [zs, ne_eq] at h) <;> (try simp (disch := omega) only [w64] at h) <;> (try exact zx)) | (with_reducible intro hz; (try exact absurd hz (Nat.succ_ne_zero _)))))
        all_goals first
          | exact ⟨⟨rfl, ⟨by omega, by omega⟩, trivial⟩⟩
          | (refine ⟨congrArg SV.bool ?_⟩; rw [ch_no ha]; unfold stB s1B s2B s3B spB dyB; dsimp only; first | (rw [Int.toNat_natCast, hsg] at h; simp [h]; done) | (simp [h]; done) | (rw [decide_eq_false h]; simp; done) | (simp [Int.not_le.2 h]; done) | (rw [decide_eq_false (Int.not_le.2 h)]; simp; done))
          | skip
        rename_i _ hw han hfr hsp hdf hdp hmd hgd
        rw [Int.toNat_natCast, hsg] at han
        have hth : stB (seg l s n) i (nm, fr, ((p, q), p', q'), (dp, dq), md, gd) = true := by
          unfold stB s1B s2B s3B spB dyB; dsimp only; rw [hw, han, hsp, hdf, decide_eq_true hfr, decide_eq_true hdp, decide_eq_true hmd, decide_eq_true hgd, decide_eq_true h]; simp
        refine ⟨i + 1, by omega, ⟨hlt, upto_step2 ha hth hp⟩, ?_⟩
        (repeat' ((try (conv => whnf)); first | (with_reducible first | refine And.intro ?_ ?_ | refine WX.of ?_) | exact zc | ((with_reducible refine VC.mk ?_); exact zw) | (with_reducible first | refine splitT ?_ | refine splitF ?_) | ((with_reducible refine splitM.mk (fun hsm => ?_) (fun hsm => ?_)) <;> (try exact zx)) | ((with_reducible refine splitB.mk (fun h => ?_) (fun h => ?_)) <;> (try simp only [zs, ne_eq] at h) <;> (try simp (disch := omega) only [w64] at h) <;> (try exact zx)) | (with_reducible intro hz; (try exact absurd hz (Nat.succ_ne_zero _)))))
    · obtain rfl : i = n := by omega
      have hbn := ch_yes (L := seg l s i) fun k a ha => hp k a (by have := (List.getElem?_eq_some_iff.1 ha).1; omega) ha
      (repeat' ((try (conv => whnf)); first | (with_reducible first | refine And.intro ?_ ?_ | refine WX.of ?_) | exact zc | ((with_reducible refine VC.mk ?_); exact zw) | (with_reducible first | refine splitT ?_ | refine splitF ?_) | ((with_reducible refine splitM.mk (fun hsm => ?_) (fun hsm => ?_)) <;> (try exact zx)) | ((with_reducible refine splitB.mk (fun h => ?_) (fun h => ?_)) <;> (try simp only [zs, ne_eq] at h) <;> (try simp (disch := omega) only [w64] at h) <;> (try exact zx)) | (with_reducible intro hz; (try exact absurd hz (Nat.succ_ne_zero _)))))
      exact ⟨congrArg SV.bool (by rw [hbn, hL, decide_eq_decide]; omega)⟩
end Go.Proofs.YtonnkpclllmkoaaGreat.Eng
set_option linter.unusedVariables false
set_option linter.unusedSimpArgs false
namespace Go.Proofs.YtonnkpclllmkoaaGreat.Eng
open Go Go.RowKit
set_option maxRecDepth 100000
/-- The value of a fraction. -/
def rv (a : FrT) : Rat := (a.1 : Rat) / (a.2 : Rat)
theorem pos_q {q : Int} (h : 0 < q) : (0 : Rat) < (q : Rat) := by exact_mod_cast h
theorem rv_lei {p q r s : Int} (h1 : 0 < q) (h2 : 0 < s) : (p : Rat) / q ≤ r / s ↔ p * s ≤ r * q := by
  have hq := pos_q h1
  have hs := pos_q h2
  have h3 : (r : Rat) / s < p / q ↔ r * q < p * s := by
    rw [Rat.div_lt_iff hs]
    rw [show (p : Rat) / q * s = (p * s) / q by grind]
    rw [Rat.lt_div_iff hq]
    norm_cast
  rw [← Rat.not_lt, h3]
  omega
theorem rv_le {a b : FrT} (h1 : 0 < a.2) (h2 : 0 < b.2) : rv a ≤ rv b ↔ a.1 * b.2 ≤ b.1 * a.2 := rv_lei h1 h2
theorem rv_lt {a b : FrT} (h1 : 0 < a.2) (h2 : 0 < b.2) : rv a < rv b ↔ a.1 * b.2 < b.1 * a.2 := by
  rw [← Rat.not_le, rv_le h2 h1]; omega
theorem rv_num (n : Int) : rv (n, 1) = n := by unfold rv; dsimp only; grind
theorem rv_rO {p q : Int} {v : FrT} (hq : 0 < q) (h : rO p q = some v) : rv v = (p : Rat) / q ∧ 0 < v.2 := by
  unfold rO at h
  split at h
  · obtain rfl := Option.some.inj h
    have hb := red_back (p := p) hq
    have hg := redG_pos (p := p) (q := q) (by omega)
    have hQ := redQ_pos (p := p) hq
    refine ⟨?_, hQ⟩
    have hg' := pos_q hg
    have hQ' := pos_q hQ
    have e1 : (p : Rat) = redG p q * redP p q := by exact_mod_cast hb.1
    have e2 : (q : Rat) = redG p q * redQ p q := by exact_mod_cast hb.2
    unfold rv
    rw [e1, e2]
    dsimp only
    grind
  · simp at h
theorem rv_ad {a b v : FrT} (ha : 0 < a.2) (hb : 0 < b.2) (h : adO a b = some v) : rv v = rv a + rv b ∧ 0 < v.2 := by
  have h1 := rv_rO (Int.mul_pos ha hb) h
  refine ⟨?_, h1.2⟩
  rw [h1.1]
  unfold rv
  have := pos_q ha
  have := pos_q hb
  push_cast
  grind
theorem rv_sb {a b v : FrT} (ha : 0 < a.2) (hb : 0 < b.2) (h : sbO a b = some v) : rv v = rv a - rv b ∧ 0 < v.2 := by
  have h1 := rv_rO (Int.mul_pos ha hb) h
  refine ⟨?_, h1.2⟩
  rw [h1.1]
  unfold rv
  have := pos_q ha
  have := pos_q hb
  push_cast
  grind
theorem rv_mu {a b v : FrT} (ha : 0 < a.2) (hb : 0 < b.2) (h : muO a b = some v) : rv v = rv a * rv b ∧ 0 < v.2 := by
  have h1 := rv_rO (Int.mul_pos ha hb) h
  refine ⟨?_, h1.2⟩
  rw [h1.1]
  unfold rv
  have := pos_q ha
  have := pos_q hb
  push_cast
  grind
theorem rv_dv {a b v : FrT} (ha : 0 < a.2) (hb : 0 < b.2) (hp : 0 < b.1) (h : dvO a b = some v) : rv v = rv a / rv b ∧ 0 < v.2 := by
  unfold dvO at h
  rw [if_neg (by omega)] at h
  have h1 := rv_rO (Int.mul_pos ha hp) h
  refine ⟨?_, h1.2⟩
  rw [h1.1]
  unfold rv
  have := pos_q ha
  have := pos_q hb
  have := pos_q hp
  push_cast
  grind
theorem fOk_q {p q : Int} (h : fOk p q = true) : 0 < q := by have := smF_ok h; unfold smF at this; omega
theorem rv_pos {a : FrT} (h : 0 < a.2) : 0 < rv a ↔ 0 < a.1 := by
  have h2 := rv_lt (a := (0, 1)) (b := a) (by decide) h
  rw [show rv (0, 1) = 0 from rv_num 0] at h2
  rw [h2]; dsimp only; omega
theorem rv_nn {a : FrT} (h : 0 < a.2) : 0 ≤ rv a ↔ 0 ≤ a.1 := by
  have h2 := rv_le (a := (0, 1)) (b := a) (by decide) h
  rw [show rv (0, 1) = 0 from rv_num 0] at h2
  rw [h2]; dsimp only; omega
end Go.Proofs.YtonnkpclllmkoaaGreat.Eng
set_option linter.unusedVariables false
set_option linter.unusedSimpArgs false
namespace Go.Proofs.YtonnkpclllmkoaaGreat.Eng
open Go Go.RowKit
set_option maxRecDepth 100000
def upW (L : List StT) (day : Int) : List Int → Prop
  | [] => True
  | i :: W => stMd (stAt L i) ≤ nxD L day W ∧ upW L day W
theorem up_snoc {L : List StT} {day i : Int} (hd : stMd (stAt L i) ≤ day) : ∀ {W : List Int}, upW L (stMd (stAt L i)) W → upW L day (W ++ [i])
  | [], _ => ⟨hd, trivial⟩
  | k :: W, h => by
    refine ⟨?_, up_snoc hd h.2⟩
    cases W with
    | nil => exact h.1
    | cons m W => exact h.1
theorem path_up {L : List StT} (h : chB L = true) : ∀ (n : Nat) {i day : Int}, i < n → i < L.length → (0 ≤ i → stMd (stAt L i) ≤ day) → upW L day (pathL L i)
  | 0, i, day, h1, h2, hd => by rw [path_neg (by omega)]; trivial
  | n + 1, i, day, h1, h2, hd => by
    by_cases h0 : i < 0
    · rw [path_neg h0]; trivial
    · have hf := fr_lt h (i := i) (by omega)
      rw [path_step h (by omega)]
      refine up_snoc (hd (by omega)) (path_up h n (by omega) (by omega) fun h3 => ?_)
      obtain ⟨a, ha, e, ho⟩ := ch_z h (i := i) (by omega)
      rw [e] at h3 ⊢
      exact (ho.go h3).1
theorem path_upz {L : List StT} (h : chB L = true) {i day : Int} (h2 : i < L.length) (hd : 0 ≤ i → stMd (stAt L i) ≤ day) : upW L day (pathL L i) := by
  by_cases h0 : i < 0
  · rw [path_neg h0]; trivial
  · exact path_up h (i.toNat + 1) (by omega) h2 hd
theorem spB_rv {s : SpT} (h : spB s = true) : 0 < s.1.2 ∧ 0 < s.2.2 ∧ rv s.1 ≤ rv s.2 := by
  have := spB_f h
  have h1 := fOk_q this.1
  have h2 := fOk_q this.2.1
  exact ⟨h1, h2, (rv_le h1 h2).2 this.2.2⟩
theorem rv_spB {s : SpT} (h1 : fOk s.1.1 s.1.2 = true) (h2 : fOk s.2.1 s.2.2 = true) (h : rv s.1 ≤ rv s.2) : spB s = true := by
  unfold spB; rw [spOk_iff]
  exact ⟨h1, h2, (rv_le (fOk_q h1) (fOk_q h2)).1 h⟩
theorem pl_sp {s t v : SpT} (hs : spB s = true) (ht : spB t = true) (h : plO s t = some v) : spB v = true ∧ rv v.1 = rv s.1 + rv t.1 ∧ rv v.2 = rv s.2 + rv t.2 := by
  have e := spO_f h
  have h1 := spB_rv hs
  have h2 := spB_rv ht
  have a1 := rv_ad h1.1 h2.1 e.1
  have a2 := rv_ad h1.2.1 h2.2.1 e.2
  refine ⟨rv_spB (rO_f e.1) (rO_f e.2) ?_, a1.1, a2.1⟩
  rw [a1.1, a2.1]; have := h1.2.2; have := h2.2.2; grind
theorem dr_sp {s v : SpT} {d : FrT} {n : Int} (hs : spB s = true) (hd : fOk d.1 d.2 = true) (h0 : 0 ≤ d.1) (hn : 0 ≤ n) (h : drO s d n = some v) : spB v = true ∧ rv v.1 = rv s.1 - rv d * n ∧ rv v.2 = rv s.2 + rv d * n ∧ 0 ≤ rv d * n := by
  unfold drO at h
  obtain ⟨m, hm, h⟩ := Option.bind_eq_some_iff.1 h
  have e := spO_f h
  have h1 := spB_rv hs
  have hq := fOk_q hd
  have am := rv_mu hq (b := (n, 1)) (by show (0 : Int) < 1; omega) hm
  rw [rv_num] at am
  have a1 := rv_sb h1.1 am.2 e.1
  have a2 := rv_ad h1.2.1 am.2 e.2
  have hnn : 0 ≤ rv d * n := Rat.mul_nonneg ((rv_nn hq).2 h0) (by exact_mod_cast hn)
  rw [am.1] at a1 a2
  refine ⟨rv_spB (rO_f e.1) (rO_f e.2) ?_, a1.1, a2.1, hnn⟩
  rw [a1.1, a2.1]; grind
theorem al1_sp {L : List StT} {k : Nat} {x : StT} {s v : SpT} {e : Int} (hx : StOk L k x) (hs : spB s = true) (he : x.2.2.2.2.1 ≤ e) (h : alO1 s x e = some v) : spB v = true := by
  unfold alO1 at h
  obtain ⟨u, hu, h⟩ := Option.bind_eq_some_iff.1 h
  exact (dr_sp (pl_sp hs hx.vl hu).1 hx.dr hx.dn (by omega) h).1
theorem al_sp {L : List StT} (h : chB L = true) {day : Int} : ∀ {W : List Int} {s v : SpT}, (∀ j ∈ W, 0 ≤ j ∧ j < L.length) → upW L day W → spB s = true → alO L day W s = some v → spB v = true
  | [], s, v, _, _, hs, e => by obtain rfl := Option.some.inj e; exact hs
  | i :: W, s, v, hW, hu, hs, e => by
    rw [alO] at e
    obtain ⟨u, h1, e⟩ := Option.bind_eq_some_iff.1 e
    obtain ⟨a, ha, ea, ho⟩ := ch_z h (hW i (by simp))
    have hu1 := hu.1
    rw [ea] at h1 hu1
    exact al_sp h (fun j hj => hW j (by simp [hj])) hu.2 (al1_sp ho hs hu1 h1) e
end Go.Proofs.YtonnkpclllmkoaaGreat.Eng
set_option linter.unusedVariables false
set_option linter.unusedSimpArgs false
namespace Go.Proofs.YtonnkpclllmkoaaGreat.Eng
open Go Go.RowKit
set_option maxRecDepth 100000
def s_path : Spec := fun args S => match args, S with
  | [.sl 0 s n x, .int .i64 i], [.arr (.prod .str (.prod (.int .i64) (.prod (.prod (.prod (.int .i64) (.int .i64)) (.prod (.int .i64) (.int .i64))) (.prod (.prod (.int .i64) (.int .i64)) (.prod (.int .i64) (.int .i64)))))) l 10 wr] => ⟨s + n ≤ l.length ∧ chB (seg l s n) = true ∧ i < n, .sl 1 0 (pathL (seg l s n) i).length 0, [.arr (.prod .str (.prod (.int .i64) (.prod (.prod (.prod (.int .i64) (.int .i64)) (.prod (.int .i64) (.int .i64))) (.prod (.prod (.int .i64) (.int .i64)) (.prod (.int .i64) (.int .i64)))))) l 10 wr, .arr (.int .i64) (pathL (seg l s n) i) 1 true]⟩
  | _, _ => noSpec
theorem ltz {a b c : Int} (h : a ≤ b - 1) (h2 : b < c) : a < c := by omega
theorem ltz2 {a i : Int} {m : Nat} (h : a ≤ i - 1) (h2 : i < ((m + 1 : Nat) : Int)) : a < (m : Int) := by omega
theorem ok_pathI : SpecOk Tryz.prog 45 s_path := by
  intro args S h; unfold s_path at h ⊢; (split at h <;> first | exact False.elim h | skip)
  dsimp only at h ⊢
  rename_i s n x i l wr
  obtain ⟨h1, hc, hi⟩ := h
  have hL := seg_len h1
  have hl30 := ch_len hc
  refine funW tabOk (E := []) trivial [] (k := 1) (fn := Tryz.f45) rfl rfl rfl rfl rfl rfl ?_
  (repeat' ((try (conv => whnf)); first | (with_reducible first | refine And.intro ?_ ?_ | refine WX.of ?_) | exact zc | ((with_reducible refine VC.mk ?_); exact zw) | (with_reducible first | refine splitT ?_ | refine splitF ?_) | ((with_reducible refine splitM.mk (fun hsm => ?_) (fun hsm => ?_)) <;> (try exact zx)) | ((with_reducible refine splitB.mk (fun h => ?_) (fun h => ?_)) <;> (try simp only [zs, ne_eq] at h) <;> (try simp (disch := omega) only [w64] at h) <;> (try exact zx)) | (with_reducible intro hz; (try exact absurd hz (Nat.succ_ne_zero _)))))
  by_cases hneg : i < 0
  · have e : pathL (seg l s n) i = [] := path_neg hneg
    rw [e]
    refine loop1 tabOk (E := []) trivial [] ?_
    (repeat' ((try (conv => whnf)); first | (with_reducible first | refine And.intro ?_ ?_ | refine WX.of ?_) | exact zc | ((with_reducible refine VC.mk ?_); exact zw) | (with_reducible first | refine splitT ?_ | refine splitF ?_) | ((with_reducible refine splitM.mk (fun hsm => ?_) (fun hsm => ?_)) <;> (try exact zx)) | ((with_reducible refine splitB.mk (fun h => ?_) (fun h => ?_)) <;> (try simp only [zs, ne_eq] at h) <;> (try simp (disch := omega) only [w64] at h) <;> (try exact zx)) | (with_reducible intro hz; (try exact absurd hz (Nat.succ_ne_zero _)))))
  refine loopW tabOk (E := []) trivial [] (σ := Int × List Int) (fun z => [(0, .sl 0 s n x), (1, .int .i64 z.1), (5, .sl 1 0 z.2.length 0)]) (fun z => [.arr (.prod .str (.prod (.int .i64) (.prod (.prod (.prod (.int .i64) (.int .i64)) (.prod (.int .i64) (.int .i64))) (.prod (.prod (.int .i64) (.int .i64)) (.prod (.int .i64) (.int .i64)))))) l 10 wr, .arr (.int .i64) z.2 1 true]) (fun z => (z.1 + 1).toNat) (fun z => -1 ≤ z.1 ∧ z.1 < n ∧ (z.2.length : Int) ≤ 40 - z.1 ∧ pathL (seg l s n) i = pathL (seg l s n) z.1 ++ z.2) (i, []) ⟨by dsimp only; omega, by dsimp only; omega, by simp; omega, by simp⟩ ?_ ?_
  · (repeat' ((try (conv => whnf)); first | (with_reducible first | refine And.intro ?_ ?_ | refine WX.of ?_) | exact zc | ((with_reducible refine VC.mk ?_); exact zw) | (with_reducible first | refine splitT ?_ | refine splitF ?_) | ((with_reducible refine splitM.mk (fun hsm => ?_) (fun hsm => ?_)) <;> (try exact zx)) | ((with_reducible refine splitB.mk (fun h => ?_) (fun h => ?_)) <;> (try simp only [zs, ne_eq] at h) <;> (try simp (disch := omega) only [w64] at h) <;> (try exact zx)) | (with_reducible intro hz; (try exact absurd hz (Nat.succ_ne_zero _)))))
  · intro ⟨j, B⟩ ⟨hj1, hj2, hB, he⟩
    dsimp only at hj1 hj2 hB he ⊢
    by_cases hjn : j < 0
    · have e : pathL (seg l s n) j = [] := path_neg hjn
      rw [e, List.nil_append] at he
      rw [he]
      (repeat' ((try (conv => whnf)); first | (with_reducible first | refine And.intro ?_ ?_ | refine WX.of ?_) | exact zc | ((with_reducible refine VC.mk ?_); exact zw) | (with_reducible first | refine splitT ?_ | refine splitF ?_) | ((with_reducible refine splitM.mk (fun hsm => ?_) (fun hsm => ?_)) <;> (try exact zx)) | ((with_reducible refine splitB.mk (fun h => ?_) (fun h => ?_)) <;> (try simp only [zs, ne_eq] at h) <;> (try simp (disch := omega) only [w64] at h) <;> (try exact zx)) | (with_reducible intro hz; (try exact absurd hz (Nat.succ_ne_zero _)))))
    · obtain ⟨⟨nm, fr, ⟨⟨p, q⟩, p', q'⟩, ⟨dp, dq⟩, md, gd⟩, ha⟩ := get_some (l := seg l s n) (i := j.toNat) (by omega)
      have hst := path_step hc (i := j) (by omega)
      have hfl := fr_lt hc (i := j) (by omega)
      rw [stAt_z ha] at hst hfl
      dsimp only at hst hfl
      have hA := ltz hfl.2 hj2
      (repeat' ((try (conv => whnf)); first | (with_reducible first | refine And.intro ?_ ?_ | refine WX.of ?_) | exact zc | ((with_reducible refine VC.mk ?_); exact zw) | with_reducible refine atL_p (seg_get ha).1 ?_ | (with_reducible first | refine splitT ?_ | refine splitF ?_) | ((with_reducible refine splitM.mk (fun hsm => ?_) (fun hsm => ?_)) <;> (try exact zx)) | ((with_reducible refine splitB.mk (fun h => ?_) (fun h => ?_)) <;> (try simp only [zs, ne_eq] at h) <;> (try simp (disch := omega) only [w64] at h) <;> (try exact zx)) | (with_reducible intro hz; (try exact absurd hz (Nat.succ_ne_zero _)))))
      · obtain rfl : B = [] := List.eq_nil_of_length_eq_zero hz
        refine ⟨(fr, [j]), by dsimp only; omega, ⟨hfl.1, hA, by simp; omega, by rw [he, hst]; simp⟩, ?_⟩
        (repeat' ((try (conv => whnf)); first | (with_reducible first | refine And.intro ?_ ?_ | refine WX.of ?_) | exact zc | ((with_reducible refine VC.mk ?_); exact zw) | (with_reducible first | refine splitT ?_ | refine splitF ?_) | ((with_reducible refine splitM.mk (fun hsm => ?_) (fun hsm => ?_)) <;> (try exact zx)) | ((with_reducible refine splitB.mk (fun h => ?_) (fun h => ?_)) <;> (try simp only [zs, ne_eq] at h) <;> (try simp (disch := omega) only [w64] at h) <;> (try exact zx)) | (with_reducible intro hz; (try exact absurd hz (Nat.succ_ne_zero _)))))
      · refine ⟨(fr, j :: B), by dsimp only; omega, ⟨hfl.1, hA, by simp; omega, by rw [he, hst]; simp⟩, ?_⟩
        (repeat' ((try (conv => whnf)); first | (with_reducible first | refine And.intro ?_ ?_ | refine WX.of ?_) | exact zc | ((with_reducible refine VC.mk ?_); exact zw) | (with_reducible first | refine splitT ?_ | refine splitF ?_) | ((with_reducible refine splitM.mk (fun hsm => ?_) (fun hsm => ?_)) <;> (try exact zx)) | ((with_reducible refine splitB.mk (fun h => ?_) (fun h => ?_)) <;> (try simp only [zs, ne_eq] at h) <;> (try simp (disch := omega) only [w64] at h) <;> (try exact zx)) | (with_reducible intro hz; (try exact absurd hz (Nat.succ_ne_zero _)))))
        · exact ⟨by simp [Nat.add_comm]⟩
        · exact ⟨by simp [seg_all]; rfl⟩
def s_l05Path (m : Nat) : Spec := fun args S => match args, S with
  | [.sl 0 s n x, .int .i64 i], [.arr (.prod .str (.prod (.int .i64) (.prod (.prod (.prod (.int .i64) (.int .i64)) (.prod (.int .i64) (.int .i64))) (.prod (.prod (.int .i64) (.int .i64)) (.prod (.int .i64) (.int .i64)))))) l 10 wr] => ⟨(s + n ≤ l.length ∧ chB (seg l s n) = true ∧ i < n) ∧ i < m, .sl 1 0 (pathL (seg l s n) i).length 0, [.arr (.prod .str (.prod (.int .i64) (.prod (.prod (.prod (.int .i64) (.int .i64)) (.prod (.int .i64) (.int .i64))) (.prod (.prod (.int .i64) (.int .i64)) (.prod (.int .i64) (.int .i64)))))) l 10 wr, .arr (.int .i64) (pathL (seg l s n) i) 1 true]⟩
  | _, _ => noSpec
theorem ok_l05Path_0 : SpecOk Tryz.prog 53 (s_l05Path 0) := by
  intro args S h; unfold s_l05Path at h ⊢; (split at h <;> first | exact False.elim h | skip)
  dsimp only at h ⊢
  rename_i s n x i l wr
  obtain ⟨⟨h1, hc, hi⟩, hm⟩ := h
  have hn : i < 0 := hm
  have e : pathL (seg l s n) i = [] := path_neg hn
  rw [e]
  refine funW tabOk (E := []) trivial [] (k := 1) (fn := Tryz.f53) rfl rfl rfl rfl rfl rfl ?_
  (repeat' ((try (conv => whnf)); first | (with_reducible first | refine And.intro ?_ ?_ | refine WX.of ?_) | exact zc | ((with_reducible refine VC.mk ?_); exact zw) | (with_reducible first | refine splitT ?_ | refine splitF ?_) | ((with_reducible refine splitM.mk (fun hsm => ?_) (fun hsm => ?_)) <;> (try exact zx)) | ((with_reducible refine splitB.mk (fun h => ?_) (fun h => ?_)) <;> (try simp only [zs, ne_eq] at h) <;> (try simp (disch := omega) only [w64] at h) <;> (try exact zx)) | (with_reducible intro hz; (try exact absurd hz (Nat.succ_ne_zero _)))))
theorem ok_l05Path_1 {m : Nat} (ih : SpecOk Tryz.prog 53 (s_l05Path m)) : SpecOk Tryz.prog 53 (s_l05Path (m + 1)) := by
  intro args S h; unfold s_l05Path at h ⊢; (split at h <;> first | exact False.elim h | skip)
  dsimp only at h ⊢
  rename_i s n x i l wr
  obtain ⟨⟨h1, hc, hi⟩, hm⟩ := h
  have hL := seg_len h1
  have hl30 := ch_len hc
  by_cases hneg : i < 0
  · have e : pathL (seg l s n) i = [] := path_neg hneg
    rw [e]
    refine funW tabOk (E := [(53, (s_l05Path m))]) ⟨ih, trivial⟩ [] (k := 1) (fn := Tryz.f53) rfl rfl rfl rfl rfl rfl ?_
    (repeat' ((try (conv => whnf)); first | (with_reducible first | refine And.intro ?_ ?_ | refine WX.of ?_) | exact zc | ((with_reducible refine VC.mk ?_); exact zw) | (with_reducible first | refine splitT ?_ | refine splitF ?_) | ((with_reducible refine splitM.mk (fun hsm => ?_) (fun hsm => ?_)) <;> (try exact zx)) | ((with_reducible refine splitB.mk (fun h => ?_) (fun h => ?_)) <;> (try simp only [zs, ne_eq] at h) <;> (try simp (disch := omega) only [w64] at h) <;> (try exact zx)) | (with_reducible intro hz; (try exact absurd hz (Nat.succ_ne_zero _)))))
  · obtain ⟨⟨nm, fr, ⟨⟨p, q⟩, p', q'⟩, ⟨dp, dq⟩, md, gd⟩, ha⟩ := get_some (l := seg l s n) (i := i.toNat) (by omega)
    have hst := path_step hc (i := i) (by omega)
    have hfl := fr_lt hc (i := i) (by omega)
    rw [stAt_z ha] at hst hfl
    dsimp only at hst hfl
    have hp30 := path_30 hc (i := fr) (by omega)
    rw [hst]
    refine funW tabOk (E := [(53, (s_l05Path m))]) ⟨ih, trivial⟩ [] (k := 1) (fn := Tryz.f53) rfl rfl rfl rfl rfl rfl ?_
    have hA := ltz hfl.2 hi
    have hB := ltz2 hfl.2 hm
    (repeat' ((try (conv => whnf)); first | (with_reducible first | refine And.intro ?_ ?_ | refine WX.of ?_) | exact zc | ((with_reducible refine VC.mk ?_); exact zw) | with_reducible refine atL_p (seg_get ha).1 ?_ | ((with_reducible refine VC.mk ?_); exact ⟨⟨h1, hc, hA⟩, hB⟩) | ((with_reducible refine VC.mk ?_); exact ⟨Nat.le_trans (Nat.mul_le_mul_left _ (show _ ≤ 1000 by decide)) (by dsimp only; omega), by dsimp only; omega⟩) | (with_reducible first | refine splitT ?_ | refine splitF ?_) | ((with_reducible refine splitM.mk (fun hsm => ?_) (fun hsm => ?_)) <;> (try exact zx)) | ((with_reducible refine splitB.mk (fun h => ?_) (fun h => ?_)) <;> (try simp only [zs, ne_eq] at h) <;> (try simp (disch := omega) only [w64] at h) <;> (try exact zx)) | (with_reducible intro hz; (try exact absurd hz (Nat.succ_ne_zero _)))))
    · exact ⟨by simp⟩
    · exact ⟨by simp [seg_all]; exact ⟨rfl, rfl⟩⟩
theorem ok_l05PathM : ∀ (m : Nat), SpecOk Tryz.prog 53 (s_l05Path m)
  | 0 => ok_l05Path_0
  | m + 1 => ok_l05Path_1 (ok_l05PathM m)
theorem ok_l05Path : SpecOk Tryz.prog 53 s_path := by
  intro args S h; unfold s_path at h ⊢; (split at h <;> first | exact False.elim h | skip)
  dsimp only at h ⊢
  rename_i s n x i l wr
  exact ok_l05PathM (i.toNat + 1) [.sl 0 s n x, .int .i64 i] [.arr (.prod .str (.prod (.int .i64) (.prod (.prod (.prod (.int .i64) (.int .i64)) (.prod (.int .i64) (.int .i64))) (.prod (.prod (.int .i64) (.int .i64)) (.prod (.int .i64) (.int .i64)))))) l 10 wr] ⟨h, by omega⟩
end Go.Proofs.YtonnkpclllmkoaaGreat.Eng
set_option linter.unusedVariables false
set_option linter.unusedSimpArgs false
namespace Go.Proofs.YtonnkpclllmkoaaGreat.Eng
open Go Go.RowKit
set_option maxRecDepth 100000
def s_plOI : Spec := fun args S => match args, S with
  | [.ptr b 0 0, .agg [.int .i64 p, .int .i64 q, .int .i64 p', .int .i64 q'], .agg [.int .i64 r, .int .i64 s, .int .i64 r', .int .i64 s']], [.arr .bool [bad] 0 true] => ⟨b = 0 ∧ smS ((p, q), p', q') ∧ smS ((r, s), r', s'), .agg [.int .i64 (plV ((p, q), p', q') ((r, s), r', s')).1.1, .int .i64 (plV ((p, q), p', q') ((r, s), r', s')).1.2, .int .i64 (plV ((p, q), p', q') ((r, s), r', s')).2.1, .int .i64 (plV ((p, q), p', q') ((r, s), r', s')).2.2], [.arr .bool [bad || (!(adO (p, q) (r, s)).isSome || !(adO (p', q') (r', s')).isSome)] 0 true]⟩
  | _, _ => noSpec
theorem ok_plOI : SpecOk Tryz.prog 149 s_plOI := by
  intro args S h; unfold s_plOI at h ⊢; (split at h <;> first | exact False.elim h | skip)
  dsimp only at h ⊢
  rename_i b p q p' q' r s r' s' bad
  obtain ⟨rfl, h1, h2⟩ := h
  refine funW tabOk (E := [(44, s_addO)]) ⟨ok_addO, trivial⟩ [(1, [(8, 0), (10, 0)])] (k := 1) (fn := Tryz.f149) rfl rfl rfl rfl rfl rfl ?_
  (repeat' ((try (conv => whnf)); first | (with_reducible first | refine And.intro ?_ ?_ | refine WX.of ?_) | exact zc | ((with_reducible refine VC.mk ?_); exact zw) | ((with_reducible refine VC.mk ?_); exact ⟨rfl, h1.1, h2.1⟩) | ((with_reducible refine VC.mk ?_); exact ⟨rfl, h1.2, h2.2⟩) | (with_reducible first | refine splitT ?_ | refine splitF ?_) | ((with_reducible refine splitM.mk (fun hsm => ?_) (fun hsm => ?_)) <;> (try exact zx)) | ((with_reducible refine splitB.mk (fun h => ?_) (fun h => ?_)) <;> (try simp only [zs, ne_eq] at h) <;> (try simp (disch := omega) only [w64] at h) <;> (try exact zx)) | (with_reducible intro hz; (try exact absurd hz (Nat.succ_ne_zero _)))))
  all_goals exact ⟨by simp [plV, spV, Bool.or_assoc]⟩
def s_wdI : Spec := fun args S => match args, S with
  | [.ptr b 0 0, .agg [.int .i64 p, .int .i64 q, .int .i64 p', .int .i64 q'], .agg [.int .i64 r, .int .i64 s]], [.arr .bool [bad] 0 true] => ⟨b = 0 ∧ smS ((p, q), p', q') ∧ smF r s, .agg [.int .i64 (wdV ((p, q), p', q') (r, s)).1.1, .int .i64 (wdV ((p, q), p', q') (r, s)).1.2, .int .i64 (wdV ((p, q), p', q') (r, s)).2.1, .int .i64 (wdV ((p, q), p', q') (r, s)).2.2], [.arr .bool [bad || (!(sbO (p, q) (r, s)).isSome || !(adO (p', q') (r, s)).isSome)] 0 true]⟩
  | _, _ => noSpec
theorem ok_wdI : SpecOk Tryz.prog 148 s_wdI := by
  intro args S h; unfold s_wdI at h ⊢; (split at h <;> first | exact False.elim h | skip)
  dsimp only at h ⊢
  rename_i b p q p' q' r s bad
  obtain ⟨rfl, h1, h2⟩ := h
  refine funW tabOk (E := [(47, s_subO), (44, s_addO)]) ⟨ok_subO, ok_addO, trivial⟩ [(1, [(7, 0), (8, 0)])] (k := 1) (fn := Tryz.f148) rfl rfl rfl rfl rfl rfl ?_
  (repeat' ((try (conv => whnf)); first | (with_reducible first | refine And.intro ?_ ?_ | refine WX.of ?_) | exact zc | ((with_reducible refine VC.mk ?_); exact zw) | ((with_reducible refine VC.mk ?_); exact ⟨rfl, h1.1, h2⟩) | ((with_reducible refine VC.mk ?_); exact ⟨rfl, h1.2, h2⟩) | (with_reducible first | refine splitT ?_ | refine splitF ?_) | ((with_reducible refine splitM.mk (fun hsm => ?_) (fun hsm => ?_)) <;> (try exact zx)) | ((with_reducible refine splitB.mk (fun h => ?_) (fun h => ?_)) <;> (try simp only [zs, ne_eq] at h) <;> (try simp (disch := omega) only [w64] at h) <;> (try exact zx)) | (with_reducible intro hz; (try exact absurd hz (Nat.succ_ne_zero _)))))
  all_goals exact ⟨by simp [wdV, spV, Bool.or_assoc]⟩
def s_spanC : Spec := fun args S => match args, S with
  | [.ptr b 0 0, .agg [.int .i64 p, .int .i64 q, .int .i64 p', .int .i64 q']], [.arr .bool [bad] 0 true] => ⟨b = 0, .tup [.agg [.int .i64 (if bad = true then 0 else p), .int .i64 (if bad = true then 0 else q), .int .i64 (if bad = true then 0 else p'), .int .i64 (if bad = true then 0 else q')], .int .i64 (if bad = true then 3 else 0)], [.arr .bool [bad] 0 true]⟩
  | _, _ => noSpec
theorem ok_spanC : SpecOk Tryz.prog 41 s_spanC := by
  intro args S h; unfold s_spanC at h ⊢; (split at h <;> first | exact False.elim h | skip)
  dsimp only at h ⊢
  rename_i b p q p' q' bad
  obtain rfl := h
  refine funW tabOk (E := []) trivial [] (k := 1) (fn := Tryz.f41) rfl rfl rfl rfl rfl rfl ?_
  (repeat' ((try (conv => whnf)); first | (with_reducible first | refine And.intro ?_ ?_ | refine WX.of ?_) | exact zc | ((with_reducible refine VC.mk ?_); exact zw) | (with_reducible first | refine splitT ?_ | refine splitF ?_) | ((with_reducible refine splitM.mk (fun hsm => ?_) (fun hsm => ?_)) <;> (try exact zx)) | ((with_reducible refine splitB.mk (fun h => ?_) (fun h => ?_)) <;> (try simp only [zs, ne_eq] at h) <;> (try simp (disch := omega) only [w64] at h) <;> (try exact zx)) | (with_reducible intro hz; (try exact absurd hz (Nat.succ_ne_zero _)))))
  all_goals (refine ⟨?_⟩; simp_all)
def s_none : Spec := fun args S => match args, S with
  | [], [] => ⟨True, .agg [.int .i64 0, .int .i64 1, .int .i64 0, .int .i64 1], []⟩
  | _, _ => noSpec
theorem ok_none : SpecOk Tryz.prog 63 s_none := by
  intro args S h; unfold s_none at h ⊢; (split at h <;> first | exact False.elim h | skip)
  dsimp only at h ⊢
  refine funW tabOk (E := [(46, s_zero)]) ⟨ok_zero, trivial⟩ [] (k := 0) (fn := Tryz.f63) rfl rfl rfl rfl rfl rfl ?_
  (repeat' ((try (conv => whnf)); first | (with_reducible first | refine And.intro ?_ ?_ | refine WX.of ?_) | exact zc | ((with_reducible refine VC.mk ?_); exact zw) | (with_reducible first | refine splitT ?_ | refine splitF ?_) | ((with_reducible refine splitM.mk (fun hsm => ?_) (fun hsm => ?_)) <;> (try exact zx)) | ((with_reducible refine splitB.mk (fun h => ?_) (fun h => ?_)) <;> (try simp only [zs, ne_eq] at h) <;> (try simp (disch := omega) only [w64] at h) <;> (try exact zx)) | (with_reducible intro hz; (try exact absurd hz (Nat.succ_ne_zero _)))))
theorem ok_l05Nothing : SpecOk Tryz.prog 119 s_none := by
  intro args S h; unfold s_none at h ⊢; (split at h <;> first | exact False.elim h | skip)
  dsimp only at h ⊢
  refine funW tabOk (E := [(56, s_num)]) ⟨ok_l01Whole, trivial⟩ [] (k := 0) (fn := Tryz.f119) rfl rfl rfl rfl rfl rfl ?_
  (repeat' ((try (conv => whnf)); first | (with_reducible first | refine And.intro ?_ ?_ | refine WX.of ?_) | exact zc | ((with_reducible refine VC.mk ?_); exact zw) | (with_reducible first | refine splitT ?_ | refine splitF ?_) | ((with_reducible refine splitM.mk (fun hsm => ?_) (fun hsm => ?_)) <;> (try exact zx)) | ((with_reducible refine splitB.mk (fun h => ?_) (fun h => ?_)) <;> (try simp only [zs, ne_eq] at h) <;> (try simp (disch := omega) only [w64] at h) <;> (try exact zx)) | (with_reducible intro hz; (try exact absurd hz (Nat.succ_ne_zero _)))))
theorem drop_at {α : Type} {W : List α} {k : Nat} {a : α} (h : W[k]? = some a) : W.drop k = a :: W.drop (k + 1) := by
  have hk := (List.getElem?_eq_some_iff.1 h)
  rw [List.drop_eq_getElem_cons hk.1, hk.2]
theorem dm_ok {a b : Int} (ha : 0 ≤ a ∧ a ≤ 100000) (hb : 0 ≤ b ∧ b ≤ 100000) : IntKind.i64.wrap (a - b) = a - b ∧ smF (a - b) 1 := ⟨w64 (by omega), smF_1 (by omega)⟩
theorem ir_n {i : Int} {c n : Nat} (h : 0 ≤ i ∧ i < c) (e : c = n) : 0 ≤ i ∧ i < n := by omega
theorem drop_nil {α : Type} {W : List α} {k : Nat} (h : W.length ≤ k) : W.drop k = [] := List.drop_eq_nil_of_le h
/-- The days from one standard to the next are few. -/
theorem dB {L : List StT} (hc : chB L = true) {day : Int} (hd : 0 ≤ day ∧ day ≤ 100000) {W : List Int} (hW : ∀ j ∈ W, 0 ≤ j ∧ j < L.length) (k : Nat) : 0 ≤ nxD L day (W.drop k) ∧ nxD L day (W.drop k) ≤ 100000 := by
  cases h : W.drop k with
  | nil => exact hd
  | cons i R =>
    have hm : i ∈ W := List.mem_of_mem_drop (by rw [h]; simp)
    obtain ⟨a, _, e, ho⟩ := ch_z hc (hW i hm)
    show 0 ≤ stMd (stAt L i) ∧ stMd (stAt L i) ≤ 100000
    rw [e]; exact ho.md
def s_alongI : Spec := fun args S => match args, S with
  | [.ptr b 0 0, .sl 1 s n x, .sl 2 t m y, .int .i64 day, .agg [.int .i64 p, .int .i64 q, .int .i64 p', .int .i64 q']], [.arr .bool [bad] 0 true, .arr (.prod .str (.prod (.int .i64) (.prod (.prod (.prod (.int .i64) (.int .i64)) (.prod (.int .i64) (.int .i64))) (.prod (.prod (.int .i64) (.int .i64)) (.prod (.int .i64) (.int .i64)))))) l 10 wr, .arr (.int .i64) w 1 ww] => ⟨b = 0 ∧ (s + n ≤ l.length ∧ chB (seg l s n) = true) ∧ (t + m ≤ w.length ∧ m ≤ 40 ∧ ∀ j ∈ seg w t m, 0 ≤ j ∧ j < (seg l s n).length) ∧ (0 ≤ day ∧ day ≤ 100000) ∧ smS ((p, q), p', q'), .agg [.int .i64 (alT (seg l s n) day (seg w t m) (((p, q), p', q'), bad)).1.1.1, .int .i64 (alT (seg l s n) day (seg w t m) (((p, q), p', q'), bad)).1.1.2, .int .i64 (alT (seg l s n) day (seg w t m) (((p, q), p', q'), bad)).1.2.1, .int .i64 (alT (seg l s n) day (seg w t m) (((p, q), p', q'), bad)).1.2.2], [.arr .bool [(alT (seg l s n) day (seg w t m) (((p, q), p', q'), bad)).2] 0 true, .arr (.prod .str (.prod (.int .i64) (.prod (.prod (.prod (.int .i64) (.int .i64)) (.prod (.int .i64) (.int .i64))) (.prod (.prod (.int .i64) (.int .i64)) (.prod (.int .i64) (.int .i64)))))) l 10 wr, .arr (.int .i64) w 1 ww]⟩
  | _, _ => noSpec
set_option maxHeartbeats 1600000 in
theorem ok_alongI : SpecOk Tryz.prog 108 s_alongI := by
  intro args S h; unfold s_alongI at h ⊢; (split at h <;> first | exact False.elim h | skip)
  dsimp only at h ⊢
  rename_i b s n x t m y day p q p' q' bad l wr w ww
  obtain ⟨rfl, ⟨h1, hc⟩, ⟨h3, h4, hW⟩, hd, hs⟩ := h
  have hL := seg_len h1
  have hM := seg_len h3
  have hl30 := ch_len hc
  refine funW tabOk (E := [(149, s_plOI), (49, s_num), (48, s_mulO), (148, s_wdI)]) ⟨ok_plOI, ok_num, ok_mulO, ok_wdI, trivial⟩ [(8, [(8, 0), (8, 2), (11, 0)])] (k := 3) (fn := Tryz.f108) rfl rfl rfl rfl rfl rfl ?_
  (repeat' ((try (conv => whnf)); first | (with_reducible first | refine And.intro ?_ ?_ | refine WX.of ?_) | exact zc | ((with_reducible refine VC.mk ?_); exact zw) | (with_reducible first | refine splitT ?_ | refine splitF ?_) | ((with_reducible refine splitM.mk (fun hsm => ?_) (fun hsm => ?_)) <;> (try exact zx)) | ((with_reducible refine splitB.mk (fun h => ?_) (fun h => ?_)) <;> (try simp only [zs, ne_eq] at h) <;> (try simp (disch := omega) only [w64] at h) <;> (try exact zx)) | (with_reducible intro hz; (try exact absurd hz (Nat.succ_ne_zero _)))))
  refine loopW tabOk (E := [(149, s_plOI), (49, s_num), (48, s_mulO), (148, s_wdI)]) ⟨ok_plOI, ok_num, ok_mulO, ok_wdI, trivial⟩ [(8, [(8, 0), (8, 2), (11, 0)])] (σ := Nat × SpT × Bool) (fun z => [(0, .ptr 0 0 0), (1, .sl 1 s n x), (2, .sl 2 t m y), (3, .int .i64 day), (9, .ptr 3 0 0), (10, .ptr 4 0 0), (15, .sl 2 t m y), (16, .int .i64 m), (17, .int .i64 z.1)]) (fun z => [.arr .bool [z.2.2] 0 true, .arr (.prod .str (.prod (.int .i64) (.prod (.prod (.prod (.int .i64) (.int .i64)) (.prod (.int .i64) (.int .i64))) (.prod (.prod (.int .i64) (.int .i64)) (.prod (.int .i64) (.int .i64)))))) l 10 wr, .arr (.int .i64) w 1 ww, .arr (.prod (.prod (.int .i64) (.int .i64)) (.prod (.int .i64) (.int .i64))) [z.2.1] 0 true, .arr (.prod (.prod (.int .i64) (.int .i64)) (.prod (.int .i64) (.int .i64))) [((0, 0), 0, 0)] 0 true]) (fun z => m - z.1) (fun z => z.1 ≤ m ∧ smS z.2.1 ∧ alT (seg l s n) day (seg w t m) (((p, q), p', q'), bad) = alT (seg l s n) day ((seg w t m).drop z.1) z.2) (0, ((p, q), p', q'), bad) ⟨Nat.zero_le _, hs, rfl⟩ ?_ ?_
  · (repeat' ((try (conv => whnf)); first | (with_reducible first | refine And.intro ?_ ?_ | refine WX.of ?_) | exact zc | ((with_reducible refine VC.mk ?_); exact zw) | (with_reducible first | refine splitT ?_ | refine splitF ?_) | ((with_reducible refine splitM.mk (fun hsm => ?_) (fun hsm => ?_)) <;> (try exact zx)) | ((with_reducible refine splitB.mk (fun h => ?_) (fun h => ?_)) <;> (try simp only [zs, ne_eq] at h) <;> (try simp (disch := omega) only [w64] at h) <;> (try exact zx)) | (with_reducible intro hz; (try exact absurd hz (Nat.succ_ne_zero _)))))
  · intro ⟨k, ⟨⟨cp, cq⟩, cp', cq'⟩, bd⟩ ⟨hk, hsm, he⟩
    dsimp only at hk hsm he ⊢
    by_cases hlt : k < m
    · obtain ⟨i, hi⟩ := get_some (l := seg w t m) (i := k) (by omega)
      have hir := hW i (List.mem_of_getElem? hi)
      obtain ⟨⟨nm, fr, ⟨⟨p, q⟩, p', q'⟩, ⟨dp, dq⟩, md, gd⟩, ha, hst, ho⟩ := ch_z hc hir
      have hdb := dB hc hd hW (k + 1)
      have hir' := ir_n hir hL
      have hvl := smS_ok ho.vl
      have hdr := smF_ok ho.dr
      have hmd := ho.md
      dsimp only at hvl hdr hmd
      rw [drop_at hi, alT, hst] at he
      by_cases hlast : k + 1 < m
      · obtain ⟨i2, hi2⟩ := get_some (l := seg w t m) (i := k + 1) (by omega)
        have hir2 := hW i2 (List.mem_of_getElem? hi2)
        obtain ⟨⟨nm0, fr0, ⟨⟨p0, q0⟩, p0', q0'⟩, ⟨dp0, dq0⟩, md0, gd0⟩, ha2, hst2, ho2⟩ := ch_z hc hir2
        have hir2' := ir_n hir2 hL
        have hnx : nxD (seg l s n) day ((seg w t m).drop (k + 1)) = md0 := by rw [drop_at hi2]; show stMd _ = md0; rw [hst2]; rfl
        rw [hnx] at he hdb
        (repeat' ((try dsimp only); (try (conv => whnf)); first | (with_reducible first | refine And.intro ?_ ?_ | refine WX.of ?_) | exact zc | ((with_reducible refine VC.mk ?_); exact zw) | with_reducible refine atL_i hi ?_ | with_reducible refine atL_p (seg_get ha).1 ?_ | with_reducible refine atL_p (seg_get ha2).1 ?_ | with_reducible refine atL_e (j := t + (k + 1)) (by simp (disch := omega) only [w64]; omega) (seg_get hi2).1 ?_ | ((with_reducible refine VC.mk ?_); exact hir') | ((with_reducible refine VC.mk ?_); exact hir2') | ((with_reducible refine VC.mk ?_); exact ⟨rfl, hsm, hvl⟩) | ((with_reducible refine VC.mk ?_); exact ⟨rfl, hdr, by (try dsimp only); rw [(dm_ok hdb hmd).1]; exact (dm_ok hdb hmd).2⟩) | ((with_reducible refine VC.mk ?_); exact ⟨rfl, smS_pl _ _, smF_mu _ _⟩) | (with_reducible first | refine splitT ?_ | refine splitF ?_) | ((with_reducible refine splitM.mk (fun hsm => ?_) (fun hsm => ?_)) <;> (try exact zx)) | ((with_reducible refine splitB.mk (fun h => ?_) (fun h => ?_)) <;> (try simp only [zs, ne_eq] at h) <;> (try simp (disch := omega) only [w64] at h) <;> (try exact zx)) | (with_reducible intro hz; (try exact absurd hz (Nat.succ_ne_zero _)))))
        refine ⟨(k + 1, alV1 ((cp, cq), cp', cq') (nm, fr, ((p, q), p', q'), (dp, dq), md, gd) md0, bd || alB1 ((cp, cq), cp', cq') (nm, fr, ((p, q), p', q'), (dp, dq), md, gd) md0), by dsimp only; omega, ⟨hlt, smS_al1 _ _ _, he⟩, ?_⟩
        (repeat' ((try (conv => whnf)); first | (with_reducible first | refine And.intro ?_ ?_ | refine WX.of ?_) | exact zc | ((with_reducible refine VC.mk ?_); exact zw) | (with_reducible first | refine splitT ?_ | refine splitF ?_) | ((with_reducible refine splitM.mk (fun hsm => ?_) (fun hsm => ?_)) <;> (try exact zx)) | ((with_reducible refine splitB.mk (fun h => ?_) (fun h => ?_)) <;> (try simp only [zs, ne_eq] at h) <;> (try simp (disch := omega) only [w64] at h) <;> (try exact zx)) | (with_reducible intro hz; (try exact absurd hz (Nat.succ_ne_zero _)))))
        all_goals (refine ⟨?_⟩; rw [(dm_ok hdb hmd).1]; simp [alV1, alB1, drV, Bool.or_assoc])
      · have hnx : nxD (seg l s n) day ((seg w t m).drop (k + 1)) = day := by rw [drop_nil (by omega)]; rfl
        rw [hnx] at he hdb
        (repeat' ((try dsimp only); (try (conv => whnf)); first | (with_reducible first | refine And.intro ?_ ?_ | refine WX.of ?_) | exact zc | ((with_reducible refine VC.mk ?_); exact zw) | with_reducible refine atL_i hi ?_ | with_reducible refine atL_p (seg_get ha).1 ?_ | ((with_reducible refine VC.mk ?_); exact hir') | ((with_reducible refine VC.mk ?_); exact ⟨rfl, hsm, hvl⟩) | ((with_reducible refine VC.mk ?_); exact ⟨rfl, hdr, by (try dsimp only); rw [(dm_ok hdb hmd).1]; exact (dm_ok hdb hmd).2⟩) | ((with_reducible refine VC.mk ?_); exact ⟨rfl, smS_pl _ _, smF_mu _ _⟩) | (with_reducible first | refine splitT ?_ | refine splitF ?_) | ((with_reducible refine splitM.mk (fun hsm => ?_) (fun hsm => ?_)) <;> (try exact zx)) | ((with_reducible refine splitB.mk (fun h => ?_) (fun h => ?_)) <;> (try simp only [zs, ne_eq] at h) <;> (try simp (disch := omega) only [w64] at h) <;> (try exact zx)) | (with_reducible intro hz; (try exact absurd hz (Nat.succ_ne_zero _)))))
        refine ⟨(k + 1, alV1 ((cp, cq), cp', cq') (nm, fr, ((p, q), p', q'), (dp, dq), md, gd) day, bd || alB1 ((cp, cq), cp', cq') (nm, fr, ((p, q), p', q'), (dp, dq), md, gd) day), by dsimp only; omega, ⟨hlt, smS_al1 _ _ _, he⟩, ?_⟩
        (repeat' ((try (conv => whnf)); first | (with_reducible first | refine And.intro ?_ ?_ | refine WX.of ?_) | exact zc | ((with_reducible refine VC.mk ?_); exact zw) | (with_reducible first | refine splitT ?_ | refine splitF ?_) | ((with_reducible refine splitM.mk (fun hsm => ?_) (fun hsm => ?_)) <;> (try exact zx)) | ((with_reducible refine splitB.mk (fun h => ?_) (fun h => ?_)) <;> (try simp only [zs, ne_eq] at h) <;> (try simp (disch := omega) only [w64] at h) <;> (try exact zx)) | (with_reducible intro hz; (try exact absurd hz (Nat.succ_ne_zero _)))))
        all_goals (refine ⟨?_⟩; rw [(dm_ok hdb hmd).1]; simp [alV1, alB1, drV, Bool.or_assoc])
    · obtain rfl : k = m := by omega
      rw [drop_nil (by omega), alT] at he
      rw [he]
      (repeat' ((try (conv => whnf)); first | (with_reducible first | refine And.intro ?_ ?_ | refine WX.of ?_) | exact zc | ((with_reducible refine VC.mk ?_); exact zw) | (with_reducible first | refine splitT ?_ | refine splitF ?_) | ((with_reducible refine splitM.mk (fun hsm => ?_) (fun hsm => ?_)) <;> (try exact zx)) | ((with_reducible refine splitB.mk (fun h => ?_) (fun h => ?_)) <;> (try simp only [zs, ne_eq] at h) <;> (try simp (disch := omega) only [w64] at h) <;> (try exact zx)) | (with_reducible intro hz; (try exact absurd hz (Nat.succ_ne_zero _)))))
end Go.Proofs.YtonnkpclllmkoaaGreat.Eng
set_option linter.unusedVariables false
set_option linter.unusedSimpArgs false
namespace Go.Proofs.YtonnkpclllmkoaaGreat.Eng
open Go Go.RowKit
set_option maxRecDepth 100000
def s_bothC : Spec := fun args S => match args, S with
  | [.agg [.int .i64 p, .int .i64 q], .int .i64 one, .agg [.int .i64 p', .int .i64 q'], .int .i64 two], [] => ⟨True, .tup [.agg [.int .i64 (if one = 0 ∧ two = 0 then p else 0), .int .i64 (if one = 0 ∧ two = 0 then q else 0), .int .i64 (if one = 0 ∧ two = 0 then p' else 0), .int .i64 (if one = 0 ∧ two = 0 then q' else 0)], .int .i64 (if one = 0 then two else one)], []⟩
  | _, _ => noSpec
theorem ok_l01BothC : SpecOk Tryz.prog 160 s_bothC := by
  intro args S h; unfold s_bothC at h ⊢; (split at h <;> first | exact False.elim h | skip)
  dsimp only at h ⊢
  rename_i p q one p' q' two
  refine funW tabOk (E := []) trivial [] (k := 0) (fn := Tryz.f160) rfl rfl rfl rfl rfl rfl ?_
  (repeat' ((try (conv => whnf)); first | (with_reducible first | refine And.intro ?_ ?_ | refine WX.of ?_) | exact zc | ((with_reducible refine VC.mk ?_); exact zw) | (with_reducible first | refine splitT ?_ | refine splitF ?_) | ((with_reducible refine splitM.mk (fun hsm => ?_) (fun hsm => ?_)) <;> (try exact zx)) | ((with_reducible refine splitB.mk (fun h => ?_) (fun h => ?_)) <;> (try simp only [zs, ne_eq] at h) <;> (try simp (disch := omega) only [w64] at h) <;> (try exact zx)) | (with_reducible intro hz; (try exact absurd hz (Nat.succ_ne_zero _)))))
  all_goals (refine ⟨?_⟩; simp_all)
def s_sums : Spec := fun args S => match args, S with
  | [.agg [.int .i64 p, .int .i64 q, .int .i64 p', .int .i64 q'], .agg [.int .i64 r, .int .i64 s, .int .i64 r', .int .i64 s']], [] => ⟨smS ((p, q), p', q') ∧ smS ((r, s), r', s'), .tup [.agg [.int .i64 (zsS (plO ((p, q), p', q') ((r, s), r', s'))).1.1, .int .i64 (zsS (plO ((p, q), p', q') ((r, s), r', s'))).1.2, .int .i64 (zsS (plO ((p, q), p', q') ((r, s), r', s'))).2.1, .int .i64 (zsS (plO ((p, q), p', q') ((r, s), r', s'))).2.2], .int .i64 (oCS (plO ((p, q), p', q') ((r, s), r', s')))], []⟩
  | _, _ => noSpec
theorem ok_l01Sums : SpecOk Tryz.prog 131 s_sums := by
  intro args S h; unfold s_sums at h ⊢; (split at h <;> first | exact False.elim h | skip)
  dsimp only at h ⊢
  rename_i p q p' q' r s r' s'
  obtain ⟨h1, h2⟩ := h
  refine funW tabOk (E := [(57, s_addZ), (160, s_bothC)]) ⟨ok_l01AddZ, ok_l01BothC, trivial⟩ [] (k := 0) (fn := Tryz.f131) rfl rfl rfl rfl rfl rfl ?_
  (repeat' ((try (conv => whnf)); first | (with_reducible first | refine And.intro ?_ ?_ | refine WX.of ?_) | exact zc | ((with_reducible refine VC.mk ?_); exact zw) | ((with_reducible refine VC.mk ?_); exact ⟨h1.1, h2.1⟩) | ((with_reducible refine VC.mk ?_); exact ⟨h1.2, h2.2⟩) | ((with_reducible refine VC.mk ?_); exact trivial) | (with_reducible first | refine splitT ?_ | refine splitF ?_) | ((with_reducible refine splitM.mk (fun hsm => ?_) (fun hsm => ?_)) <;> (try exact zx)) | ((with_reducible refine splitB.mk (fun h => ?_) (fun h => ?_)) <;> (try simp only [zs, ne_eq] at h) <;> (try simp (disch := omega) only [w64] at h) <;> (try exact zx)) | (with_reducible intro hz; (try exact absurd hz (Nat.succ_ne_zero _)))))
  all_goals (refine ⟨?_⟩; dsimp only [plO, spO]; cases ha : adO (p, q) (r, s) <;> cases hb : adO (p', q') (r', s') <;> simp [oC, oCS, zv, zsS])
def s_agst : Spec := fun args S => match args, S with
  | [.agg [.int .i64 p, .int .i64 q, .int .i64 p', .int .i64 q'], .agg [.int .i64 r, .int .i64 s, .int .i64 r', .int .i64 s']], [] => ⟨smS ((p, q), p', q') ∧ smS ((r, s), r', s'), .tup [.agg [.int .i64 (zsS (miO ((p, q), p', q') ((r, s), r', s'))).1.1, .int .i64 (zsS (miO ((p, q), p', q') ((r, s), r', s'))).1.2, .int .i64 (zsS (miO ((p, q), p', q') ((r, s), r', s'))).2.1, .int .i64 (zsS (miO ((p, q), p', q') ((r, s), r', s'))).2.2], .int .i64 (oCS (miO ((p, q), p', q') ((r, s), r', s')))], []⟩
  | _, _ => noSpec
theorem ad_neg (a b : FrT) : adO a (-b.1, b.2) = sbO a b := by unfold adO sbO; dsimp only; rw [Int.neg_mul, Int.sub_eq_add_neg]
theorem mi_pl (s t : SpT) : plO s ((-t.2.1, t.2.2), -t.1.1, t.1.2) = miO s t := by unfold plO miO; rw [ad_neg s.1 t.2, ad_neg s.2 t.1]
theorem ok_l01Against : SpecOk Tryz.prog 74 s_agst := by
  intro args S h; unfold s_agst at h ⊢; (split at h <;> first | exact False.elim h | skip)
  dsimp only at h ⊢
  rename_i p q p' q' r s r' s'
  obtain ⟨h1, h2⟩ := h
  have e := mi_pl ((p, q), p', q') ((r, s), r', s')
  dsimp only at e
  refine funW tabOk (E := [(95, s_neg), (131, s_sums)]) ⟨ok_l01Neg, ok_l01Sums, trivial⟩ [(1, [(0, 1), (0, 2), (5, 0)])] (k := 0) (fn := Tryz.f74) rfl rfl rfl rfl rfl rfl ?_
  (repeat' ((try dsimp only); (try (conv => whnf)); first | (with_reducible first | refine And.intro ?_ ?_ | refine WX.of ?_) | exact zc | ((with_reducible refine VC.mk ?_); exact zw) | ((with_reducible refine VC.mk ?_); exact h2.1) | ((with_reducible refine VC.mk ?_); exact h2.2) | ((with_reducible refine VC.mk ?_); exact ⟨h1, smF_neg h2.2, smF_neg h2.1⟩) | (with_reducible first | refine splitT ?_ | refine splitF ?_) | ((with_reducible refine splitM.mk (fun hsm => ?_) (fun hsm => ?_)) <;> (try exact zx)) | ((with_reducible refine splitB.mk (fun h => ?_) (fun h => ?_)) <;> (try simp only [zs, ne_eq] at h) <;> (try simp (disch := omega) only [w64] at h) <;> (try exact zx)) | (with_reducible intro hz; (try exact absurd hz (Nat.succ_ne_zero _)))))
  all_goals exact ⟨by rw [← e]⟩
def s_wider : Spec := fun args S => match args, S with
  | [.agg [.int .i64 p, .int .i64 q, .int .i64 p', .int .i64 q'], .agg [.int .i64 r, .int .i64 s], .int .i64 n], [] => ⟨smS ((p, q), p', q') ∧ smF r s ∧ -1000000000 ≤ n ∧ n ≤ 1000000000, .tup [.agg [.int .i64 (zsS (drO ((p, q), p', q') (r, s) n)).1.1, .int .i64 (zsS (drO ((p, q), p', q') (r, s) n)).1.2, .int .i64 (zsS (drO ((p, q), p', q') (r, s) n)).2.1, .int .i64 (zsS (drO ((p, q), p', q') (r, s) n)).2.2], .int .i64 (oCS (drO ((p, q), p', q') (r, s) n))], []⟩
  | _, _ => noSpec
theorem dr_1 {s : SpT} {d : FrT} {n : Int} (h : ¬ oC (muO d (n, 1)) = 0) : drO s d n = none ∧ oC (muO d (n, 1)) = 3 := by
  have := oC_n h
  unfold drO; rw [this]; exact ⟨rfl, rfl⟩
theorem dr_2 {s : SpT} {d : FrT} {n : Int} (h : oC (muO d (n, 1)) = 0) : drO s d n = spO (sbO s.1 (zv (muO d (n, 1)))) (adO s.2 (zv (muO d (n, 1)))) ∧ smF (zv (muO d (n, 1))).1 (zv (muO d (n, 1))).2 := by
  obtain ⟨v, e⟩ := oC_s h
  unfold drO; rw [e]; exact ⟨rfl, smF_ok (rO_f e)⟩
theorem sp_n1 {a b : Option FrT} (h : ¬ oC a = 0) : spO a b = none := by rw [oC_n h]; rfl
theorem sp_n2 {a b : Option FrT} (h : ¬ oC b = 0) : spO a b = none := by rw [oC_n h]; cases a <;> rfl
theorem sp_s {a b : Option FrT} (h : oC a = 0) (h2 : oC b = 0) : spO a b = some (zv a, zv b) := by
  obtain ⟨v, rfl⟩ := oC_s h
  obtain ⟨w, rfl⟩ := oC_s h2
  rfl
theorem ok_l05Wider : SpecOk Tryz.prog 155 s_wider := by
  intro args S h; unfold s_wider at h ⊢; (split at h <;> first | exact False.elim h | skip)
  dsimp only at h ⊢
  rename_i p q p' q' r s n
  obtain ⟨h1, h2, h3⟩ := h
  have hn := smF_1 h3
  by_cases hm : oC (muO (r, s) (n, 1)) = 0
  · have hd := dr_2 (s := ((p, q), p', q')) hm
    rw [hd.1]
    refine funW tabOk (E := [(56, s_num), (55, s_mulZ), (54, s_subZ), (57, s_addZ)]) ⟨ok_l01Whole, ok_l01MulZ, ok_l01SubZ, ok_l01AddZ, trivial⟩ [(1, [(0, 1), (7, 0), (7, 1)])] (k := 0) (fn := Tryz.f155) rfl rfl rfl rfl rfl rfl ?_
    (repeat' ((try dsimp only); (try (conv => whnf)); first | (with_reducible first | refine And.intro ?_ ?_ | refine WX.of ?_) | exact zc | ((with_reducible refine VC.mk ?_); exact zw) | ((with_reducible refine VC.mk ?_); exact ⟨h2, hn⟩) | ((with_reducible refine VC.mk ?_); exact ⟨h1.1, hd.2⟩) | ((with_reducible refine VC.mk ?_); exact ⟨h1.2, hd.2⟩) | ((with_reducible refine splitT_of ?_ ?_); (focus (simp only [hm, Bool.not_true, Bool.not_false, decide_true, decide_false]; done))) | ((with_reducible refine splitF_of ?_ ?_); (focus (simp only [hm, Bool.not_true, Bool.not_false, decide_true, decide_false]; done))) | (with_reducible first | refine splitT ?_ | refine splitF ?_) | ((with_reducible refine splitM.mk (fun hsm => ?_) (fun hsm => ?_)) <;> (try exact zx)) | ((with_reducible refine splitB.mk (fun h => ?_) (fun h => ?_)) <;> (try simp only [zs, ne_eq] at h) <;> (try simp (disch := omega) only [w64] at h) <;> (try exact zx)) | (with_reducible intro hz; (try exact absurd hz (Nat.succ_ne_zero _)))))
    · exact ⟨by rw [show spO (sbO (p, q) (zv (muO (r, s) (n, 1)))) (adO (p', q') (zv (muO (r, s) (n, 1)))) = none from sp_n1 h]; rfl⟩
    · exact ⟨by rw [show spO (sbO (p, q) (zv (muO (r, s) (n, 1)))) (adO (p', q') (zv (muO (r, s) (n, 1)))) = none from sp_n2 h]; rfl⟩
    · rename_i h0
      exact ⟨by rw [show spO (sbO (p, q) (zv (muO (r, s) (n, 1)))) (adO (p', q') (zv (muO (r, s) (n, 1)))) = _ from sp_s h0 h]; rfl⟩
  · have hd := dr_1 (s := ((p, q), p', q')) hm
    rw [hd.1]
    refine funW tabOk (E := [(56, s_num), (55, s_mulZ), (54, s_subZ), (57, s_addZ)]) ⟨ok_l01Whole, ok_l01MulZ, ok_l01SubZ, ok_l01AddZ, trivial⟩ [(1, [(0, 1), (7, 0), (7, 1)])] (k := 0) (fn := Tryz.f155) rfl rfl rfl rfl rfl rfl ?_
    (repeat' ((try dsimp only); (try (conv => whnf)); first | (with_reducible first | refine And.intro ?_ ?_ | refine WX.of ?_) | exact zc | ((with_reducible refine VC.mk ?_); exact zw) | ((with_reducible refine VC.mk ?_); exact ⟨h2, hn⟩) | ((with_reducible refine splitT_of ?_ ?_); (focus (simp only [hm, Bool.not_true, Bool.not_false, decide_true, decide_false]; done))) | ((with_reducible refine splitF_of ?_ ?_); (focus (simp only [hm, Bool.not_true, Bool.not_false, decide_true, decide_false]; done))) | (with_reducible first | refine splitT ?_ | refine splitF ?_) | ((with_reducible refine splitM.mk (fun hsm => ?_) (fun hsm => ?_)) <;> (try exact zx)) | ((with_reducible refine splitB.mk (fun h => ?_) (fun h => ?_)) <;> (try simp only [zs, ne_eq] at h) <;> (try simp (disch := omega) only [w64] at h) <;> (try exact zx)) | (with_reducible intro hz; (try exact absurd hz (Nat.succ_ne_zero _)))))
    · exact ⟨by rw [hd.2]; rfl⟩
def s_alongS : Spec := fun args S => match args, S with
  | [.sl 0 s n x, .sl 1 t m y, .agg [.int .i64 p, .int .i64 q, .int .i64 p', .int .i64 q'], .int .i64 day], [.arr (.prod .str (.prod (.int .i64) (.prod (.prod (.prod (.int .i64) (.int .i64)) (.prod (.int .i64) (.int .i64))) (.prod (.prod (.int .i64) (.int .i64)) (.prod (.int .i64) (.int .i64)))))) l 10 wr, .arr (.int .i64) w 1 ww] => ⟨(s + n ≤ l.length ∧ chB (seg l s n) = true) ∧ (t + m ≤ w.length ∧ m ≤ 40 ∧ ∀ j ∈ seg w t m, 0 ≤ j ∧ j < (seg l s n).length) ∧ (0 ≤ day ∧ day ≤ 100000) ∧ smS ((p, q), p', q'), .tup [.agg [.int .i64 (zsS (alO (seg l s n) day (seg w t m) ((p, q), p', q'))).1.1, .int .i64 (zsS (alO (seg l s n) day (seg w t m) ((p, q), p', q'))).1.2, .int .i64 (zsS (alO (seg l s n) day (seg w t m) ((p, q), p', q'))).2.1, .int .i64 (zsS (alO (seg l s n) day (seg w t m) ((p, q), p', q'))).2.2], .int .i64 (oCS (alO (seg l s n) day (seg w t m) ((p, q), p', q')))], [.arr (.prod .str (.prod (.int .i64) (.prod (.prod (.prod (.int .i64) (.int .i64)) (.prod (.int .i64) (.int .i64))) (.prod (.prod (.int .i64) (.int .i64)) (.prod (.int .i64) (.int .i64)))))) l 10 wr, .arr (.int .i64) w 1 ww]⟩
  | _, _ => noSpec
theorem dm_ok2 {a b : Int} (ha : 0 ≤ a ∧ a ≤ 100000) (hb : 0 ≤ b ∧ b ≤ 100000) : IntKind.i64.wrap (a - b) = a - b ∧ -1000000000 ≤ a - b ∧ a - b ≤ 1000000000 := ⟨w64 (by omega), by omega, by omega⟩
theorem al1_1 {s : SpT} {x : StT} {e : Int} (h : ¬ oCS (plO s x.2.2.1) = 0) : alO1 s x e = none ∧ oCS (plO s x.2.2.1) = 3 := by
  have := oCS_n h
  unfold alO1; rw [this]; exact ⟨rfl, rfl⟩
theorem al1_2 {s : SpT} {x : StT} {e : Int} (h : oCS (plO s x.2.2.1) = 0) : alO1 s x e = drO (zsS (plO s x.2.2.1)) x.2.2.2.1 (e - x.2.2.2.2.1) ∧ smS (zsS (plO s x.2.2.1)) := by
  obtain ⟨v, e⟩ := oCS_s h
  unfold alO1; rw [e]; exact ⟨rfl, smS_plO e⟩
theorem smS_drO {s v : SpT} {d : FrT} {n : Int} (h : drO s d n = some v) : smS v := by
  unfold drO at h
  obtain ⟨m, _, h⟩ := Option.bind_eq_some_iff.1 h
  exact smS_wdO h
set_option maxHeartbeats 1600000 in
theorem ok_l05Along : SpecOk Tryz.prog 118 s_alongS := by
  intro args S h; unfold s_alongS at h ⊢; (split at h <;> first | exact False.elim h | skip)
  dsimp only at h ⊢
  rename_i s n x t m y p q p' q' day l wr w ww
  obtain ⟨⟨h1, hc⟩, ⟨h3, h4, hW⟩, hd, hs⟩ := h
  have hL := seg_len h1
  have hM := seg_len h3
  have hl30 := ch_len hc
  refine funW tabOk (E := [(131, s_sums), (155, s_wider)]) ⟨ok_l01Sums, ok_l05Wider, trivial⟩ [(5, [(9, 0)]), (11, [(15, 0)])] (k := 2) (fn := Tryz.f118) rfl rfl rfl rfl rfl rfl ?_
  (repeat' ((try (conv => whnf)); first | (with_reducible first | refine And.intro ?_ ?_ | refine WX.of ?_) | exact zc | ((with_reducible refine VC.mk ?_); exact zw) | (with_reducible first | refine splitT ?_ | refine splitF ?_) | ((with_reducible refine splitM.mk (fun hsm => ?_) (fun hsm => ?_)) <;> (try exact zx)) | ((with_reducible refine splitB.mk (fun h => ?_) (fun h => ?_)) <;> (try simp only [zs, ne_eq] at h) <;> (try simp (disch := omega) only [w64] at h) <;> (try exact zx)) | (with_reducible intro hz; (try exact absurd hz (Nat.succ_ne_zero _)))))
  refine loopW tabOk (E := [(131, s_sums), (155, s_wider)]) ⟨ok_l01Sums, ok_l05Wider, trivial⟩ [(5, [(9, 0)]), (11, [(15, 0)])] (σ := Nat × SpT) (fun z => [(0, .sl 0 s n x), (1, .sl 1 t m y), (3, .int .i64 day), (6, .ptr 2 0 0), (8, .ptr 3 0 0), (9, .int .i64 0), (10, .int .i64 z.1)]) (fun z => [.arr (.prod .str (.prod (.int .i64) (.prod (.prod (.prod (.int .i64) (.int .i64)) (.prod (.int .i64) (.int .i64))) (.prod (.prod (.int .i64) (.int .i64)) (.prod (.int .i64) (.int .i64)))))) l 10 wr, .arr (.int .i64) w 1 ww, .arr (.prod (.prod (.int .i64) (.int .i64)) (.prod (.int .i64) (.int .i64))) [z.2] 0 true, .arr (.prod (.prod (.int .i64) (.int .i64)) (.prod (.int .i64) (.int .i64))) [((0, 0), 0, 0)] 0 true]) (fun z => m - z.1) (fun z => z.1 ≤ m ∧ smS z.2 ∧ alO (seg l s n) day (seg w t m) ((p, q), p', q') = alO (seg l s n) day ((seg w t m).drop z.1) z.2) (0, ((p, q), p', q')) ⟨Nat.zero_le _, hs, rfl⟩ ?_ ?_
  · (repeat' ((try (conv => whnf)); first | (with_reducible first | refine And.intro ?_ ?_ | refine WX.of ?_) | exact zc | ((with_reducible refine VC.mk ?_); exact zw) | (with_reducible first | refine splitT ?_ | refine splitF ?_) | ((with_reducible refine splitM.mk (fun hsm => ?_) (fun hsm => ?_)) <;> (try exact zx)) | ((with_reducible refine splitB.mk (fun h => ?_) (fun h => ?_)) <;> (try simp only [zs, ne_eq] at h) <;> (try simp (disch := omega) only [w64] at h) <;> (try exact zx)) | (with_reducible intro hz; (try exact absurd hz (Nat.succ_ne_zero _)))))
  · intro ⟨k, ⟨⟨cp, cq⟩, cp', cq'⟩⟩ ⟨hk, hsm, he⟩
    dsimp only at hk hsm he ⊢
    by_cases hlt : k < m
    · obtain ⟨i, hi⟩ := get_some (l := seg w t m) (i := k) (by omega)
      have hir := hW i (List.mem_of_getElem? hi)
      obtain ⟨⟨nm, fr, ⟨⟨p, q⟩, p', q'⟩, ⟨dp, dq⟩, md, gd⟩, ha, hst, ho⟩ := ch_z hc hir
      have hdb := dB hc hd hW (k + 1)
      have hir' := ir_n hir hL
      have hvl := smS_ok ho.vl
      have hdr := smF_ok ho.dr
      have hmd := ho.md
      dsimp only at hvl hdr hmd
      rw [drop_at hi, alO, hst] at he
      by_cases hpl : oCS (plO ((cp, cq), cp', cq') ((p, q), p', q')) = 0
      rotate_left 1
      · have h11 := al1_1 (x := (nm, fr, ((p, q), p', q'), (dp, dq), md, gd)) (e := nxD (seg l s n) day ((seg w t m).drop (k + 1))) hpl
        dsimp only at h11
        rw [h11.1, Option.bind_none] at he
        rw [he]
        (repeat' ((try dsimp only); (try (conv => whnf)); first | (with_reducible first | refine And.intro ?_ ?_ | refine WX.of ?_) | exact zc | ((with_reducible refine VC.mk ?_); exact zw) | with_reducible refine atL_i hi ?_ | with_reducible refine atL_p (seg_get ha).1 ?_ | ((with_reducible refine VC.mk ?_); exact hir') | ((with_reducible refine VC.mk ?_); exact ⟨hsm, hvl⟩) | ((with_reducible refine splitT_of ?_ ?_); (focus (simp only [hpl, Bool.not_true, Bool.not_false, decide_true, decide_false]; done))) | ((with_reducible refine splitF_of ?_ ?_); (focus (simp only [hpl, Bool.not_true, Bool.not_false, decide_true, decide_false]; done))) | (with_reducible first | refine splitT ?_ | refine splitF ?_) | ((with_reducible refine splitM.mk (fun hsm => ?_) (fun hsm => ?_)) <;> (try exact zx)) | ((with_reducible refine splitB.mk (fun h => ?_) (fun h => ?_)) <;> (try simp only [zs, ne_eq] at h) <;> (try simp (disch := omega) only [w64] at h) <;> (try exact zx)) | (with_reducible intro hz; (try exact absurd hz (Nat.succ_ne_zero _)))))
        all_goals exact ⟨by rw [h11.2]; rfl⟩
      have h12 := al1_2 (x := (nm, fr, ((p, q), p', q'), (dp, dq), md, gd)) (e := nxD (seg l s n) day ((seg w t m).drop (k + 1))) hpl
      dsimp only at h12
      rw [h12.1] at he
      by_cases hlast : k + 1 < m
      · obtain ⟨i2, hi2⟩ := get_some (l := seg w t m) (i := k + 1) (by omega)
        have hir2 := hW i2 (List.mem_of_getElem? hi2)
        obtain ⟨⟨nm0, fr0, ⟨⟨p0, q0⟩, p0', q0'⟩, ⟨dp0, dq0⟩, md0, gd0⟩, ha2, hst2, ho2⟩ := ch_z hc hir2
        have hir2' := ir_n hir2 hL
        have hnx : nxD (seg l s n) day ((seg w t m).drop (k + 1)) = md0 := by rw [drop_at hi2]; show stMd _ = md0; rw [hst2]; rfl
        rw [hnx] at he hdb
        (repeat' ((try dsimp only); (try (conv => whnf)); first | (with_reducible first | refine And.intro ?_ ?_ | refine WX.of ?_) | exact zc | ((with_reducible refine VC.mk ?_); exact zw) | with_reducible refine atL_i hi ?_ | with_reducible refine atL_p (seg_get ha).1 ?_ | with_reducible refine atL_p (seg_get ha2).1 ?_ | with_reducible refine atL_e (j := t + (k + 1)) (by simp (disch := omega) only [w64]; omega) (seg_get hi2).1 ?_ | ((with_reducible refine VC.mk ?_); exact hir') | ((with_reducible refine VC.mk ?_); exact hir2') | ((with_reducible refine VC.mk ?_); exact ⟨hsm, hvl⟩) | ((with_reducible refine VC.mk ?_); exact ⟨h12.2, hdr, by rw [(dm_ok2 hdb hmd).1]; exact (dm_ok2 hdb hmd).2⟩) | ((with_reducible refine splitT_of ?_ ?_); (focus (simp only [hpl, Bool.not_true, Bool.not_false, decide_true, decide_false]; done))) | ((with_reducible refine splitF_of ?_ ?_); (focus (simp only [hpl, Bool.not_true, Bool.not_false, decide_true, decide_false]; done))) | (with_reducible first | refine splitT ?_ | refine splitF ?_) | ((with_reducible refine splitM.mk (fun hsm => ?_) (fun hsm => ?_)) <;> (try exact zx)) | ((with_reducible refine splitB.mk (fun h => ?_) (fun h => ?_)) <;> (try simp only [zs, ne_eq] at h) <;> (try simp (disch := omega) only [w64] at h) <;> (try exact zx)) | (with_reducible intro hz; (try exact absurd hz (Nat.succ_ne_zero _)))))
        · have hn := oCS_n (o := drO (zsS (plO ((cp, cq), cp', cq') ((p, q), p', q'))) (dp, dq) (md0 - md)) h
          have hn2 : oCS (drO (((zsS (plO ((cp, cq), cp', cq') ((p, q), p', q'))).1.1, (zsS (plO ((cp, cq), cp', cq') ((p, q), p', q'))).1.2), (zsS (plO ((cp, cq), cp', cq') ((p, q), p', q'))).2.1, (zsS (plO ((cp, cq), cp', cq') ((p, q), p', q'))).2.2) (dp, dq) (md0 - md)) = 3 := by show oCS (drO (zsS (plO ((cp, cq), cp', cq') ((p, q), p', q'))) (dp, dq) (md0 - md)) = 3; rw [hn]; rfl
          rw [hn, Option.bind_none] at he
          exact ⟨by rw [he, (dm_ok2 hdb hmd).1, hn2]; rfl⟩
        · obtain ⟨v, hv⟩ := oCS_s (o := drO (zsS (plO ((cp, cq), cp', cq') ((p, q), p', q'))) (dp, dq) (md0 - md)) h
          have hv2 : drO (((zsS (plO ((cp, cq), cp', cq') ((p, q), p', q'))).1.1, (zsS (plO ((cp, cq), cp', cq') ((p, q), p', q'))).1.2), (zsS (plO ((cp, cq), cp', cq') ((p, q), p', q'))).2.1, (zsS (plO ((cp, cq), cp', cq') ((p, q), p', q'))).2.2) (dp, dq) (md0 - md) = some v := hv
          rw [hv, Option.bind_some] at he
          refine ⟨(k + 1, v), by dsimp only; omega, ⟨hlt, smS_drO hv, he⟩, ?_⟩
          (repeat' ((try (conv => whnf)); first | (with_reducible first | refine And.intro ?_ ?_ | refine WX.of ?_) | exact zc | ((with_reducible refine VC.mk ?_); exact zw) | (with_reducible first | refine splitT ?_ | refine splitF ?_) | ((with_reducible refine splitM.mk (fun hsm => ?_) (fun hsm => ?_)) <;> (try exact zx)) | ((with_reducible refine splitB.mk (fun h => ?_) (fun h => ?_)) <;> (try simp only [zs, ne_eq] at h) <;> (try simp (disch := omega) only [w64] at h) <;> (try exact zx)) | (with_reducible intro hz; (try exact absurd hz (Nat.succ_ne_zero _)))))
          all_goals exact ⟨by simp only [(dm_ok2 hdb hmd).1, hv2]; rfl⟩
      · have hnx : nxD (seg l s n) day ((seg w t m).drop (k + 1)) = day := by rw [drop_nil (by omega)]; rfl
        rw [hnx] at he hdb
        (repeat' ((try dsimp only); (try (conv => whnf)); first | (with_reducible first | refine And.intro ?_ ?_ | refine WX.of ?_) | exact zc | ((with_reducible refine VC.mk ?_); exact zw) | with_reducible refine atL_i hi ?_ | with_reducible refine atL_p (seg_get ha).1 ?_ | ((with_reducible refine VC.mk ?_); exact hir') | ((with_reducible refine VC.mk ?_); exact ⟨hsm, hvl⟩) | ((with_reducible refine VC.mk ?_); exact ⟨h12.2, hdr, by rw [(dm_ok2 hdb hmd).1]; exact (dm_ok2 hdb hmd).2⟩) | ((with_reducible refine splitT_of ?_ ?_); (focus (simp only [hpl, Bool.not_true, Bool.not_false, decide_true, decide_false]; done))) | ((with_reducible refine splitF_of ?_ ?_); (focus (simp only [hpl, Bool.not_true, Bool.not_false, decide_true, decide_false]; done))) | (with_reducible first | refine splitT ?_ | refine splitF ?_) | ((with_reducible refine splitM.mk (fun hsm => ?_) (fun hsm => ?_)) <;> (try exact zx)) | ((with_reducible refine splitB.mk (fun h => ?_) (fun h => ?_)) <;> (try simp only [zs, ne_eq] at h) <;> (try simp (disch := omega) only [w64] at h) <;> (try exact zx)) | (with_reducible intro hz; (try exact absurd hz (Nat.succ_ne_zero _)))))
        · have hn := oCS_n (o := drO (zsS (plO ((cp, cq), cp', cq') ((p, q), p', q'))) (dp, dq) (day - md)) h
          have hn2 : oCS (drO (((zsS (plO ((cp, cq), cp', cq') ((p, q), p', q'))).1.1, (zsS (plO ((cp, cq), cp', cq') ((p, q), p', q'))).1.2), (zsS (plO ((cp, cq), cp', cq') ((p, q), p', q'))).2.1, (zsS (plO ((cp, cq), cp', cq') ((p, q), p', q'))).2.2) (dp, dq) (day - md)) = 3 := by show oCS (drO (zsS (plO ((cp, cq), cp', cq') ((p, q), p', q'))) (dp, dq) (day - md)) = 3; rw [hn]; rfl
          rw [hn, Option.bind_none] at he
          exact ⟨by rw [he, (dm_ok2 hdb hmd).1, hn2]; rfl⟩
        · obtain ⟨v, hv⟩ := oCS_s (o := drO (zsS (plO ((cp, cq), cp', cq') ((p, q), p', q'))) (dp, dq) (day - md)) h
          have hv2 : drO (((zsS (plO ((cp, cq), cp', cq') ((p, q), p', q'))).1.1, (zsS (plO ((cp, cq), cp', cq') ((p, q), p', q'))).1.2), (zsS (plO ((cp, cq), cp', cq') ((p, q), p', q'))).2.1, (zsS (plO ((cp, cq), cp', cq') ((p, q), p', q'))).2.2) (dp, dq) (day - md) = some v := hv
          rw [hv, Option.bind_some] at he
          refine ⟨(k + 1, v), by dsimp only; omega, ⟨hlt, smS_drO hv, he⟩, ?_⟩
          (repeat' ((try (conv => whnf)); first | (with_reducible first | refine And.intro ?_ ?_ | refine WX.of ?_) | exact zc | ((with_reducible refine VC.mk ?_); exact zw) | (with_reducible first | refine splitT ?_ | refine splitF ?_) | ((with_reducible refine splitM.mk (fun hsm => ?_) (fun hsm => ?_)) <;> (try exact zx)) | ((with_reducible refine splitB.mk (fun h => ?_) (fun h => ?_)) <;> (try simp only [zs, ne_eq] at h) <;> (try simp (disch := omega) only [w64] at h) <;> (try exact zx)) | (with_reducible intro hz; (try exact absurd hz (Nat.succ_ne_zero _)))))
          all_goals exact ⟨by simp only [(dm_ok2 hdb hmd).1, hv2]; rfl⟩
    · obtain rfl : k = m := by omega
      rw [drop_nil (by omega), alO] at he
      rw [he]
      (repeat' ((try (conv => whnf)); first | (with_reducible first | refine And.intro ?_ ?_ | refine WX.of ?_) | exact zc | ((with_reducible refine VC.mk ?_); exact zw) | (with_reducible first | refine splitT ?_ | refine splitF ?_) | ((with_reducible refine splitM.mk (fun hsm => ?_) (fun hsm => ?_)) <;> (try exact zx)) | ((with_reducible refine splitB.mk (fun h => ?_) (fun h => ?_)) <;> (try simp only [zs, ne_eq] at h) <;> (try simp (disch := omega) only [w64] at h) <;> (try exact zx)) | (with_reducible intro hz; (try exact absurd hz (Nat.succ_ne_zero _)))))
end Go.Proofs.YtonnkpclllmkoaaGreat.Eng
set_option linter.unusedVariables false
set_option linter.unusedSimpArgs false
namespace Go.Proofs.YtonnkpclllmkoaaGreat.Eng
open Go Go.RowKit
set_option maxRecDepth 100000
def ixB (L : List StT) (i : Int) : Bool := decide (0 ≤ i ∧ i ≤ (L.length : Int) - 1)
theorem ix_ok {L : List StT} {i : Int} (h : ixB L i = true) : 0 ≤ i ∧ i < L.length := by unfold ixB at h; simp at h; omega
def s_cc1 : Spec := fun args S => match args, S with
  | [.int .i64 i, .ptr 0 0 0], [.box [.sl 1 t m y] true false, .arr (.prod .str (.prod (.int .i64) (.prod (.prod (.prod (.int .i64) (.int .i64)) (.prod (.int .i64) (.int .i64))) (.prod (.prod (.int .i64) (.int .i64)) (.prod (.int .i64) (.int .i64)))))) l 10 wr] => ⟨t + m ≤ l.length ∧ m ≤ 1048576, .bool (!ixB (seg l t m) i), [.box [.sl 1 t m y] true false, .arr (.prod .str (.prod (.int .i64) (.prod (.prod (.prod (.int .i64) (.int .i64)) (.prod (.int .i64) (.int .i64))) (.prod (.prod (.int .i64) (.int .i64)) (.prod (.int .i64) (.int .i64)))))) l 10 wr]⟩
  | _, _ => noSpec
theorem ok_chainCode1 : SpecOk Tryz.prog 106 s_cc1 := by
  intro args S h; unfold s_cc1 at h ⊢; (split at h <;> first | exact False.elim h | skip)
  dsimp only at h ⊢
  rename_i i t m y l wr
  have hL := seg_len h.1
  have e : ixB (seg l t m) i = decide (0 ≤ i ∧ i ≤ (m : Int) - 1) := by unfold ixB; rw [hL]
  rw [e]
  refine funW tabOk (E := [(101, s_within)]) ⟨ok_within, trivial⟩ [] (k := 2) (fn := Tryz.f106) rfl rfl rfl rfl rfl rfl ?_
  (repeat' ((try (conv => whnf)); first | (with_reducible first | refine And.intro ?_ ?_ | refine WX.of ?_) | exact zc | ((with_reducible refine VC.mk ?_); exact zw) | (with_reducible first | refine splitT ?_ | refine splitF ?_) | ((with_reducible refine splitM.mk (fun hsm => ?_) (fun hsm => ?_)) <;> (try exact zx)) | ((with_reducible refine splitB.mk (fun h => ?_) (fun h => ?_)) <;> (try simp only [zs, ne_eq] at h) <;> (try simp (disch := omega) only [w64] at h) <;> (try exact zx)) | (with_reducible intro hz; (try exact absurd hz (Nat.succ_ne_zero _)))))
  all_goals exact ⟨by rw [w64 (by omega)]⟩
def s_cc2 : Spec := fun args S => match args, S with
  | [.int .i64 d], [] => ⟨True, .bool (!dyB d), []⟩
  | _, _ => noSpec
theorem ok_chainCode2 : SpecOk Tryz.prog 107 s_cc2 := by
  intro args S h; unfold s_cc2 at h ⊢; (split at h <;> first | exact False.elim h | skip)
  dsimp only at h ⊢
  refine funW tabOk (E := [(101, s_within)]) ⟨ok_within, trivial⟩ [] (k := 0) (fn := Tryz.f107) rfl rfl rfl rfl rfl rfl ?_
  (repeat' ((try (conv => whnf)); first | (with_reducible first | refine And.intro ?_ ?_ | refine WX.of ?_) | exact zc | ((with_reducible refine VC.mk ?_); exact zw) | (with_reducible first | refine splitT ?_ | refine splitF ?_) | ((with_reducible refine splitM.mk (fun hsm => ?_) (fun hsm => ?_)) <;> (try exact zx)) | ((with_reducible refine splitB.mk (fun h => ?_) (fun h => ?_)) <;> (try simp only [zs, ne_eq] at h) <;> (try simp (disch := omega) only [w64] at h) <;> (try exact zx)) | (with_reducible intro hz; (try exact absurd hz (Nat.succ_ne_zero _)))))
def s_idxZ (g1 g2 : Nat) : Spec := fun args S => match args, S with
  | [.sl 0 s n x, .fn g [.ptr 1 0 0]], [.arr (.int .i64) w 1 ww, .box [.sl 2 t m y] true false, .arr (.prod .str (.prod (.int .i64) (.prod (.prod (.prod (.int .i64) (.int .i64)) (.prod (.int .i64) (.int .i64))) (.prod (.prod (.int .i64) (.int .i64)) (.prod (.int .i64) (.int .i64)))))) l 10 wr] => ⟨g = g1 ∧ (s + n ≤ w.length ∧ n ≤ 1048576) ∧ t + m ≤ l.length ∧ m ≤ 1048576, .int .i64 (findI (fun i => !ixB (seg l t m) i) (seg w s n)), [.arr (.int .i64) w 1 ww, .box [.sl 2 t m y] true false, .arr (.prod .str (.prod (.int .i64) (.prod (.prod (.prod (.int .i64) (.int .i64)) (.prod (.int .i64) (.int .i64))) (.prod (.prod (.int .i64) (.int .i64)) (.prod (.int .i64) (.int .i64)))))) l 10 wr]⟩
  | [.nils, .fn g [.ptr 0 0 0]], [.box [.sl 1 t m y] true false, .arr (.prod .str (.prod (.int .i64) (.prod (.prod (.prod (.int .i64) (.int .i64)) (.prod (.int .i64) (.int .i64))) (.prod (.prod (.int .i64) (.int .i64)) (.prod (.int .i64) (.int .i64)))))) l 10 wr] => ⟨g = g1, .int .i64 (-1), [.box [.sl 1 t m y] true false, .arr (.prod .str (.prod (.int .i64) (.prod (.prod (.prod (.int .i64) (.int .i64)) (.prod (.int .i64) (.int .i64))) (.prod (.prod (.int .i64) (.int .i64)) (.prod (.int .i64) (.int .i64)))))) l 10 wr]⟩
  | [.sl 0 s n x, .fn g []], [.arr (.int .i64) w 1 ww] => ⟨g = g2 ∧ s + n ≤ w.length ∧ n ≤ 1048576, .int .i64 (findI (fun i => !dyB i) (seg w s n)), [.arr (.int .i64) w 1 ww]⟩
  | [.nils, .fn g []], [] => ⟨g = g2, .int .i64 (-1), []⟩
  | _, _ => noSpec
set_option maxHeartbeats 1600000 in
theorem ok_idxZ : SpecOk Tryz.prog 147 (s_idxZ 106 107) := by
  intro args S h; unfold s_idxZ at h ⊢; (split at h <;> first | exact False.elim h | skip)
  dsimp only at h ⊢
  · rename_i s n x g w ww t m y l wr
    obtain ⟨rfl, ⟨h1, h2⟩, h3⟩ := h
    have hL := seg_len h1
    refine funW tabOk (E := [(106, s_cc1)]) ⟨ok_chainCode1, trivial⟩ [] (k := 3) (fn := Tryz.f147) rfl rfl rfl rfl rfl rfl ?_
    (repeat' ((try (conv => whnf)); first | (with_reducible first | refine And.intro ?_ ?_ | refine WX.of ?_) | exact zc | ((with_reducible refine VC.mk ?_); exact zw) | (with_reducible first | refine splitT ?_ | refine splitF ?_) | ((with_reducible refine splitM.mk (fun hsm => ?_) (fun hsm => ?_)) <;> (try exact zx)) | ((with_reducible refine splitB.mk (fun h => ?_) (fun h => ?_)) <;> (try simp only [zs, ne_eq] at h) <;> (try simp (disch := omega) only [w64] at h) <;> (try exact zx)) | (with_reducible intro hz; (try exact absurd hz (Nat.succ_ne_zero _)))))
    refine loopW tabOk (E := [(106, s_cc1)]) ⟨ok_chainCode1, trivial⟩ [] (σ := Nat) (fun i => [(0, .sl 0 s n x), (1, .fn 106 [.ptr 1 0 0]), (7, .int .i64 n), (8, .int .i64 i)]) (fun i => [.arr (.int .i64) w 1 ww, .box [.sl 2 t m y] true false, .arr (.prod .str (.prod (.int .i64) (.prod (.prod (.prod (.int .i64) (.int .i64)) (.prod (.int .i64) (.int .i64))) (.prod (.prod (.int .i64) (.int .i64)) (.prod (.int .i64) (.int .i64)))))) l 10 wr]) (fun i => n - i) (fun i => i ≤ n ∧ ∀ (j : Nat) (a : Int), j < i → (seg w s n)[j]? = some a → (fun i => !ixB (seg l t m) i) a = false) 0 ⟨Nat.zero_le _, fun j a hj => by omega⟩ ?_ ?_
    · (repeat' ((try (conv => whnf)); first | (with_reducible first | refine And.intro ?_ ?_ | refine WX.of ?_) | exact zc | ((with_reducible refine VC.mk ?_); exact zw) | (with_reducible first | refine splitT ?_ | refine splitF ?_) | ((with_reducible refine splitM.mk (fun hsm => ?_) (fun hsm => ?_)) <;> (try exact zx)) | ((with_reducible refine splitB.mk (fun h => ?_) (fun h => ?_)) <;> (try simp only [zs, ne_eq] at h) <;> (try simp (disch := omega) only [w64] at h) <;> (try exact zx)) | (with_reducible intro hz; (try exact absurd hz (Nat.succ_ne_zero _)))))
    · intro i ⟨hi, hp⟩
      by_cases hlt : i < n
      · obtain ⟨a, ha⟩ := get_some (l := seg w s n) (i := i) (by omega)
        (repeat' ((try (conv => whnf)); first | (with_reducible first | refine And.intro ?_ ?_ | refine WX.of ?_) | exact zc | ((with_reducible refine VC.mk ?_); exact zw) | with_reducible refine atL_i ha ?_ | ((with_reducible refine VC.mk ?_); exact h3) | (with_reducible first | refine splitT ?_ | refine splitF ?_) | ((with_reducible refine splitM.mk (fun hsm => ?_) (fun hsm => ?_)) <;> (try exact zx)) | ((with_reducible refine splitB.mk (fun h => ?_) (fun h => ?_)) <;> (try simp only [zs, ne_eq] at h) <;> (try simp (disch := omega) only [w64] at h) <;> (try exact zx)) | (with_reducible intro hz; (try exact absurd hz (Nat.succ_ne_zero _)))))
        · exact ⟨by rw [findI_some (p := fun i => !ixB (seg l t m) i) ha (by simp [h]) hp]⟩
        · refine ⟨i + 1, by omega, ⟨hlt, upto_step ha (by simp [h]) hp⟩, ?_⟩
          (repeat' ((try (conv => whnf)); first | (with_reducible first | refine And.intro ?_ ?_ | refine WX.of ?_) | exact zc | ((with_reducible refine VC.mk ?_); exact zw) | (with_reducible first | refine splitT ?_ | refine splitF ?_) | ((with_reducible refine splitM.mk (fun hsm => ?_) (fun hsm => ?_)) <;> (try exact zx)) | ((with_reducible refine splitB.mk (fun h => ?_) (fun h => ?_)) <;> (try simp only [zs, ne_eq] at h) <;> (try simp (disch := omega) only [w64] at h) <;> (try exact zx)) | (with_reducible intro hz; (try exact absurd hz (Nat.succ_ne_zero _)))))
      · (repeat' ((try (conv => whnf)); first | (with_reducible first | refine And.intro ?_ ?_ | refine WX.of ?_) | exact zc | ((with_reducible refine VC.mk ?_); exact zw) | (with_reducible first | refine splitT ?_ | refine splitF ?_) | ((with_reducible refine splitM.mk (fun hsm => ?_) (fun hsm => ?_)) <;> (try exact zx)) | ((with_reducible refine splitB.mk (fun h => ?_) (fun h => ?_)) <;> (try simp only [zs, ne_eq] at h) <;> (try simp (disch := omega) only [w64] at h) <;> (try exact zx)) | (with_reducible intro hz; (try exact absurd hz (Nat.succ_ne_zero _)))))
        exact ⟨by rw [findI_none (p := fun i => !ixB (seg l t m) i) fun j a hj => hp j a (by have := (List.getElem?_eq_some_iff.1 hj).1; omega) hj]⟩
  · obtain rfl := h
    refine funW tabOk (E := [(106, s_cc1)]) ⟨ok_chainCode1, trivial⟩ [] (k := 2) (fn := Tryz.f147) rfl rfl rfl rfl rfl rfl ?_
    (repeat' ((try (conv => whnf)); first | (with_reducible first | refine And.intro ?_ ?_ | refine WX.of ?_) | exact zc | ((with_reducible refine VC.mk ?_); exact zw) | (with_reducible first | refine splitT ?_ | refine splitF ?_) | ((with_reducible refine splitM.mk (fun hsm => ?_) (fun hsm => ?_)) <;> (try exact zx)) | ((with_reducible refine splitB.mk (fun h => ?_) (fun h => ?_)) <;> (try simp only [zs, ne_eq] at h) <;> (try simp (disch := omega) only [w64] at h) <;> (try exact zx)) | (with_reducible intro hz; (try exact absurd hz (Nat.succ_ne_zero _)))))
    refine loop1 tabOk (E := [(106, s_cc1)]) ⟨ok_chainCode1, trivial⟩ [] ?_
    (repeat' ((try (conv => whnf)); first | (with_reducible first | refine And.intro ?_ ?_ | refine WX.of ?_) | exact zc | ((with_reducible refine VC.mk ?_); exact zw) | (with_reducible first | refine splitT ?_ | refine splitF ?_) | ((with_reducible refine splitM.mk (fun hsm => ?_) (fun hsm => ?_)) <;> (try exact zx)) | ((with_reducible refine splitB.mk (fun h => ?_) (fun h => ?_)) <;> (try simp only [zs, ne_eq] at h) <;> (try simp (disch := omega) only [w64] at h) <;> (try exact zx)) | (with_reducible intro hz; (try exact absurd hz (Nat.succ_ne_zero _)))))
  · rename_i s n x g w ww
    obtain ⟨rfl, h1, h2⟩ := h
    have hL := seg_len h1
    refine funW tabOk (E := [(107, s_cc2)]) ⟨ok_chainCode2, trivial⟩ [] (k := 1) (fn := Tryz.f147) rfl rfl rfl rfl rfl rfl ?_
    (repeat' ((try (conv => whnf)); first | (with_reducible first | refine And.intro ?_ ?_ | refine WX.of ?_) | exact zc | ((with_reducible refine VC.mk ?_); exact zw) | (with_reducible first | refine splitT ?_ | refine splitF ?_) | ((with_reducible refine splitM.mk (fun hsm => ?_) (fun hsm => ?_)) <;> (try exact zx)) | ((with_reducible refine splitB.mk (fun h => ?_) (fun h => ?_)) <;> (try simp only [zs, ne_eq] at h) <;> (try simp (disch := omega) only [w64] at h) <;> (try exact zx)) | (with_reducible intro hz; (try exact absurd hz (Nat.succ_ne_zero _)))))
    refine loopW tabOk (E := [(107, s_cc2)]) ⟨ok_chainCode2, trivial⟩ [] (σ := Nat) (fun i => [(0, .sl 0 s n x), (1, .fn 107 []), (7, .int .i64 n), (8, .int .i64 i)]) (fun i => [.arr (.int .i64) w 1 ww]) (fun i => n - i) (fun i => i ≤ n ∧ ∀ (j : Nat) (a : Int), j < i → (seg w s n)[j]? = some a → (fun i => !dyB i) a = false) 0 ⟨Nat.zero_le _, fun j a hj => by omega⟩ ?_ ?_
    · (repeat' ((try (conv => whnf)); first | (with_reducible first | refine And.intro ?_ ?_ | refine WX.of ?_) | exact zc | ((with_reducible refine VC.mk ?_); exact zw) | (with_reducible first | refine splitT ?_ | refine splitF ?_) | ((with_reducible refine splitM.mk (fun hsm => ?_) (fun hsm => ?_)) <;> (try exact zx)) | ((with_reducible refine splitB.mk (fun h => ?_) (fun h => ?_)) <;> (try simp only [zs, ne_eq] at h) <;> (try simp (disch := omega) only [w64] at h) <;> (try exact zx)) | (with_reducible intro hz; (try exact absurd hz (Nat.succ_ne_zero _)))))
    · intro i ⟨hi, hp⟩
      by_cases hlt : i < n
      · obtain ⟨a, ha⟩ := get_some (l := seg w s n) (i := i) (by omega)
        (repeat' ((try (conv => whnf)); first | (with_reducible first | refine And.intro ?_ ?_ | refine WX.of ?_) | exact zc | ((with_reducible refine VC.mk ?_); exact zw) | with_reducible refine atL_i ha ?_ | (with_reducible first | refine splitT ?_ | refine splitF ?_) | ((with_reducible refine splitM.mk (fun hsm => ?_) (fun hsm => ?_)) <;> (try exact zx)) | ((with_reducible refine splitB.mk (fun h => ?_) (fun h => ?_)) <;> (try simp only [zs, ne_eq] at h) <;> (try simp (disch := omega) only [w64] at h) <;> (try exact zx)) | (with_reducible intro hz; (try exact absurd hz (Nat.succ_ne_zero _)))))
        · exact ⟨by rw [findI_some (p := fun i => !dyB i) ha (by simp [h]) hp]⟩
        · refine ⟨i + 1, by omega, ⟨hlt, upto_step ha (by simp [h]) hp⟩, ?_⟩
          (repeat' ((try (conv => whnf)); first | (with_reducible first | refine And.intro ?_ ?_ | refine WX.of ?_) | exact zc | ((with_reducible refine VC.mk ?_); exact zw) | (with_reducible first | refine splitT ?_ | refine splitF ?_) | ((with_reducible refine splitM.mk (fun hsm => ?_) (fun hsm => ?_)) <;> (try exact zx)) | ((with_reducible refine splitB.mk (fun h => ?_) (fun h => ?_)) <;> (try simp only [zs, ne_eq] at h) <;> (try simp (disch := omega) only [w64] at h) <;> (try exact zx)) | (with_reducible intro hz; (try exact absurd hz (Nat.succ_ne_zero _)))))
      · (repeat' ((try (conv => whnf)); first | (with_reducible first | refine And.intro ?_ ?_ | refine WX.of ?_) | exact zc | ((with_reducible refine VC.mk ?_); exact zw) | (with_reducible first | refine splitT ?_ | refine splitF ?_) | ((with_reducible refine splitM.mk (fun hsm => ?_) (fun hsm => ?_)) <;> (try exact zx)) | ((with_reducible refine splitB.mk (fun h => ?_) (fun h => ?_)) <;> (try simp only [zs, ne_eq] at h) <;> (try simp (disch := omega) only [w64] at h) <;> (try exact zx)) | (with_reducible intro hz; (try exact absurd hz (Nat.succ_ne_zero _)))))
        exact ⟨by rw [findI_none (p := fun i => !dyB i) fun j a hj => hp j a (by have := (List.getElem?_eq_some_iff.1 hj).1; omega) hj]⟩
  · obtain rfl := h
    refine funW tabOk (E := [(107, s_cc2)]) ⟨ok_chainCode2, trivial⟩ [] (k := 0) (fn := Tryz.f147) rfl rfl rfl rfl rfl rfl ?_
    (repeat' ((try (conv => whnf)); first | (with_reducible first | refine And.intro ?_ ?_ | refine WX.of ?_) | exact zc | ((with_reducible refine VC.mk ?_); exact zw) | (with_reducible first | refine splitT ?_ | refine splitF ?_) | ((with_reducible refine splitM.mk (fun hsm => ?_) (fun hsm => ?_)) <;> (try exact zx)) | ((with_reducible refine splitB.mk (fun h => ?_) (fun h => ?_)) <;> (try simp only [zs, ne_eq] at h) <;> (try simp (disch := omega) only [w64] at h) <;> (try exact zx)) | (with_reducible intro hz; (try exact absurd hz (Nat.succ_ne_zero _)))))
    refine loop1 tabOk (E := [(107, s_cc2)]) ⟨ok_chainCode2, trivial⟩ [] ?_
    (repeat' ((try (conv => whnf)); first | (with_reducible first | refine And.intro ?_ ?_ | refine WX.of ?_) | exact zc | ((with_reducible refine VC.mk ?_); exact zw) | (with_reducible first | refine splitT ?_ | refine splitF ?_) | ((with_reducible refine splitM.mk (fun hsm => ?_) (fun hsm => ?_)) <;> (try exact zx)) | ((with_reducible refine splitB.mk (fun h => ?_) (fun h => ?_)) <;> (try simp only [zs, ne_eq] at h) <;> (try simp (disch := omega) only [w64] at h) <;> (try exact zx)) | (with_reducible intro hz; (try exact absurd hz (Nat.succ_ne_zero _)))))
def s_anyZ (g1 g2 : Nat) : Spec := fun args S => match args, S with
  | [.sl 0 s n x, .fn g [.ptr 1 0 0]], [.arr (.int .i64) w 1 ww, .box [.sl 2 t m y] true false, .arr (.prod .str (.prod (.int .i64) (.prod (.prod (.prod (.int .i64) (.int .i64)) (.prod (.int .i64) (.int .i64))) (.prod (.prod (.int .i64) (.int .i64)) (.prod (.int .i64) (.int .i64)))))) l 10 wr] => ⟨g = g1 ∧ (s + n ≤ w.length ∧ n ≤ 1048576) ∧ t + m ≤ l.length ∧ m ≤ 1048576, .bool ((seg w s n).any fun i => !ixB (seg l t m) i), [.arr (.int .i64) w 1 ww, .box [.sl 2 t m y] true false, .arr (.prod .str (.prod (.int .i64) (.prod (.prod (.prod (.int .i64) (.int .i64)) (.prod (.int .i64) (.int .i64))) (.prod (.prod (.int .i64) (.int .i64)) (.prod (.int .i64) (.int .i64)))))) l 10 wr]⟩
  | [.nils, .fn g [.ptr 0 0 0]], [.box [.sl 1 t m y] true false, .arr (.prod .str (.prod (.int .i64) (.prod (.prod (.prod (.int .i64) (.int .i64)) (.prod (.int .i64) (.int .i64))) (.prod (.prod (.int .i64) (.int .i64)) (.prod (.int .i64) (.int .i64)))))) l 10 wr] => ⟨g = g1, .bool false, [.box [.sl 1 t m y] true false, .arr (.prod .str (.prod (.int .i64) (.prod (.prod (.prod (.int .i64) (.int .i64)) (.prod (.int .i64) (.int .i64))) (.prod (.prod (.int .i64) (.int .i64)) (.prod (.int .i64) (.int .i64)))))) l 10 wr]⟩
  | [.sl 0 s n x, .fn g []], [.arr (.int .i64) w 1 ww] => ⟨g = g2 ∧ s + n ≤ w.length ∧ n ≤ 1048576, .bool ((seg w s n).any fun i => !dyB i), [.arr (.int .i64) w 1 ww]⟩
  | [.nils, .fn g []], [] => ⟨g = g2, .bool false, []⟩
  | _, _ => noSpec
theorem ok_anyZ : SpecOk Tryz.prog 105 (s_anyZ 106 107) := by
  intro args S h; unfold s_anyZ at h ⊢; (split at h <;> first | exact False.elim h | skip)
  dsimp only at h ⊢
  · have hq := h
    refine funW tabOk (E := [(147, (s_idxZ 106 107))]) ⟨ok_idxZ, trivial⟩ [] (k := 3) (fn := Tryz.f105) rfl rfl rfl rfl rfl rfl ?_
    (repeat' ((try (conv => whnf)); first | (with_reducible first | refine And.intro ?_ ?_ | refine WX.of ?_) | exact zc | ((with_reducible refine VC.mk ?_); exact zw) | ((with_reducible refine VC.mk ?_); exact hq) | (with_reducible first | refine splitT ?_ | refine splitF ?_) | ((with_reducible refine splitM.mk (fun hsm => ?_) (fun hsm => ?_)) <;> (try exact zx)) | ((with_reducible refine splitB.mk (fun h => ?_) (fun h => ?_)) <;> (try simp only [zs, ne_eq] at h) <;> (try simp (disch := omega) only [w64] at h) <;> (try exact zx)) | (with_reducible intro hz; (try exact absurd hz (Nat.succ_ne_zero _)))))
    exact ⟨by rw [findI_any]⟩
  · have hq := h
    refine funW tabOk (E := [(147, (s_idxZ 106 107))]) ⟨ok_idxZ, trivial⟩ [] (k := 2) (fn := Tryz.f105) rfl rfl rfl rfl rfl rfl ?_
    (repeat' ((try (conv => whnf)); first | (with_reducible first | refine And.intro ?_ ?_ | refine WX.of ?_) | exact zc | ((with_reducible refine VC.mk ?_); exact zw) | ((with_reducible refine VC.mk ?_); exact hq) | (with_reducible first | refine splitT ?_ | refine splitF ?_) | ((with_reducible refine splitM.mk (fun hsm => ?_) (fun hsm => ?_)) <;> (try exact zx)) | ((with_reducible refine splitB.mk (fun h => ?_) (fun h => ?_)) <;> (try simp only [zs, ne_eq] at h) <;> (try simp (disch := omega) only [w64] at h) <;> (try exact zx)) | (with_reducible intro hz; (try exact absurd hz (Nat.succ_ne_zero _)))))
  · have hq := h
    refine funW tabOk (E := [(147, (s_idxZ 106 107))]) ⟨ok_idxZ, trivial⟩ [] (k := 1) (fn := Tryz.f105) rfl rfl rfl rfl rfl rfl ?_
    (repeat' ((try (conv => whnf)); first | (with_reducible first | refine And.intro ?_ ?_ | refine WX.of ?_) | exact zc | ((with_reducible refine VC.mk ?_); exact zw) | ((with_reducible refine VC.mk ?_); exact hq) | (with_reducible first | refine splitT ?_ | refine splitF ?_) | ((with_reducible refine splitM.mk (fun hsm => ?_) (fun hsm => ?_)) <;> (try exact zx)) | ((with_reducible refine splitB.mk (fun h => ?_) (fun h => ?_)) <;> (try simp only [zs, ne_eq] at h) <;> (try simp (disch := omega) only [w64] at h) <;> (try exact zx)) | (with_reducible intro hz; (try exact absurd hz (Nat.succ_ne_zero _)))))
    exact ⟨by rw [findI_any]⟩
  · have hq := h
    refine funW tabOk (E := [(147, (s_idxZ 106 107))]) ⟨ok_idxZ, trivial⟩ [] (k := 0) (fn := Tryz.f105) rfl rfl rfl rfl rfl rfl ?_
    (repeat' ((try (conv => whnf)); first | (with_reducible first | refine And.intro ?_ ?_ | refine WX.of ?_) | exact zc | ((with_reducible refine VC.mk ?_); exact zw) | ((with_reducible refine VC.mk ?_); exact hq) | (with_reducible first | refine splitT ?_ | refine splitF ?_) | ((with_reducible refine splitM.mk (fun hsm => ?_) (fun hsm => ?_)) <;> (try exact zx)) | ((with_reducible refine splitB.mk (fun h => ?_) (fun h => ?_)) <;> (try simp only [zs, ne_eq] at h) <;> (try simp (disch := omega) only [w64] at h) <;> (try exact zx)) | (with_reducible intro hz; (try exact absurd hz (Nat.succ_ne_zero _)))))
/-- The code of a chain, indices and days. -/
def ccC (L : List StT) (ix dy : List Int) : Int := if chB L = true then (if (ix.any fun i => !ixB L i) = true then 2 else if (dy.any fun i => !dyB i) = true then 2 else 0) else 1
def chP (s n : Nat) (l : List StT) : Prop := (s + n ≤ l.length ∧ n ≤ 1048576) ∧ ∀ (j : Nat) (a : StT), l[j]? = some a → a.1.length < 9223372036854775808
def s_chC : Spec := fun args S => match args, S with
  | [.sl 0 s n x, .sl 1 t m y, .sl 2 t' m' y'], [.arr (.prod .str (.prod (.int .i64) (.prod (.prod (.prod (.int .i64) (.int .i64)) (.prod (.int .i64) (.int .i64))) (.prod (.prod (.int .i64) (.int .i64)) (.prod (.int .i64) (.int .i64)))))) l 10 wr, .arr (.int .i64) w 1 ww, .arr (.int .i64) w' 1 ww'] => ⟨chP s n l ∧ (t + m ≤ w.length ∧ m ≤ 1048576) ∧ t' + m' ≤ w'.length ∧ m' ≤ 1048576, .int .i64 (ccC (seg l s n) (seg w t m) (seg w' t' m')), [.arr (.prod .str (.prod (.int .i64) (.prod (.prod (.prod (.int .i64) (.int .i64)) (.prod (.int .i64) (.int .i64))) (.prod (.prod (.int .i64) (.int .i64)) (.prod (.int .i64) (.int .i64)))))) l 10 wr, .arr (.int .i64) w 1 ww, .arr (.int .i64) w' 1 ww']⟩
  | [.sl 0 s n x, .nils, .sl 1 t' m' y'], [.arr (.prod .str (.prod (.int .i64) (.prod (.prod (.prod (.int .i64) (.int .i64)) (.prod (.int .i64) (.int .i64))) (.prod (.prod (.int .i64) (.int .i64)) (.prod (.int .i64) (.int .i64)))))) l 10 wr, .arr (.int .i64) w' 1 ww'] => ⟨chP s n l ∧ t' + m' ≤ w'.length ∧ m' ≤ 1048576, .int .i64 (ccC (seg l s n) [] (seg w' t' m')), [.arr (.prod .str (.prod (.int .i64) (.prod (.prod (.prod (.int .i64) (.int .i64)) (.prod (.int .i64) (.int .i64))) (.prod (.prod (.int .i64) (.int .i64)) (.prod (.int .i64) (.int .i64)))))) l 10 wr, .arr (.int .i64) w' 1 ww']⟩
  | [.sl 0 s n x, .sl 1 t m y, .nils], [.arr (.prod .str (.prod (.int .i64) (.prod (.prod (.prod (.int .i64) (.int .i64)) (.prod (.int .i64) (.int .i64))) (.prod (.prod (.int .i64) (.int .i64)) (.prod (.int .i64) (.int .i64)))))) l 10 wr, .arr (.int .i64) w 1 ww] => ⟨chP s n l ∧ t + m ≤ w.length ∧ m ≤ 1048576, .int .i64 (ccC (seg l s n) (seg w t m) []), [.arr (.prod .str (.prod (.int .i64) (.prod (.prod (.prod (.int .i64) (.int .i64)) (.prod (.int .i64) (.int .i64))) (.prod (.prod (.int .i64) (.int .i64)) (.prod (.int .i64) (.int .i64)))))) l 10 wr, .arr (.int .i64) w 1 ww]⟩
  | _, _ => noSpec
theorem ok_chainCode : SpecOk Tryz.prog 39 s_chC := by
  intro args S h; unfold s_chC at h ⊢; (split at h <;> first | exact False.elim h | skip)
  dsimp only at h ⊢
  · obtain ⟨h1, h2, h3⟩ := h
    refine funW tabOk (E := [(36, s_l05Ok), (105, (s_anyZ 106 107))]) ⟨ok_ValidChainI, ok_anyZ, trivial⟩ [] (k := 3) (fn := Tryz.f39) rfl rfl rfl rfl rfl rfl ?_
    (repeat' ((try (conv => whnf)); first | (with_reducible first | refine And.intro ?_ ?_ | refine WX.of ?_) | exact zc | ((with_reducible refine VC.mk ?_); exact zw) | ((with_reducible refine VC.mk ?_); exact h1) | ((with_reducible refine VC.mk ?_); exact ⟨rfl, h2, h1.1⟩) | ((with_reducible refine VC.mk ?_); exact ⟨rfl, h3⟩) | (with_reducible first | refine splitT ?_ | refine splitF ?_) | ((with_reducible refine splitM.mk (fun hsm => ?_) (fun hsm => ?_)) <;> (try exact zx)) | ((with_reducible refine splitB.mk (fun h => ?_) (fun h => ?_)) <;> (try simp only [zs, ne_eq] at h) <;> (try simp (disch := omega) only [w64] at h) <;> (try exact zx)) | (with_reducible intro hz; (try exact absurd hz (Nat.succ_ne_zero _)))))
    all_goals (refine ⟨congrArg (SV.int .i64) ?_⟩; unfold ccC; simp [*])
  · obtain ⟨h1, h3⟩ := h
    refine funW tabOk (E := [(36, s_l05Ok), (105, (s_anyZ 106 107))]) ⟨ok_ValidChainI, ok_anyZ, trivial⟩ [] (k := 2) (fn := Tryz.f39) rfl rfl rfl rfl rfl rfl ?_
    (repeat' ((try (conv => whnf)); first | (with_reducible first | refine And.intro ?_ ?_ | refine WX.of ?_) | exact zc | ((with_reducible refine VC.mk ?_); exact zw) | ((with_reducible refine VC.mk ?_); exact h1) | ((with_reducible refine VC.mk ?_); exact ⟨rfl, h3⟩) | (with_reducible first | refine splitT ?_ | refine splitF ?_) | ((with_reducible refine splitM.mk (fun hsm => ?_) (fun hsm => ?_)) <;> (try exact zx)) | ((with_reducible refine splitB.mk (fun h => ?_) (fun h => ?_)) <;> (try simp only [zs, ne_eq] at h) <;> (try simp (disch := omega) only [w64] at h) <;> (try exact zx)) | (with_reducible intro hz; (try exact absurd hz (Nat.succ_ne_zero _)))))
    all_goals (refine ⟨congrArg (SV.int .i64) ?_⟩; unfold ccC; simp [*])
  · obtain ⟨h1, h2⟩ := h
    refine funW tabOk (E := [(36, s_l05Ok), (105, (s_anyZ 106 107))]) ⟨ok_ValidChainI, ok_anyZ, trivial⟩ [] (k := 2) (fn := Tryz.f39) rfl rfl rfl rfl rfl rfl ?_
    (repeat' ((try (conv => whnf)); first | (with_reducible first | refine And.intro ?_ ?_ | refine WX.of ?_) | exact zc | ((with_reducible refine VC.mk ?_); exact zw) | ((with_reducible refine VC.mk ?_); exact h1) | ((with_reducible refine VC.mk ?_); exact ⟨rfl, h2, h1.1⟩) | (with_reducible first | refine splitT ?_ | refine splitF ?_) | ((with_reducible refine splitM.mk (fun hsm => ?_) (fun hsm => ?_)) <;> (try exact zx)) | ((with_reducible refine splitB.mk (fun h => ?_) (fun h => ?_)) <;> (try simp only [zs, ne_eq] at h) <;> (try simp (disch := omega) only [w64] at h) <;> (try exact zx)) | (with_reducible intro hz; (try exact absurd hz (Nat.succ_ne_zero _)))))
    all_goals (refine ⟨congrArg (SV.int .i64) ?_⟩; unfold ccC; simp [*])
def s_l05At : Spec := fun args S => match args, S with
  | [.sl 0 s n x, .int .i64 i, .int .i64 d], [.arr (.prod .str (.prod (.int .i64) (.prod (.prod (.prod (.int .i64) (.int .i64)) (.prod (.int .i64) (.int .i64))) (.prod (.prod (.int .i64) (.int .i64)) (.prod (.int .i64) (.int .i64)))))) l 10 wr] => ⟨chP s n l, .int .i64 (ccC (seg l s n) [i] [d]), [.arr (.prod .str (.prod (.int .i64) (.prod (.prod (.prod (.int .i64) (.int .i64)) (.prod (.int .i64) (.int .i64))) (.prod (.prod (.int .i64) (.int .i64)) (.prod (.int .i64) (.int .i64)))))) l 10 wr]⟩
  | _, _ => noSpec
theorem ok_l05At : SpecOk Tryz.prog 51 s_l05At := by
  intro args S h; unfold s_l05At at h ⊢; (split at h <;> first | exact False.elim h | skip)
  dsimp only at h ⊢
  rename_i s n x i d l wr
  have hq := h
  have hL := seg_len h.1.1
  have hn := h.1.2
  have e : ixB (seg l s n) i = decide (0 ≤ i ∧ i ≤ (n : Int) - 1) := by unfold ixB; rw [hL]
  refine funW tabOk (E := [(37, s_l05Ok), (112, s_within), (64, s_l05Day)]) ⟨ok_l05Ok, ok_l00In, ok_l05Day, trivial⟩ [] (k := 1) (fn := Tryz.f51) rfl rfl rfl rfl rfl rfl ?_
  (repeat' ((try (conv => whnf)); first | (with_reducible first | refine And.intro ?_ ?_ | refine WX.of ?_) | exact zc | ((with_reducible refine VC.mk ?_); exact zw) | ((with_reducible refine VC.mk ?_); exact hq) | (with_reducible first | refine splitT ?_ | refine splitF ?_) | ((with_reducible refine splitM.mk (fun hsm => ?_) (fun hsm => ?_)) <;> (try exact zx)) | ((with_reducible refine splitB.mk (fun h => ?_) (fun h => ?_)) <;> (try simp only [zs, ne_eq] at h) <;> (try simp (disch := omega) only [w64] at h) <;> (try exact zx)) | (with_reducible intro hz; (try exact absurd hz (Nat.succ_ne_zero _)))))
  all_goals (refine ⟨congrArg (SV.int .i64) ?_⟩; unfold ccC; simp [*])
end Go.Proofs.YtonnkpclllmkoaaGreat.Eng
set_option linter.unusedVariables false
set_option linter.unusedSimpArgs false
namespace Go.Proofs.YtonnkpclllmkoaaGreat.Eng
open Go Go.RowKit
set_option maxRecDepth 100000
def soO (L : List StT) (i day : Int) : Option SpT := alO L day (pathL L i) ((0, 1), 0, 1)
/-- What comes of a code and of a span. -/
def coC (c : Int) (g : Bool) (o : Option SpT) : Int := if c = 0 then (if g = true then oCS o else 4) else c
def coV (c : Int) (g : Bool) (o : Option SpT) : SpT := if coC c g o = 0 then zsS o else ((0, 0), 0, 0)
def soC (L : List StT) (i day : Int) : Int := coC (ccC L [i] [day]) (gdB (stAt L i) day) (soO L i day)
def soV (L : List StT) (i day : Int) : SpT := coV (ccC L [i] [day]) (gdB (stAt L i) day) (soO L i day)
theorem co_1 {c : Int} {g : Bool} {o : Option SpT} (h : ¬ c = 0) : coC c g o = c ∧ coV c g o = ((0, 0), 0, 0) := by
  have e : coC c g o = c := by unfold coC; rw [if_neg h]
  exact ⟨e, by unfold coV; rw [e, if_neg h]⟩
theorem co_2 {g : Bool} {o : Option SpT} (h : g = false) : coC 0 g o = 4 ∧ coV 0 g o = ((0, 0), 0, 0) := by
  have e : coC 0 g o = 4 := by unfold coC; rw [h]; rfl
  exact ⟨e, by unfold coV; rw [e]; rfl⟩
theorem co_3 {g : Bool} {o : Option SpT} (h : g = true) : coC 0 g o = oCS o ∧ coV 0 g o = zsS o := by
  have e : coC 0 g o = oCS o := by unfold coC; rw [h]; rfl
  refine ⟨e, ?_⟩
  unfold coV; rw [e]
  cases o <;> simp [oCS, zsS]
theorem cc_ok {L : List StT} {ix dy : List Int} (h : ccC L ix dy = 0) : chB L = true ∧ (∀ i ∈ ix, 0 ≤ i ∧ i < L.length) ∧ ∀ d ∈ dy, 0 ≤ d ∧ d ≤ 100000 := by
  unfold ccC at h
  split at h
  · rename_i hc
    split at h
    · simp at h
    · rename_i h1
      split at h
      · simp at h
      · rename_i h2
        simp only [Bool.not_eq_true, List.any_eq_false, Bool.not_eq_true', Bool.not_eq_false] at h1 h2
        exact ⟨hc, fun i hi => ix_ok (h1 i hi), fun d hd => by have := h2 d hd; unfold dyB at this; simpa using this⟩
  · simp at h
def s_spanOnC : Spec := fun args S => match args, S with
  | [.ptr b 0 0, .sl 1 s n x, .int .i64 i, .int .i64 day], [.arr .bool [bad] 0 true, .arr (.prod .str (.prod (.int .i64) (.prod (.prod (.prod (.int .i64) (.int .i64)) (.prod (.int .i64) (.int .i64))) (.prod (.prod (.int .i64) (.int .i64)) (.prod (.int .i64) (.int .i64)))))) l 10 wr] => ⟨b = 0 ∧ (s + n ≤ l.length ∧ chB (seg l s n) = true) ∧ (0 ≤ i ∧ i < n) ∧ (0 ≤ day ∧ day ≤ 100000), .agg [.int .i64 (alT (seg l s n) day (pathL (seg l s n) i) (((0, 1), 0, 1), bad)).1.1.1, .int .i64 (alT (seg l s n) day (pathL (seg l s n) i) (((0, 1), 0, 1), bad)).1.1.2, .int .i64 (alT (seg l s n) day (pathL (seg l s n) i) (((0, 1), 0, 1), bad)).1.2.1, .int .i64 (alT (seg l s n) day (pathL (seg l s n) i) (((0, 1), 0, 1), bad)).1.2.2], [.arr .bool [(alT (seg l s n) day (pathL (seg l s n) i) (((0, 1), 0, 1), bad)).2] 0 true, .arr (.prod .str (.prod (.int .i64) (.prod (.prod (.prod (.int .i64) (.int .i64)) (.prod (.int .i64) (.int .i64))) (.prod (.prod (.int .i64) (.int .i64)) (.prod (.int .i64) (.int .i64)))))) l 10 wr]⟩
  | _, _ => noSpec
theorem ok_spanOnC : SpecOk Tryz.prog 42 s_spanOnC := by
  intro args S h; unfold s_spanOnC at h ⊢; (split at h <;> first | exact False.elim h | skip)
  dsimp only at h ⊢
  rename_i b s n x i day bad l wr
  obtain ⟨rfl, ⟨h1, hc⟩, hi, hd⟩ := h
  have hL := seg_len h1
  have hp30 := path_30 hc (i := i) (by omega)
  have hsg := seg_all (pathL (seg l s n) i)
  have hW : ∀ j ∈ seg (pathL (seg l s n) i) 0 (pathL (seg l s n) i).length, 0 ≤ j ∧ j < (seg l s n).length := fun j hj => by
    rw [hsg] at hj; have := path_mem hc (i := i) (by omega) j hj; omega
  refine funW tabOk (E := [(45, s_path), (63, s_none), (108, s_alongI)]) ⟨ok_pathI, ok_none, ok_alongI, trivial⟩ [] (k := 2) (fn := Tryz.f42) rfl rfl rfl rfl rfl rfl ?_
  (repeat' ((try (conv => whnf)); first | (with_reducible first | refine And.intro ?_ ?_ | refine WX.of ?_) | exact zc | ((with_reducible refine VC.mk ?_); exact zw) | ((with_reducible refine VC.mk ?_); exact ⟨h1, hc, hi.2⟩) | ((with_reducible refine VC.mk ?_); exact ⟨rfl, ⟨h1, hc⟩, ⟨by omega, by omega, hW⟩, hd, smS_0⟩) | (with_reducible first | refine splitT ?_ | refine splitF ?_) | ((with_reducible refine splitM.mk (fun hsm => ?_) (fun hsm => ?_)) <;> (try exact zx)) | ((with_reducible refine splitB.mk (fun h => ?_) (fun h => ?_)) <;> (try simp only [zs, ne_eq] at h) <;> (try simp (disch := omega) only [w64] at h) <;> (try exact zx)) | (with_reducible intro hz; (try exact absurd hz (Nat.succ_ne_zero _)))))
  all_goals exact ⟨by rw [hsg]⟩
def s_l05Span : Spec := fun args S => match args, S with
  | [.sl 0 s n x, .int .i64 i, .int .i64 day], [.arr (.prod .str (.prod (.int .i64) (.prod (.prod (.prod (.int .i64) (.int .i64)) (.prod (.int .i64) (.int .i64))) (.prod (.prod (.int .i64) (.int .i64)) (.prod (.int .i64) (.int .i64)))))) l 10 wr] => ⟨(s + n ≤ l.length ∧ chB (seg l s n) = true) ∧ (0 ≤ i ∧ i < n) ∧ (0 ≤ day ∧ day ≤ 100000), .tup [.agg [.int .i64 (coV 0 (gdB (stAt (seg l s n) i) day) (soO (seg l s n) i day)).1.1, .int .i64 (coV 0 (gdB (stAt (seg l s n) i) day) (soO (seg l s n) i day)).1.2, .int .i64 (coV 0 (gdB (stAt (seg l s n) i) day) (soO (seg l s n) i day)).2.1, .int .i64 (coV 0 (gdB (stAt (seg l s n) i) day) (soO (seg l s n) i day)).2.2], .int .i64 (coC 0 (gdB (stAt (seg l s n) i) day) (soO (seg l s n) i day))], [.arr (.prod .str (.prod (.int .i64) (.prod (.prod (.prod (.int .i64) (.int .i64)) (.prod (.int .i64) (.int .i64))) (.prod (.prod (.int .i64) (.int .i64)) (.prod (.int .i64) (.int .i64)))))) l 10 wr]⟩
  | _, _ => noSpec
theorem ok_l05Span : SpecOk Tryz.prog 65 s_l05Span := by
  intro args S h; unfold s_l05Span at h ⊢; (split at h <;> first | exact False.elim h | skip)
  dsimp only at h ⊢
  rename_i s n x i day l wr
  obtain ⟨⟨h1, hc⟩, hi, hd⟩ := h
  have hL := seg_len h1
  have hp30 := path_30 hc (i := i) (by omega)
  have hsg := seg_all (pathL (seg l s n) i)
  have hW : ∀ j ∈ seg (pathL (seg l s n) i) 0 (pathL (seg l s n) i).length, 0 ≤ j ∧ j < (seg l s n).length := fun j hj => by
    rw [hsg] at hj; have := path_mem hc (i := i) (by omega) j hj; omega
  obtain ⟨a, ha, hst, ho⟩ := ch_z hc (i := i) (by omega)
  have hla := (seg_get ha).1
  have hgo : s + i.toNat < l.length ∧ (0 ≤ ((l[s + i.toNat]?).getD stD).2.2.2.2.1 ∧ ((l[s + i.toNat]?).getD stD).2.2.2.2.1 ≤ 100000) ∧ 0 ≤ ((l[s + i.toNat]?).getD stD).2.2.2.2.2 ∧ ((l[s + i.toNat]?).getD stD).2.2.2.2.2 ≤ 100000 := by
    rw [hla]; exact ⟨(List.getElem?_eq_some_iff.1 hla).1, ho.md, ho.gd⟩
  have hgd : gdB ((l[s + i.toNat]?).getD stD) day = gdB (stAt (seg l s n) i) day := by rw [hla, hst]; rfl
  rw [← hgd]
  refine funW tabOk (E := [(52, s_l05Good), (53, s_path), (119, s_none), (118, s_alongS)]) ⟨ok_l05Good, ok_l05Path, ok_l05Nothing, ok_l05Along, trivial⟩ [] (k := 1) (fn := Tryz.f65) rfl rfl rfl rfl rfl rfl ?_
  (repeat' ((try (conv => whnf)); first | (with_reducible first | refine And.intro ?_ ?_ | refine WX.of ?_) | exact zc | ((with_reducible refine VC.mk ?_); exact zw) | ((with_reducible refine VC.mk ?_); exact hi) | ((with_reducible refine VC.mk ?_); exact hgo) | ((with_reducible refine VC.mk ?_); exact ⟨h1, hc, hi.2⟩) | ((with_reducible refine VC.mk ?_); exact ⟨⟨h1, hc⟩, ⟨by omega, by omega, hW⟩, hd, smS_0⟩) | (with_reducible first | refine splitT ?_ | refine splitF ?_) | ((with_reducible refine splitM.mk (fun hsm => ?_) (fun hsm => ?_)) <;> (try exact zx)) | ((with_reducible refine splitB.mk (fun h => ?_) (fun h => ?_)) <;> (try simp only [zs, ne_eq] at h) <;> (try simp (disch := omega) only [w64] at h) <;> (try exact zx)) | (with_reducible intro hz; (try exact absurd hz (Nat.succ_ne_zero _)))))
  · exact ⟨by rw [(co_2 h).1, (co_2 h).2]⟩
  · exact ⟨by rw [(co_3 h).1, (co_3 h).2, hsg]; rfl⟩
def s_SpanOn : Spec := fun args S => match args, S with
  | [.sl 0 s n x, .int .i64 i, .int .i64 day], [.arr (.prod .str (.prod (.int .i64) (.prod (.prod (.prod (.int .i64) (.int .i64)) (.prod (.int .i64) (.int .i64))) (.prod (.prod (.int .i64) (.int .i64)) (.prod (.int .i64) (.int .i64)))))) l 10 wr] => ⟨chP s n l, .tup [.agg [.int .i64 (soV (seg l s n) i day).1.1, .int .i64 (soV (seg l s n) i day).1.2, .int .i64 (soV (seg l s n) i day).2.1, .int .i64 (soV (seg l s n) i day).2.2], .int .i64 (soC (seg l s n) i day)], [.arr (.prod .str (.prod (.int .i64) (.prod (.prod (.prod (.int .i64) (.int .i64)) (.prod (.int .i64) (.int .i64))) (.prod (.prod (.int .i64) (.int .i64)) (.prod (.int .i64) (.int .i64)))))) l 10 wr]⟩
  | _, _ => noSpec
theorem ok_SpanOnI : SpecOk Tryz.prog 11 s_SpanOn := by
  intro args S h; unfold s_SpanOn at h ⊢; (split at h <;> first | exact False.elim h | skip)
  dsimp only at h ⊢
  rename_i s n x i day l wr
  have hq := h
  have hL := seg_len h.1.1
  unfold soV soC
  by_cases hcc : ccC (seg l s n) [i] [day] = 0
  rotate_left 1
  · rw [(co_1 hcc).1, (co_1 hcc).2]
    have hcc : ¬ ccC (seg l s n) (seg [i] 0 1) (seg [day] 0 1) = 0 := hcc
    refine funW tabOk (E := [(39, s_chC)]) ⟨ok_chainCode, trivial⟩ [] (k := 1) (fn := Tryz.f11) rfl rfl rfl rfl rfl rfl ?_
    (repeat' ((try (conv => whnf)); first | (with_reducible first | refine And.intro ?_ ?_ | refine WX.of ?_) | exact zc | ((with_reducible refine VC.mk ?_); exact zw) | ((with_reducible refine VC.mk ?_); exact ⟨hq, ⟨Nat.le_refl 1, by omega⟩, Nat.le_refl 1, by omega⟩) | ((with_reducible refine splitT_of ?_ ?_); (focus (simp only [hcc, Bool.not_true, Bool.not_false, decide_true, decide_false]; done))) | ((with_reducible refine splitF_of ?_ ?_); (focus (simp only [hcc, Bool.not_true, Bool.not_false, decide_true, decide_false]; done))) | (with_reducible first | refine splitT ?_ | refine splitF ?_) | ((with_reducible refine splitM.mk (fun hsm => ?_) (fun hsm => ?_)) <;> (try exact zx)) | ((with_reducible refine splitB.mk (fun h => ?_) (fun h => ?_)) <;> (try simp only [zs, ne_eq] at h) <;> (try simp (disch := omega) only [w64] at h) <;> (try exact zx)) | (with_reducible intro hz; (try exact absurd hz (Nat.succ_ne_zero _)))))
  · rw [hcc]
    obtain ⟨hc, h1, h2⟩ := cc_ok hcc
    have hi := ir_n (h1 i (by simp)) hL
    have hd := h2 day (by simp)
    obtain ⟨⟨nm, fr, ⟨⟨p, q⟩, p', q'⟩, ⟨dp, dq⟩, md, gd⟩, ha, hst, ho⟩ := ch_z hc (i := i) (by omega)
    have hgb : (0 ≤ md ∧ md ≤ 100000) ∧ 0 ≤ gd ∧ gd ≤ 100000 := ⟨ho.md, ho.gd⟩
    rw [hst]
    have hcc : ccC (seg l s n) (seg [i] 0 1) (seg [day] 0 1) = 0 := hcc
    refine funW tabOk (E := [(39, s_chC), (40, s_good), (42, s_spanOnC), (41, s_spanC)]) ⟨ok_chainCode, ok_good, ok_spanOnC, ok_spanC, trivial⟩ [] (k := 1) (fn := Tryz.f11) rfl rfl rfl rfl rfl rfl ?_
    (repeat' ((try (conv => whnf)); first | (with_reducible first | refine And.intro ?_ ?_ | refine WX.of ?_) | exact zc | ((with_reducible refine VC.mk ?_); exact zw) | with_reducible refine atL_p (seg_get ha).1 ?_ | ((with_reducible refine VC.mk ?_); exact ⟨hq, ⟨Nat.le_refl 1, by omega⟩, Nat.le_refl 1, by omega⟩) | ((with_reducible refine VC.mk ?_); exact hi) | ((with_reducible refine VC.mk ?_); exact hgb) | ((with_reducible refine VC.mk ?_); exact ⟨rfl, ⟨hq.1.1, hc⟩, hi, hd⟩) | ((with_reducible refine splitT_of ?_ ?_); (focus (simp only [hcc, Bool.not_true, Bool.not_false, decide_true, decide_false]; done))) | ((with_reducible refine splitF_of ?_ ?_); (focus (simp only [hcc, Bool.not_true, Bool.not_false, decide_true, decide_false]; done))) | (with_reducible first | refine splitT ?_ | refine splitF ?_) | ((with_reducible refine splitM.mk (fun hsm => ?_) (fun hsm => ?_)) <;> (try exact zx)) | ((with_reducible refine splitB.mk (fun h => ?_) (fun h => ?_)) <;> (try simp only [zs, ne_eq] at h) <;> (try simp (disch := omega) only [w64] at h) <;> (try exact zx)) | (with_reducible intro hz; (try exact absurd hz (Nat.succ_ne_zero _)))))
    · exact ⟨by rw [(co_2 h).1, (co_2 h).2]⟩
    · refine ⟨?_⟩
      rw [(co_3 h).1, (co_3 h).2]
      unfold soO
      rcases al_tol (seg l s n) day (pathL (seg l s n) i) ((0, 1), 0, 1) with ⟨hb, ho⟩ | ⟨hb, ho⟩
      · rw [ho]; simp only [hb, if_true]; rfl
      · rw [ho]; simp only [hb, if_false, Bool.false_eq_true]; rfl
theorem ok_SpanOnS : SpecOk Tryz.prog 73 s_SpanOn := by
  intro args S h; unfold s_SpanOn at h ⊢; (split at h <;> first | exact False.elim h | skip)
  dsimp only at h ⊢
  rename_i s n x i day l wr
  have hq := h
  have hL := seg_len h.1.1
  unfold soV soC
  by_cases hcc : ccC (seg l s n) [i] [day] = 0
  rotate_left 1
  · rw [(co_1 hcc).1, (co_1 hcc).2]
    refine funW tabOk (E := [(51, s_l05At)]) ⟨ok_l05At, trivial⟩ [] (k := 1) (fn := Tryz.f73) rfl rfl rfl rfl rfl rfl ?_
    (repeat' ((try (conv => whnf)); first | (with_reducible first | refine And.intro ?_ ?_ | refine WX.of ?_) | exact zc | ((with_reducible refine VC.mk ?_); exact zw) | ((with_reducible refine VC.mk ?_); exact hq) | ((with_reducible refine splitT_of ?_ ?_); (focus (simp only [hcc, Bool.not_true, Bool.not_false, decide_true, decide_false]; done))) | ((with_reducible refine splitF_of ?_ ?_); (focus (simp only [hcc, Bool.not_true, Bool.not_false, decide_true, decide_false]; done))) | (with_reducible first | refine splitT ?_ | refine splitF ?_) | ((with_reducible refine splitM.mk (fun hsm => ?_) (fun hsm => ?_)) <;> (try exact zx)) | ((with_reducible refine splitB.mk (fun h => ?_) (fun h => ?_)) <;> (try simp only [zs, ne_eq] at h) <;> (try simp (disch := omega) only [w64] at h) <;> (try exact zx)) | (with_reducible intro hz; (try exact absurd hz (Nat.succ_ne_zero _)))))
  · rw [hcc]
    obtain ⟨hc, h1, h2⟩ := cc_ok hcc
    have hi := ir_n (h1 i (by simp)) hL
    have hd := h2 day (by simp)
    refine funW tabOk (E := [(51, s_l05At), (65, s_l05Span)]) ⟨ok_l05At, ok_l05Span, trivial⟩ [] (k := 1) (fn := Tryz.f73) rfl rfl rfl rfl rfl rfl ?_
    (repeat' ((try (conv => whnf)); first | (with_reducible first | refine And.intro ?_ ?_ | refine WX.of ?_) | exact zc | ((with_reducible refine VC.mk ?_); exact zw) | ((with_reducible refine VC.mk ?_); exact hq) | ((with_reducible refine VC.mk ?_); exact ⟨⟨hq.1.1, hc⟩, hi, hd⟩) | ((with_reducible refine splitT_of ?_ ?_); (focus (simp only [hcc, Bool.not_true, Bool.not_false, decide_true, decide_false]; done))) | ((with_reducible refine splitF_of ?_ ?_); (focus (simp only [hcc, Bool.not_true, Bool.not_false, decide_true, decide_false]; done))) | (with_reducible first | refine splitT ?_ | refine splitF ?_) | ((with_reducible refine splitM.mk (fun hsm => ?_) (fun hsm => ?_)) <;> (try exact zx)) | ((with_reducible refine splitB.mk (fun h => ?_) (fun h => ?_)) <;> (try simp only [zs, ne_eq] at h) <;> (try simp (disch := omega) only [w64] at h) <;> (try exact zx)) | (with_reducible intro hz; (try exact absurd hz (Nat.succ_ne_zero _)))))
end Go.Proofs.YtonnkpclllmkoaaGreat.Eng
set_option linter.unusedVariables false
set_option linter.unusedSimpArgs false
namespace Go.Proofs.YtonnkpclllmkoaaGreat.Eng
open Go Go.RowKit
set_option maxRecDepth 100000
theorem spB_0 : spB ((0, 1), 0, 1) = true := by decide
theorem so_sp {L : List StT} {i day : Int} (h : soC L i day = 0) : spB (soV L i day) = true ∧ chB L = true ∧ (0 ≤ i ∧ i < L.length) ∧ (0 ≤ day ∧ day ≤ 100000) ∧ gdB (stAt L i) day = true ∧ soO L i day = some (soV L i day) := by
  unfold soC soV at *
  by_cases hcc : ccC L [i] [day] = 0
  · rw [hcc] at h ⊢
    obtain ⟨hc, h1, h2⟩ := cc_ok hcc
    have hi := h1 i (by simp)
    have hd := h2 day (by simp)
    cases hg : gdB (stAt L i) day with
    | false => rw [hg, (co_2 rfl).1] at h; simp at h
    | true =>
      rw [hg, (co_3 rfl).1] at h
      rw [(co_3 rfl).2]
      obtain ⟨v, hv⟩ := oCS_s h
      rw [hv]
      refine ⟨?_, hc, hi, hd, rfl, rfl⟩
      unfold gdB at hg
      simp only [decide_eq_true_eq] at hg
      exact al_sp hc (fun j hj => by have := path_mem hc hi.2 j hj; omega) (path_upz hc hi.2 fun _ => hg.1) spB_0 hv
  · rw [(co_1 hcc).1] at h; exact absurd h hcc
end Go.Proofs.YtonnkpclllmkoaaGreat.Eng
set_option linter.unusedVariables false
set_option linter.unusedSimpArgs false
namespace Go.Proofs.YtonnkpclllmkoaaGreat.Eng
open Go Go.RowKit
set_option maxRecDepth 100000
theorem Tol.bind {o : Option SpT} {v : SpT} {b : Bool} {f : SpT → Option SpT} {v' : SpT} {b' : Bool} (h : Tol o v b) (h' : Tol (f v) v' b') : Tol (o.bind f) v' (b || b') := by
  rcases h with ⟨h1, h2⟩ | ⟨h1, h2⟩
  · subst h1; subst h2; exact .inl ⟨rfl, rfl⟩
  · subst h1; subst h2; simpa using h'
theorem mi_tol (s t : SpT) : Tol (miO s t) (miV s t) (!(sbO s.1 t.2).isSome || !(sbO s.2 t.1).isSome) := sp_tol _ _
end Go.Proofs.YtonnkpclllmkoaaGreat.Eng
set_option linter.unusedVariables false
set_option linter.unusedSimpArgs false
namespace Go.Proofs.YtonnkpclllmkoaaGreat.Eng
open Go Go.RowKit
set_option maxRecDepth 100000
theorem pr_eta {α β : Type} (p : α × β) : (p.1, p.2) = p := rfl
/-- A length at 0 degrees. -/
def bkO (g1 g2 w a : FrT) : Option FrT := (stO g1 w).bind fun c => (stO g2 w).bind fun t => (muO a c).bind fun d => dvO d t
def lnO (g1 g2 w f k : FrT) : Option FrT := (sbO k f).bind fun d => bkO g1 g2 w d
def lnT (g : FrT) (T : List ThT) (c : ShT) (f k : FrT) : Option FrT := lnO g (thAt T c).2.2 c.2.1 f k
/-- What cold answers, and what it notes. -/
def bkV (g1 g2 w a : FrT) : FrT := tv (dvO (tv (muO a (stV g1 w))) (stV g2 w))
def bkB (g1 g2 w a : FrT) : Bool := !(stO g1 w).isSome || !(muO a (stV g1 w)).isSome || !(stO g2 w).isSome || !(dvO (tv (muO a (stV g1 w))) (stV g2 w)).isSome
theorem bk_e (g1 g2 w a : FrT) : bkB g1 g2 w a = !(bkO g1 g2 w a).isSome ∧ ∀ v, bkO g1 g2 w a = some v → bkV g1 g2 w a = v := by
  unfold bkB bkV bkO
  cases h1 : stO g1 w with
  | none => simp
  | some c =>
    rw [stV_e h1]
    simp only [Option.bind_some]
    cases h2 : stO g2 w with
    | none => simp
    | some t =>
      rw [stV_e h2]
      simp only [Option.bind_some]
      cases h3 : muO a c with
      | none => simp
      | some d =>
        simp only [Option.bind_some, tv, Option.getD_some, Option.isSome_some, Bool.not_true, Bool.false_or, true_and]
        intro v h4; rw [h4]; rfl
theorem smF_sb (a b : FrT) : smF (tv (sbO a b)).1 (tv (sbO a b)).2 := smF_rO _ _
def s_cold : Spec := fun args S => match args, S with
  | [.ptr b 0 0, .agg [.int .i64 up, .int .i64 uq, .sl 1 s n x, .int .i64 vp, .bool vb, .int .i64 gp, .int .i64 gq, .sl 2 t m y], .agg [.int .i64 i, .int .i64 wp, .int .i64 wq, .int .i64 sp, .int .i64 sq], .agg [.int .i64 ap, .int .i64 aq]], [.arr .bool [bad] 0 true, .arr (.prod (.int .i64) (.int .i64)) l 2 wr, .arr (.prod .str (.prod (.prod (.int .i64) (.int .i64)) (.prod (.int .i64) (.int .i64)))) T 5 wT] => ⟨b = 0 ∧ (t + m ≤ T.length ∧ m ≤ 1048576) ∧ (0 ≤ i ∧ i ≤ (m : Int) - 1) ∧ smF gp gq ∧ smF wp wq ∧ smF ap aq ∧ ∀ (a : ThT), (seg T t m)[i.toNat]? = some a → smF a.2.2.1 a.2.2.2, .agg [.int .i64 (bkV (gp, gq) (thAt (seg T t m) (i, (wp, wq), sp, sq)).2.2 (wp, wq) (ap, aq)).1, .int .i64 (bkV (gp, gq) (thAt (seg T t m) (i, (wp, wq), sp, sq)).2.2 (wp, wq) (ap, aq)).2], [.arr .bool [bad || bkB (gp, gq) (thAt (seg T t m) (i, (wp, wq), sp, sq)).2.2 (wp, wq) (ap, aq)] 0 true, .arr (.prod (.int .i64) (.int .i64)) l 2 wr, .arr (.prod .str (.prod (.prod (.int .i64) (.int .i64)) (.prod (.int .i64) (.int .i64)))) T 5 wT]⟩
  | _, _ => noSpec
set_option maxHeartbeats 1600000 in
theorem ok_cold : SpecOk Tryz.prog 181 s_cold := by
  intro args S h; unfold s_cold at h ⊢; (split at h <;> first | exact False.elim h | skip)
  dsimp only at h ⊢
  rename_i b up uq s n x vp vb gp gq t m y i wp wq sp sq ap aq bad l wr T wT
  obtain ⟨rfl, h1, hi, hg, hw, ha0, hth⟩ := h
  have hM := seg_len h1.1
  obtain ⟨⟨nm, ⟨Lp, Lq⟩, tp, tq⟩, ha⟩ := get_some (l := seg T t m) (i := i.toNat) (by omega)
  have e : thAt (seg T t m) (i, (wp, wq), sp, sq) = (nm, (Lp, Lq), tp, tq) := by unfold thAt; rw [ha]; rfl
  have hsf := hth _ ha
  dsimp only at hsf
  rw [e]
  have h2 := smF_st (gp, gq) (wp, wq)
  have h3 := smF_st (tp, tq) (wp, wq)
  have h4 := smF_mu (ap, aq) (stV (gp, gq) (wp, wq))
  refine funW tabOk (E := [(176, s_strO), (48, s_mulO), (179, s_divO)]) ⟨ok_strO, ok_mulO, ok_divO, trivial⟩ [(1, [(2, 1), (12, 0), (12, 1), (14, 0), (14, 1), (17, 0), (17, 1), (19, 0), (19, 1)])] (k := 3) (fn := Tryz.f181) rfl rfl rfl rfl rfl rfl ?_
  (repeat' ((try (conv => whnf)); first | (with_reducible first | refine And.intro ?_ ?_ | refine WX.of ?_) | exact zc | ((with_reducible refine VC.mk ?_); exact zw) | ((with_reducible refine VC.mk ?_); exact ⟨rfl, hg, hw⟩) | ((with_reducible refine VC.mk ?_); exact ⟨rfl, hsf, hw⟩) | ((with_reducible refine VC.mk ?_); exact ⟨rfl, ha0, h2⟩) | ((with_reducible refine VC.mk ?_); exact ⟨rfl, h4, h3⟩) | ((with_reducible refine VC.mk ?_); exact hi) | with_reducible refine atL_p (seg_get ha).1 ?_ | (with_reducible first | refine splitT ?_ | refine splitF ?_) | ((with_reducible refine splitM.mk (fun hsm => ?_) (fun hsm => ?_)) <;> (try exact zx)) | ((with_reducible refine splitB.mk (fun h => ?_) (fun h => ?_)) <;> (try simp only [zs, ne_eq] at h) <;> (try simp (disch := omega) only [w64] at h) <;> (try exact zx)) | (with_reducible intro hz; (try exact absurd hz (Nat.succ_ne_zero _)))))
  all_goals exact ⟨by simp only [bkB, Bool.or_assoc]⟩
theorem st_pos {g w t : FrT} (hg : gwB g.1 g.2 = true) (hw : fOk w.1 w.2 = true) (ha : (w.1.natAbs : Int) ≤ 100 * w.2) (h : stO g w = some t) : 0 < t.1 := by
  obtain ⟨g1, g2⟩ := g
  obtain ⟨w1, w2⟩ := w
  dsimp only at hg hw ha
  unfold gwB at hg
  simp only [Bool.and_eq_true, decide_eq_true_eq] at hg
  obtain ⟨⟨hgf, hg0⟩, hgk⟩ := hg
  have hgs := smF_ok hgf
  have hws := smF_ok hw
  unfold smF at hgs hws
  have a1 : 1000 * g1 * (w1.natAbs : Int) ≤ g2 * (100 * w2) := Int.mul_le_mul hgk ha (by omega) (by omega)
  have a2 : g1 * (-(w1.natAbs : Int)) ≤ g1 * w1 := Int.mul_le_mul_of_nonneg_left (by omega) hg0
  have a3 := mulPos hgs.2.1 hws.2.1
  have e1 : 1000 * g1 * (w1.natAbs : Int) = 1000 * (g1 * (w1.natAbs : Int)) := Int.mul_assoc ..
  have e2 : g2 * (100 * w2) = 100 * (g2 * w2) := Int.mul_left_comm ..
  rw [e1, e2] at a1
  rw [Int.mul_neg] at a2
  unfold stO at h
  cases hm : muO (g1, g2) (w1, w2) with
  | none => rw [hm] at h; simp at h
  | some m =>
    rw [hm] at h
    simp only [Option.bind_some] at h
    unfold muO rO at hm
    split at hm
    · obtain rfl := Option.some.inj hm
      dsimp only at h
      have b1 := red_back (p := g1 * w1) (q := g2 * w2) (by omega)
      have hG := redG_pos (p := g1 * w1) (q := g2 * w2) (by omega)
      have hQ := redQ_pos (p := g1 * w1) (q := g2 * w2) (by omega)
      unfold adO rO at h
      split at h
      · obtain rfl := Option.some.inj h
        dsimp only
        have hX : 0 < 1 * redQ (g1 * w1) (g2 * w2) + redP (g1 * w1) (g2 * w2) * 1 := by
          apply Classical.byContradiction; intro hn
          have : redG (g1 * w1) (g2 * w2) * (1 * redQ (g1 * w1) (g2 * w2) + redP (g1 * w1) (g2 * w2) * 1) ≤ 0 := by
            have := Int.mul_nonneg (show 0 ≤ redG (g1 * w1) (g2 * w2) by omega) (show 0 ≤ -(1 * redQ (g1 * w1) (g2 * w2) + redP (g1 * w1) (g2 * w2) * 1) by omega)
            rw [Int.mul_neg] at this; omega
          rw [Int.mul_add, Int.one_mul, Int.mul_one, ← b1.1, ← b1.2] at this
          omega
        have b2 := red_back (p := 1 * redQ (g1 * w1) (g2 * w2) + redP (g1 * w1) (g2 * w2) * 1) (q := 1 * redQ (g1 * w1) (g2 * w2)) (by omega)
        have hG2 := redG_pos (p := 1 * redQ (g1 * w1) (g2 * w2) + redP (g1 * w1) (g2 * w2) * 1) (q := 1 * redQ (g1 * w1) (g2 * w2)) (by omega)
        apply Classical.byContradiction; intro hn
        have := Int.mul_nonneg (show 0 ≤ redG (1 * redQ (g1 * w1) (g2 * w2) + redP (g1 * w1) (g2 * w2) * 1) (1 * redQ (g1 * w1) (g2 * w2)) by omega) (show 0 ≤ -redP (1 * redQ (g1 * w1) (g2 * w2) + redP (g1 * w1) (g2 * w2) * 1) (1 * redQ (g1 * w1) (g2 * w2)) by omega)
        rw [Int.mul_neg, ← b2.1] at this
        omega
      · simp at h
    · simp at hm
def s_rdgC : Spec := fun args S => match args, S with
  | [.agg [.int .i64 up, .int .i64 uq, .sl 0 s n x, .int .i64 vp, .bool vb, .int .i64 gp, .int .i64 gq, .sl 1 t m y], .agg [.int .i64 i, .int .i64 wp, .int .i64 wq, .int .i64 sp, .int .i64 sq], .agg [.int .i64 fp, .int .i64 fq], .agg [.int .i64 kp, .int .i64 kq]], [.arr (.prod (.int .i64) (.int .i64)) l 2 wr, .arr (.prod .str (.prod (.prod (.int .i64) (.int .i64)) (.prod (.int .i64) (.int .i64)))) T 5 wT] => ⟨(s + n ≤ l.length ∧ n ≤ 1048576) ∧ (t + m ≤ T.length ∧ m ≤ 1048576) ∧ ∀ (j : Nat) (a : ThT), T[j]? = some a → a.1.length < 9223372036854775808, .int .i64 (if (bnB up uq vp gp gq (seg l s n) (seg T t m) && shB m (i, (wp, wq), sp, sq) && (fOk fp fq && fOk kp kq)) = true then 0 else 1), [.arr (.prod (.int .i64) (.int .i64)) l 2 wr, .arr (.prod .str (.prod (.prod (.int .i64) (.int .i64)) (.prod (.int .i64) (.int .i64)))) T 5 wT]⟩
  | _, _ => noSpec
theorem ok_readingsCode : SpecOk Tryz.prog 180 s_rdgC := by
  intro args S h; unfold s_rdgC at h ⊢; (split at h <;> first | exact False.elim h | skip)
  dsimp only at h ⊢
  rename_i up uq s n x vp vb gp gq t m y i wp wq sp sq fp fq kp kq l wr T wT
  have hq := h
  refine funW tabOk (E := [(187, s_vShot), (61, s_allF)]) ⟨ok_ValidShotI, ok_areValid, trivial⟩ [] (k := 2) (fn := Tryz.f180) rfl rfl rfl rfl rfl rfl ?_
  (repeat' ((try (conv => whnf)); first | (with_reducible first | refine And.intro ?_ ?_ | refine WX.of ?_) | exact zc | ((with_reducible refine VC.mk ?_); exact zw) | ((with_reducible refine VC.mk ?_); exact hq) | ((with_reducible refine VC.mk ?_); exact ⟨Nat.le_refl 2, (by omega)⟩) | (with_reducible first | refine splitT ?_ | refine splitF ?_) | ((with_reducible refine splitM.mk (fun hsm => ?_) (fun hsm => ?_)) <;> (try exact zx)) | ((with_reducible refine splitB.mk (fun h => ?_) (fun h => ?_)) <;> (try simp only [zs, ne_eq] at h) <;> (try simp (disch := omega) only [w64] at h) <;> (try exact zx)) | (with_reducible intro hz; (try exact absurd hz (Nat.succ_ne_zero _)))))
  all_goals (first | (rw [allF_two] at h) | skip)
  all_goals exact ⟨by simp_all⟩
theorem bn_sf {up uq vp gp gq : Int} {E : List (Int × Int)} {T : List ThT} (h : bnB up uq vp gp gq E T = true) {k : Nat} : ∀ (a : ThT), T[k]? = some a → smF a.2.2.1 a.2.2.2 := fun a ha => smF_ok (bn_at h ha).2.1
def s_len : Spec := fun args S => match args, S with
  | [.agg [.int .i64 up, .int .i64 uq, .sl 0 s n x, .int .i64 vp, .bool vb, .int .i64 gp, .int .i64 gq, .sl 1 t m y], .agg [.int .i64 i, .int .i64 wp, .int .i64 wq, .int .i64 sp, .int .i64 sq], .agg [.int .i64 fp, .int .i64 fq], .agg [.int .i64 kp, .int .i64 kq]], [.arr (.prod (.int .i64) (.int .i64)) l 2 wr, .arr (.prod .str (.prod (.prod (.int .i64) (.int .i64)) (.prod (.int .i64) (.int .i64)))) T 5 wT] => ⟨(s + n ≤ l.length ∧ n ≤ 1048576) ∧ (t + m ≤ T.length ∧ m ≤ 1048576) ∧ ∀ (j : Nat) (a : ThT), T[j]? = some a → a.1.length < 9223372036854775808, .tup [.agg [.int .i64 (if okC (bnB up uq vp gp gq (seg l s n) (seg T t m) && shB m (i, (wp, wq), sp, sq) && (fOk fp fq && fOk kp kq)) (lnT (gp, gq) (seg T t m) (i, (wp, wq), sp, sq) (fp, fq) (kp, kq)) = 0 then (zv (lnT (gp, gq) (seg T t m) (i, (wp, wq), sp, sq) (fp, fq) (kp, kq))).1 else 0), .int .i64 (if okC (bnB up uq vp gp gq (seg l s n) (seg T t m) && shB m (i, (wp, wq), sp, sq) && (fOk fp fq && fOk kp kq)) (lnT (gp, gq) (seg T t m) (i, (wp, wq), sp, sq) (fp, fq) (kp, kq)) = 0 then (zv (lnT (gp, gq) (seg T t m) (i, (wp, wq), sp, sq) (fp, fq) (kp, kq))).2 else 0)], .int .i64 (okC (bnB up uq vp gp gq (seg l s n) (seg T t m) && shB m (i, (wp, wq), sp, sq) && (fOk fp fq && fOk kp kq)) (lnT (gp, gq) (seg T t m) (i, (wp, wq), sp, sq) (fp, fq) (kp, kq)))], [.arr (.prod (.int .i64) (.int .i64)) l 2 wr, .arr (.prod .str (.prod (.prod (.int .i64) (.int .i64)) (.prod (.int .i64) (.int .i64)))) T 5 wT]⟩
  | _, _ => noSpec
set_option maxHeartbeats 1600000 in
theorem ok_LengthFromI : SpecOk Tryz.prog 165 s_len := by
  intro args S h; unfold s_len at h ⊢; (split at h <;> first | exact False.elim h | skip)
  dsimp only at h ⊢
  rename_i up uq s n x vp vb gp gq t m y i wp wq sp sq fp fq kp kq l wr T wT
  have hq := h
  have hM := seg_len h.2.1.1
  cases hk : (bnB up uq vp gp gq (seg l s n) (seg T t m) && shB m (i, (wp, wq), sp, sq) && (fOk fp fq && fOk kp kq)) with
  | false =>
    refine funW tabOk (E := [(180, s_rdgC), (47, s_subO), (181, s_cold), (60, s_one)]) ⟨ok_readingsCode, ok_subO, ok_cold, ok_one, trivial⟩ [(5, [(2, 1), (3, 1)])] (k := 2) (fn := Tryz.f165) rfl rfl rfl rfl rfl rfl ?_
    (repeat' ((try (conv => whnf)); first | (with_reducible first | refine And.intro ?_ ?_ | refine WX.of ?_) | exact zc | ((with_reducible refine VC.mk ?_); exact zw) | ((with_reducible refine VC.mk ?_); exact hq) | (with_reducible first | refine splitT ?_ | refine splitF ?_) | ((with_reducible refine splitM.mk (fun hsm => ?_) (fun hsm => ?_)) <;> (try exact zx)) | ((with_reducible refine splitB.mk (fun h => ?_) (fun h => ?_)) <;> (try simp only [zs, ne_eq] at h) <;> (try simp (disch := omega) only [w64] at h) <;> (try exact zx)) | (with_reducible intro hz; (try exact absurd hz (Nat.succ_ne_zero _)))))
    · rw [hk]; exact ⟨by simp [okC]⟩
    all_goals (rw [hk] at h; simp at h)
  | true =>
    have hk2 := hk
    rw [Bool.and_eq_true, Bool.and_eq_true, Bool.and_eq_true] at hk2
    obtain ⟨⟨hb, hs0⟩, hf, hkk⟩ := hk2
    have hs := sh_at hs0
    have hgg := bn_g hb
    have hd := smF_sb (kp, kq) (fp, fq)
    have hsf := bn_sf hb (k := i.toNat)
    have hbk := bk_e (gp, gq) (thAt (seg T t m) (i, (wp, wq), sp, sq)).2.2 (wp, wq) (tv (sbO (kp, kq) (fp, fq)))
    refine funW tabOk (E := [(180, s_rdgC), (47, s_subO), (181, s_cold), (60, s_one)]) ⟨ok_readingsCode, ok_subO, ok_cold, ok_one, trivial⟩ [(5, [(2, 1), (3, 1)])] (k := 2) (fn := Tryz.f165) rfl rfl rfl rfl rfl rfl ?_
    (repeat' ((try (conv => whnf)); first | (with_reducible first | refine And.intro ?_ ?_ | refine WX.of ?_) | exact zc | ((with_reducible refine VC.mk ?_); exact zw) | ((with_reducible refine VC.mk ?_); exact hq) | ((with_reducible refine VC.mk ?_); exact ⟨rfl, smF_ok hkk, smF_ok hf⟩) | ((with_reducible refine VC.mk ?_); exact ⟨rfl, hq.2.1, hs.1, smF_ok hgg.1, smF_ok hs.2.1, hd, hsf⟩) | (with_reducible first | refine splitT ?_ | refine splitF ?_) | ((with_reducible refine splitM.mk (fun hsm => ?_) (fun hsm => ?_)) <;> (try exact zx)) | ((with_reducible refine splitB.mk (fun h => ?_) (fun h => ?_)) <;> (try simp only [zs, ne_eq] at h) <;> (try simp (disch := omega) only [w64] at h) <;> (try exact zx)) | (with_reducible intro hz; (try exact absurd hz (Nat.succ_ne_zero _)))))
    · rw [hk] at h; simp at h
    · refine ⟨?_⟩
      have hln : lnT (gp, gq) (seg T t m) (i, (wp, wq), sp, sq) (fp, fq) (kp, kq) = (sbO (kp, kq) (fp, fq)).bind fun d => bkO (gp, gq) (thAt (seg T t m) (i, (wp, wq), sp, sq)).2.2 (wp, wq) d := rfl
      rw [hln]
      clear hln
      dsimp only
      generalize (thAt (seg T t m) (i, (wp, wq), sp, sq)).2.2 = th at hbk ⊢
      simp only [pr_eta, hbk.1]
      have hb2 := hbk.2
      cases hsb : sbO (kp, kq) (fp, fq) with
      | none => simp [okC, oC, zv]
      | some dd =>
        rw [hsb] at hb2
        simp only [tv, Option.getD_some] at hb2 ⊢
        simp only [Option.bind_some]
        rcases (bkO (gp, gq) th (wp, wq) dd).eq_none_or_eq_some with hv | ⟨v, hv⟩
        · simp [okC, oC, zv, hv]
        · simp [okC, oC, zv, hv, hb2 v hv]
end Go.Proofs.YtonnkpclllmkoaaGreat.Eng
set_option linter.unusedVariables false
set_option linter.unusedSimpArgs false
namespace Go.Proofs.YtonnkpclllmkoaaGreat.Eng
open Go Go.RowKit
set_option maxRecDepth 100000
/-- The greatest size of an error, of the first i. -/
def wrN (E : List FrT) : Nat → FrT
  | 0 => (0, 1)
  | i + 1 => moF (wrN E i).1 (wrN E i).2 (((E[i]?).getD (0, 0)).1.natAbs : Int) ((E[i]?).getD (0, 0)).2
theorem wrN_sm {E : List FrT} (h : ∀ (j : Nat) (a : FrT), E[j]? = some a → smF a.1 a.2) : ∀ {i : Nat}, i ≤ E.length → smF (wrN E i).1 (wrN E i).2
  | 0, _ => smF_1 (n := 0) (by omega)
  | i + 1, hi => by
    obtain ⟨a, ha⟩ := get_some (l := E) (i := i) (by omega)
    rw [wrN, ha]
    exact smF_mo (wrN_sm h (by omega)) (smF_abs (h _ _ ha))
def s_worst : Spec := fun args S => match args, S with
  | [.agg [.int .i64 up, .int .i64 uq, .sl 0 s n x]], [.arr (.prod (.int .i64) (.int .i64)) l 2 wr] => ⟨(s + n ≤ l.length ∧ n ≤ 1048576) ∧ ∀ (j : Nat) (a : FrT), (seg l s n)[j]? = some a → smF a.1 a.2, .agg [.int .i64 (wrN (seg l s n) n).1, .int .i64 (wrN (seg l s n) n).2], [.arr (.prod (.int .i64) (.int .i64)) l 2 wr]⟩
  | _, _ => noSpec
theorem ok_worst : SpecOk Tryz.prog 190 s_worst := by
  intro args S h; unfold s_worst at h ⊢; (split at h <;> first | exact False.elim h | skip)
  dsimp only at h ⊢
  rename_i up uq s n x l wr
  obtain ⟨⟨h1, h2⟩, hE⟩ := h
  have hL := seg_len h1
  refine funW tabOk (E := [(46, s_zero), (163, s_size), (120, s_more)]) ⟨ok_zero, ok_size, ok_greater, trivial⟩ [(5, [(0, 1)])] (k := 1) (fn := Tryz.f190) rfl rfl rfl rfl rfl rfl ?_
  (repeat' ((try (conv => whnf)); first | (with_reducible first | refine And.intro ?_ ?_ | refine WX.of ?_) | exact zc | ((with_reducible refine VC.mk ?_); exact zw) | (with_reducible first | refine splitT ?_ | refine splitF ?_) | ((with_reducible refine splitM.mk (fun hsm => ?_) (fun hsm => ?_)) <;> (try exact zx)) | ((with_reducible refine splitB.mk (fun h => ?_) (fun h => ?_)) <;> (try simp only [zs, ne_eq] at h) <;> (try simp (disch := omega) only [w64] at h) <;> (try exact zx)) | (with_reducible intro hz; (try exact absurd hz (Nat.succ_ne_zero _)))))
  refine loopW tabOk (E := [(46, s_zero), (163, s_size), (120, s_more)]) ⟨ok_zero, ok_size, ok_greater, trivial⟩ [(5, [(0, 1)])] (σ := Nat) (fun i => [(2, .ptr 2 0 0), (3, .ptr 3 0 0), (8, .sl 0 s n x), (9, .int .i64 n), (10, .int .i64 i)]) (fun i => [.arr (.prod (.int .i64) (.int .i64)) l 2 wr, .gone, .arr (.prod (.int .i64) (.int .i64)) [(0, 0)] 0 true, .arr (.prod (.int .i64) (.int .i64)) [wrN (seg l s n) i] 0 true]) (fun i => n - i) (fun i => i ≤ n) 0 (Nat.zero_le _) ?_ ?_
  · (repeat' ((try (conv => whnf)); first | (with_reducible first | refine And.intro ?_ ?_ | refine WX.of ?_) | exact zc | ((with_reducible refine VC.mk ?_); exact zw) | (with_reducible first | refine splitT ?_ | refine splitF ?_) | ((with_reducible refine splitM.mk (fun hsm => ?_) (fun hsm => ?_)) <;> (try exact zx)) | ((with_reducible refine splitB.mk (fun h => ?_) (fun h => ?_)) <;> (try simp only [zs, ne_eq] at h) <;> (try simp (disch := omega) only [w64] at h) <;> (try exact zx)) | (with_reducible intro hz; (try exact absurd hz (Nat.succ_ne_zero _)))))
  · intro i hi
    have hw := wrN_sm hE (i := i) (by omega)
    by_cases hlt : i < n
    · obtain ⟨⟨p, q⟩, ha⟩ := get_some (l := seg l s n) (i := i) (by omega)
      have hs := hE _ _ ha
      have hst : wrN (seg l s n) (i + 1) = moF (wrN (seg l s n) i).1 (wrN (seg l s n) i).2 (p.natAbs : Int) q := by rw [wrN, ha]; rfl
      (repeat' ((try (conv => whnf)); first | (with_reducible first | refine And.intro ?_ ?_ | refine WX.of ?_) | exact zc | ((with_reducible refine VC.mk ?_); exact zw) | with_reducible refine atL_i ha ?_ | ((with_reducible refine VC.mk ?_); exact hs) | ((with_reducible refine VC.mk ?_); exact ⟨hw, smF_abs hs⟩) | (with_reducible first | refine splitT ?_ | refine splitF ?_) | ((with_reducible refine splitM.mk (fun hsm => ?_) (fun hsm => ?_)) <;> (try exact zx)) | ((with_reducible refine splitB.mk (fun h => ?_) (fun h => ?_)) <;> (try simp only [zs, ne_eq] at h) <;> (try simp (disch := omega) only [w64] at h) <;> (try exact zx)) | (with_reducible intro hz; (try exact absurd hz (Nat.succ_ne_zero _)))))
      refine ⟨i + 1, by omega, hlt, ?_⟩
      (repeat' ((try (conv => whnf)); first | (with_reducible first | refine And.intro ?_ ?_ | refine WX.of ?_) | exact zc | ((with_reducible refine VC.mk ?_); exact zw) | (with_reducible first | refine splitT ?_ | refine splitF ?_) | ((with_reducible refine splitM.mk (fun hsm => ?_) (fun hsm => ?_)) <;> (try exact zx)) | ((with_reducible refine splitB.mk (fun h => ?_) (fun h => ?_)) <;> (try simp only [zs, ne_eq] at h) <;> (try simp (disch := omega) only [w64] at h) <;> (try exact zx)) | (with_reducible intro hz; (try exact absurd hz (Nat.succ_ne_zero _)))))
      all_goals exact ⟨by rw [hst]; rfl⟩
    · obtain rfl : i = n := by omega
      (repeat' ((try (conv => whnf)); first | (with_reducible first | refine And.intro ?_ ?_ | refine WX.of ?_) | exact zc | ((with_reducible refine VC.mk ?_); exact zw) | (with_reducible first | refine splitT ?_ | refine splitF ?_) | ((with_reducible refine splitM.mk (fun hsm => ?_) (fun hsm => ?_)) <;> (try exact zx)) | ((with_reducible refine splitB.mk (fun h => ?_) (fun h => ?_)) <;> (try simp only [zs, ne_eq] at h) <;> (try simp (disch := omega) only [w64] at h) <;> (try exact zx)) | (with_reducible intro hz; (try exact absurd hz (Nat.succ_ne_zero _)))))
def s_l02Worst : Spec := fun args S => match args, S with
  | [.ptr 0 0 0], [.box [.int .i64 up, .int .i64 uq, .sl 1 s n x, .int .i64 vp, .bool vb, .int .i64 gp, .int .i64 gq, .sl 2 t m y] true false, .arr (.prod (.int .i64) (.int .i64)) l 2 wr, .arr (.prod .str (.prod (.prod (.int .i64) (.int .i64)) (.prod (.int .i64) (.int .i64)))) T 5 wT] => ⟨(s + n ≤ l.length ∧ n ≤ 1048576) ∧ ∀ (j : Nat) (a : FrT), (seg l s n)[j]? = some a → smF a.1 a.2, .agg [.int .i64 (wrN (seg l s n) n).1, .int .i64 (wrN (seg l s n) n).2], [.box [.int .i64 up, .int .i64 uq, .sl 1 s n x, .int .i64 vp, .bool vb, .int .i64 gp, .int .i64 gq, .sl 2 t m y] true false, .arr (.prod (.int .i64) (.int .i64)) l 2 wr, .arr (.prod .str (.prod (.prod (.int .i64) (.int .i64)) (.prod (.int .i64) (.int .i64)))) T 5 wT]⟩
  | _, _ => noSpec
def s_l02Size : Spec := fun args S => match args, S with
  | [.agg [.int .i64 p, .int .i64 q]], [] => ⟨smF p q, .agg [.int .i64 (p.natAbs : Int), .int .i64 q], []⟩
  | _, _ => noSpec
theorem ok_l02Size : SpecOk Tryz.prog 195 s_l02Size := by
  intro args S h; unfold s_l02Size at h ⊢; (split at h <;> first | exact False.elim h | skip)
  dsimp only at h ⊢
  rename_i p q
  have hs := h
  unfold smF at h
  refine funW tabOk (E := [(95, s_neg)]) ⟨ok_l01Neg, trivial⟩ [] (k := 0) (fn := Tryz.f195) rfl rfl rfl rfl rfl rfl ?_
  (repeat' ((try (conv => whnf)); first | (with_reducible first | refine And.intro ?_ ?_ | refine WX.of ?_) | exact zc | ((with_reducible refine VC.mk ?_); exact zw) | ((with_reducible refine VC.mk ?_); exact hs) | (with_reducible first | refine splitT ?_ | refine splitF ?_) | ((with_reducible refine splitM.mk (fun hsm => ?_) (fun hsm => ?_)) <;> (try exact zx)) | ((with_reducible refine splitB.mk (fun h => ?_) (fun h => ?_)) <;> (try simp only [zs, ne_eq] at h) <;> (try simp (disch := omega) only [w64] at h) <;> (try exact zx)) | (with_reducible intro hz; (try exact absurd hz (Nat.succ_ne_zero _)))))
  · exact ⟨by rw [show -p = (p.natAbs : Int) by omega]⟩
  · exact ⟨by rw [show (p.natAbs : Int) = p by omega]⟩
theorem ok_l02Worst : SpecOk Tryz.prog 186 s_l02Worst := by
  intro args S h; unfold s_l02Worst at h ⊢; (split at h <;> first | exact False.elim h | skip)
  dsimp only at h ⊢
  rename_i up uq s n x vp vb gp gq t m y l wr T wT
  obtain ⟨⟨h1, h2⟩, hE⟩ := h
  have hL := seg_len h1
  refine funW tabOk (E := [(56, s_num), (195, s_l02Size), (194, s_more)]) ⟨ok_l01Whole, ok_l02Size, ok_l01More, trivial⟩ [(5, [(0, 1)])] (k := 3) (fn := Tryz.f186) rfl rfl rfl rfl rfl rfl ?_
  (repeat' ((try (conv => whnf)); first | (with_reducible first | refine And.intro ?_ ?_ | refine WX.of ?_) | exact zc | ((with_reducible refine VC.mk ?_); exact zw) | (with_reducible first | refine splitT ?_ | refine splitF ?_) | ((with_reducible refine splitM.mk (fun hsm => ?_) (fun hsm => ?_)) <;> (try exact zx)) | ((with_reducible refine splitB.mk (fun h => ?_) (fun h => ?_)) <;> (try simp only [zs, ne_eq] at h) <;> (try simp (disch := omega) only [w64] at h) <;> (try exact zx)) | (with_reducible intro hz; (try exact absurd hz (Nat.succ_ne_zero _)))))
  refine loopW tabOk (E := [(56, s_num), (195, s_l02Size), (194, s_more)]) ⟨ok_l01Whole, ok_l02Size, ok_l01More, trivial⟩ [(5, [(0, 1)])] (σ := Nat) (fun i => [(0, .ptr 0 0 0), (2, .ptr 3 0 0), (3, .ptr 4 0 0), (4, .int .i64 i)]) (fun i => [.box [.int .i64 up, .int .i64 uq, .sl 1 s n x, .int .i64 vp, .bool vb, .int .i64 gp, .int .i64 gq, .sl 2 t m y] true false, .arr (.prod (.int .i64) (.int .i64)) l 2 wr, .arr (.prod .str (.prod (.prod (.int .i64) (.int .i64)) (.prod (.int .i64) (.int .i64)))) T 5 wT] ++ [.arr (.prod (.int .i64) (.int .i64)) [(0, 0)] 0 true, .arr (.prod (.int .i64) (.int .i64)) [wrN (seg l s n) i] 0 true]) (fun i => n - i) (fun i => i ≤ n) 0 (Nat.zero_le _) ?_ ?_
  · (repeat' ((try (conv => whnf)); first | (with_reducible first | refine And.intro ?_ ?_ | refine WX.of ?_) | exact zc | ((with_reducible refine VC.mk ?_); exact zw) | (with_reducible first | refine splitT ?_ | refine splitF ?_) | ((with_reducible refine splitM.mk (fun hsm => ?_) (fun hsm => ?_)) <;> (try exact zx)) | ((with_reducible refine splitB.mk (fun h => ?_) (fun h => ?_)) <;> (try simp only [zs, ne_eq] at h) <;> (try simp (disch := omega) only [w64] at h) <;> (try exact zx)) | (with_reducible intro hz; (try exact absurd hz (Nat.succ_ne_zero _)))))
  · intro i hi
    have hw := wrN_sm hE (i := i) (by omega)
    by_cases hlt : i < n
    · obtain ⟨⟨p, q⟩, ha⟩ := get_some (l := seg l s n) (i := i) (by omega)
      have hs := hE _ _ ha
      have hst : wrN (seg l s n) (i + 1) = moF (wrN (seg l s n) i).1 (wrN (seg l s n) i).2 (p.natAbs : Int) q := by rw [wrN, ha]; rfl
      (repeat' ((try (conv => whnf)); first | (with_reducible first | refine And.intro ?_ ?_ | refine WX.of ?_) | exact zc | ((with_reducible refine VC.mk ?_); exact zw) | with_reducible refine atL_i ha ?_ | ((with_reducible refine VC.mk ?_); exact hs) | ((with_reducible refine VC.mk ?_); exact ⟨hw, smF_abs hs⟩) | (with_reducible first | refine splitT ?_ | refine splitF ?_) | ((with_reducible refine splitM.mk (fun hsm => ?_) (fun hsm => ?_)) <;> (try exact zx)) | ((with_reducible refine splitB.mk (fun h => ?_) (fun h => ?_)) <;> (try simp only [zs, ne_eq] at h) <;> (try simp (disch := omega) only [w64] at h) <;> (try exact zx)) | (with_reducible intro hz; (try exact absurd hz (Nat.succ_ne_zero _)))))
      refine ⟨i + 1, by omega, hlt, ?_⟩
      (repeat' ((try (conv => whnf)); first | (with_reducible first | refine And.intro ?_ ?_ | refine WX.of ?_) | exact zc | ((with_reducible refine VC.mk ?_); exact zw) | (with_reducible first | refine splitT ?_ | refine splitF ?_) | ((with_reducible refine splitM.mk (fun hsm => ?_) (fun hsm => ?_)) <;> (try exact zx)) | ((with_reducible refine splitB.mk (fun h => ?_) (fun h => ?_)) <;> (try simp only [zs, ne_eq] at h) <;> (try simp (disch := omega) only [w64] at h) <;> (try exact zx)) | (with_reducible intro hz; (try exact absurd hz (Nat.succ_ne_zero _)))))
      all_goals exact ⟨by rw [hst]; rfl⟩
    · obtain rfl : i = n := by omega
      (repeat' ((try (conv => whnf)); first | (with_reducible first | refine And.intro ?_ ?_ | refine WX.of ?_) | exact zc | ((with_reducible refine VC.mk ?_); exact zw) | (with_reducible first | refine splitT ?_ | refine splitF ?_) | ((with_reducible refine splitM.mk (fun hsm => ?_) (fun hsm => ?_)) <;> (try exact zx)) | ((with_reducible refine splitB.mk (fun h => ?_) (fun h => ?_)) <;> (try simp only [zs, ne_eq] at h) <;> (try simp (disch := omega) only [w64] at h) <;> (try exact zx)) | (with_reducible intro hz; (try exact absurd hz (Nat.succ_ne_zero _)))))
/-- The doubt of a reading. -/
def dbO (u : FrT) (vp : Int) (w : FrT) : Option FrT := (dvO u (2 * vp, 1)).bind fun a => (muO (2, 1) w).bind fun b => adO a b
def dbV (u : FrT) (vp : Int) (w : FrT) : FrT := tv (adO (tv (dvO u (2 * vp, 1))) (tv (muO (2, 1) w)))
theorem db_e (u : FrT) (vp : Int) (w : FrT) : (!(dvO u (2 * vp, 1)).isSome || !(muO (2, 1) w).isSome || !(adO (tv (dvO u (2 * vp, 1))) (tv (muO (2, 1) w))).isSome) = !(dbO u vp w).isSome ∧ ∀ v, dbO u vp w = some v → dbV u vp w = v := by
  unfold dbV dbO
  cases h1 : dvO u (2 * vp, 1) with
  | none => simp
  | some a =>
    simp only [Option.bind_some]
    cases h2 : muO (2, 1) w with
    | none => simp
    | some b =>
      simp only [Option.bind_some, tv, Option.getD_some, Option.isSome_some, Bool.not_true, Bool.false_or, true_and]
      intro v h4; rw [h4]; rfl
def s_doubt : Spec := fun args S => match args, S with
  | [.ptr b 0 0, .agg [.int .i64 up, .int .i64 uq, .sl 1 s n x], .agg [.int .i64 vp, .bool vb]], [.arr .bool [bad] 0 true, .arr (.prod (.int .i64) (.int .i64)) l 2 wr] => ⟨b = 0 ∧ ((s + n ≤ l.length ∧ n ≤ 1048576) ∧ ∀ (j : Nat) (a : FrT), (seg l s n)[j]? = some a → smF a.1 a.2) ∧ smF up uq ∧ 2 ≤ vp ∧ vp ≤ 40, .agg [.int .i64 (dbV (up, uq) vp (wrN (seg l s n) n)).1, .int .i64 (dbV (up, uq) vp (wrN (seg l s n) n)).2], [.arr .bool [bad || !(dbO (up, uq) vp (wrN (seg l s n) n)).isSome] 0 true, .arr (.prod (.int .i64) (.int .i64)) l 2 wr]⟩
  | _, _ => noSpec
theorem ok_doubt : SpecOk Tryz.prog 182 s_doubt := by
  intro args S h; unfold s_doubt at h ⊢; (split at h <;> first | exact False.elim h | skip)
  dsimp only at h ⊢
  rename_i b up uq s n x vp vb bad l wr
  obtain ⟨rfl, hE, hu, hv⟩ := h
  have hL := seg_len hE.1.1
  have hw := wrN_sm hE.2 (i := n) (by omega)
  have hd := smF_dv (up, uq) (2 * vp, 1)
  have hm := smF_mu (2, 1) (wrN (seg l s n) n)
  have hdb := (db_e (up, uq) vp (wrN (seg l s n) n)).1
  refine funW tabOk (E := [(49, s_num), (179, s_divO), (190, s_worst), (48, s_mulO), (44, s_addO)]) ⟨ok_num, ok_divO, ok_worst, ok_mulO, ok_addO, trivial⟩ [(1, [(3, 1), (11, 0), (11, 1), (11, 2)])] (k := 2) (fn := Tryz.f182) rfl rfl rfl rfl rfl rfl ?_
  (repeat' ((try (conv => whnf)); first | (with_reducible first | refine And.intro ?_ ?_ | refine WX.of ?_) | exact zc | ((with_reducible refine VC.mk ?_); exact zw) | ((with_reducible refine VC.mk ?_); exact hE) | ((with_reducible refine VC.mk ?_); exact ⟨rfl, hu, (by rw [w64 (by omega)]; exact smF_1 (by omega))⟩) | ((with_reducible refine VC.mk ?_); exact ⟨rfl, smF_1 (by omega), hw⟩) | ((with_reducible refine VC.mk ?_); exact ⟨rfl, (by rw [w64 (by omega)]; exact hd), hm⟩) | (with_reducible first | refine splitT ?_ | refine splitF ?_) | ((with_reducible refine splitM.mk (fun hsm => ?_) (fun hsm => ?_)) <;> (try exact zx)) | ((with_reducible refine splitB.mk (fun h => ?_) (fun h => ?_)) <;> (try simp only [zs, ne_eq] at h) <;> (try simp (disch := omega) only [w64] at h) <;> (try exact zx)) | (with_reducible intro hz; (try exact absurd hz (Nat.succ_ne_zero _)))))
  · refine ⟨?_⟩
    dsimp only
    rw [w64 (by omega)]
    rfl
  · refine ⟨?_⟩
    dsimp only
    rw [w64 (by omega)]
    simp only [pr_eta]
    rw [← hdb]
    (try simp only [Bool.or_assoc])
theorem dv_f {a b v : FrT} (h : dvO a b = some v) : fOk v.1 v.2 = true := by
  unfold dvO at h
  split at h
  · simp at h
  · exact rO_f h
theorem db_1 {u : FrT} {vp : Int} {w : FrT} (h : ¬ oC (dvO u (2 * vp, 1)) = 0) : dbO u vp w = none := by unfold dbO; rw [oC_n h]; rfl
theorem db_2 {u : FrT} {vp : Int} {w : FrT} (h : oC (dvO u (2 * vp, 1)) = 0) (h2 : ¬ oC (muO (2, 1) w) = 0) : dbO u vp w = none := by
  obtain ⟨v, ev⟩ := oC_s h
  unfold dbO; rw [ev, oC_n h2]; rfl
theorem db_3 {u : FrT} {vp : Int} {w : FrT} (h : oC (dvO u (2 * vp, 1)) = 0) (h2 : oC (muO (2, 1) w) = 0) : dbO u vp w = adO (zv (dvO u (2 * vp, 1))) (zv (muO (2, 1) w)) := by
  obtain ⟨v, ev⟩ := oC_s h
  obtain ⟨a, ea⟩ := oC_s h2
  unfold dbO; rw [ev, ea]; rfl
def s_l02Open : Spec := fun args S => match args, S with
  | [.ptr 0 0 0, .ptr 0 0 3], [.box [.int .i64 up, .int .i64 uq, .sl 1 s n x, .int .i64 vp, .bool vb, .int .i64 gp, .int .i64 gq, .sl 2 t m y] true false, .arr (.prod (.int .i64) (.int .i64)) l 2 wr, .arr (.prod .str (.prod (.prod (.int .i64) (.int .i64)) (.prod (.int .i64) (.int .i64)))) T 5 wT] => ⟨((s + n ≤ l.length ∧ n ≤ 1048576) ∧ ∀ (j : Nat) (a : FrT), (seg l s n)[j]? = some a → smF a.1 a.2) ∧ smF up uq ∧ 2 ≤ vp ∧ vp ≤ 40, .tup [.agg [.int .i64 (zv (dbO (up, uq) vp (wrN (seg l s n) n))).1, .int .i64 (zv (dbO (up, uq) vp (wrN (seg l s n) n))).2], .int .i64 (oC (dbO (up, uq) vp (wrN (seg l s n) n)))], [.box [.int .i64 up, .int .i64 uq, .sl 1 s n x, .int .i64 vp, .bool vb, .int .i64 gp, .int .i64 gq, .sl 2 t m y] true false, .arr (.prod (.int .i64) (.int .i64)) l 2 wr, .arr (.prod .str (.prod (.prod (.int .i64) (.int .i64)) (.prod (.int .i64) (.int .i64)))) T 5 wT]⟩
  | _, _ => noSpec
theorem ok_l02Open : SpecOk Tryz.prog 173 s_l02Open := by
  intro args S h; unfold s_l02Open at h ⊢; (split at h <;> first | exact False.elim h | skip)
  dsimp only at h ⊢
  rename_i up uq s n x vp vb gp gq t m y l wr T wT
  obtain ⟨hE, hu, hv⟩ := h
  have hL := seg_len hE.1.1
  have hw := wrN_sm hE.2 (i := n) (by omega)
  refine funW tabOk (E := [(56, s_num), (171, s_divZ), (186, s_l02Worst), (55, s_mulZ), (57, s_addZ)]) ⟨ok_l01Whole, ok_l01DivZ, ok_l02Worst, ok_l01MulZ, ok_l01AddZ, trivial⟩ [(1, [(3, 1), (14, 0), (14, 1)])] (k := 3) (fn := Tryz.f173) rfl rfl rfl rfl rfl rfl ?_
  (repeat' ((try (conv => whnf)); first | (with_reducible first | refine And.intro ?_ ?_ | refine WX.of ?_) | exact zc | ((with_reducible refine VC.mk ?_); exact zw) | ((with_reducible refine VC.mk ?_); exact hE) | ((with_reducible refine VC.mk ?_); exact ⟨hu, (by rw [w64 (by omega)]; exact smF_1 (by omega)), (by rw [w64 (by omega)]; show 2 * vp ≠ 0; omega)⟩) | ((with_reducible refine VC.mk ?_); exact ⟨smF_1 (by omega), hw⟩) | (with_reducible first | refine splitT ?_ | refine splitF ?_) | ((with_reducible refine splitM.mk (fun hsm => ?_) (fun hsm => ?_)) <;> (try exact zx)) | ((with_reducible refine splitB.mk (fun h => ?_) (fun h => ?_)) <;> (try simp only [zs, ne_eq] at h) <;> (try simp (disch := omega) only [w64] at h) <;> (try exact zx)) | (with_reducible intro hz; (try exact absurd hz (Nat.succ_ne_zero _)))))
  · refine ⟨?_⟩
    rw [w64 (by omega), db_1 h, oC_3 h]
    rfl
  · rename_i h0
    refine ⟨?_⟩
    rw [db_2 h0 h, oC_3 h]
    rfl
  · rename_i h0
    obtain ⟨v, ev⟩ := oC_s h0
    obtain ⟨a, ea⟩ := oC_s h
    refine ⟨?_⟩
    dsimp only
    rw [w64 (by omega), ev, ea]
    exact ⟨smF_ok (dv_f ev), smF_ok (rO_f ea)⟩
  · rename_i h0
    refine ⟨?_⟩
    dsimp only
    rw [w64 (by omega), db_3 h0 h]
/-- Two fractions that may fail. -/
def z2 (o : Option (FrT × FrT)) : FrT × FrT := o.getD ((0, 0), (0, 0))
def oS (o : Option (FrT × FrT)) : Int := if o.isSome = true then 0 else 3
def arO (a b : FrT) : Option (FrT × FrT) := (sbO a b).bind fun l => (adO a b).bind fun h => some (l, h)
theorem ar_f {a b : FrT} {v : FrT × FrT} (h : arO a b = some v) : fOk v.1.1 v.1.2 = true ∧ fOk v.2.1 v.2.2 = true := by
  unfold arO at h
  cases h1 : sbO a b with
  | none => rw [h1] at h; simp at h
  | some l =>
    cases h2 : adO a b with
    | none => rw [h1, h2] at h; simp at h
    | some k =>
      rw [h1, h2] at h
      simp only [Option.bind_some, Option.some.injEq] at h
      subst h
      exact ⟨rO_f h1, rO_f h2⟩
def s_both : Spec := fun args S => match args, S with
  | [.agg [.int .i64 p, .int .i64 q], .int .i64 one, .agg [.int .i64 p', .int .i64 q'], .int .i64 two], [] => ⟨True, .tup [.agg [.int .i64 (if one = 0 ∧ two = 0 then p else 0), .int .i64 (if one = 0 ∧ two = 0 then q else 0), .int .i64 (if one = 0 ∧ two = 0 then p' else 0), .int .i64 (if one = 0 ∧ two = 0 then q' else 0)], .int .i64 (if one = 0 then two else one)], []⟩
  | _, _ => noSpec
theorem ok_l01Both : SpecOk Tryz.prog 160 s_both := by
  intro args S h; unfold s_both at h ⊢; (split at h <;> first | exact False.elim h | skip)
  dsimp only at h ⊢
  rename_i p q one p' q' two
  refine funW tabOk (E := []) trivial [] (k := 0) (fn := Tryz.f160) rfl rfl rfl rfl rfl rfl ?_
  (repeat' ((try (conv => whnf)); first | (with_reducible first | refine And.intro ?_ ?_ | refine WX.of ?_) | exact zc | ((with_reducible refine VC.mk ?_); exact zw) | (with_reducible first | refine splitT ?_ | refine splitF ?_) | ((with_reducible refine splitM.mk (fun hsm => ?_) (fun hsm => ?_)) <;> (try exact zx)) | ((with_reducible refine splitB.mk (fun h => ?_) (fun h => ?_)) <;> (try simp only [zs, ne_eq] at h) <;> (try simp (disch := omega) only [w64] at h) <;> (try exact zx)) | (with_reducible intro hz; (try exact absurd hz (Nat.succ_ne_zero _)))))
  all_goals (refine ⟨?_⟩; simp_all)
def s_around : Spec := fun args S => match args, S with
  | [.agg [.int .i64 p, .int .i64 q], .agg [.int .i64 p', .int .i64 q']], [] => ⟨smF p q ∧ smF p' q', .tup [.agg [.int .i64 (z2 (arO (p, q) (p', q'))).1.1, .int .i64 (z2 (arO (p, q) (p', q'))).1.2, .int .i64 (z2 (arO (p, q) (p', q'))).2.1, .int .i64 (z2 (arO (p, q) (p', q'))).2.2], .int .i64 (oS (arO (p, q) (p', q')))], []⟩
  | _, _ => noSpec
theorem ok_l01Around : SpecOk Tryz.prog 174 s_around := by
  intro args S h; unfold s_around at h ⊢; (split at h <;> first | exact False.elim h | skip)
  dsimp only at h ⊢
  rename_i p q p' q'
  have hq := h
  refine funW tabOk (E := [(54, s_subZ), (57, s_addZ), (160, s_both)]) ⟨ok_l01SubZ, ok_l01AddZ, ok_l01Both, trivial⟩ [] (k := 0) (fn := Tryz.f174) rfl rfl rfl rfl rfl rfl ?_
  (repeat' ((try (conv => whnf)); first | (with_reducible first | refine And.intro ?_ ?_ | refine WX.of ?_) | exact zc | ((with_reducible refine VC.mk ?_); exact zw) | ((with_reducible refine VC.mk ?_); exact hq) | (with_reducible first | refine splitT ?_ | refine splitF ?_) | ((with_reducible refine splitM.mk (fun hsm => ?_) (fun hsm => ?_)) <;> (try exact zx)) | ((with_reducible refine splitB.mk (fun h => ?_) (fun h => ?_)) <;> (try simp only [zs, ne_eq] at h) <;> (try simp (disch := omega) only [w64] at h) <;> (try exact zx)) | (with_reducible intro hz; (try exact absurd hz (Nat.succ_ne_zero _)))))
  all_goals (refine ⟨?_⟩; cases h1 : sbO (p, q) (p', q') <;> cases h2 : adO (p, q) (p', q') <;> simp [arO, oC, oS, zv, z2, h1, h2])
def s_span : Spec := fun args S => match args, S with
  | [.ptr b 0 0, .agg [.int .i64 p, .int .i64 q, .int .i64 p', .int .i64 q']], [.arr .bool [bad] 0 true] => ⟨b = 0, .tup [.agg [.int .i64 (if bad = true then 0 else p), .int .i64 (if bad = true then 0 else q), .int .i64 (if bad = true then 0 else p'), .int .i64 (if bad = true then 0 else q')], .int .i64 (if bad = true then 3 else 0)], [.arr .bool [bad] 0 true]⟩
  | _, _ => noSpec
theorem ok_span : SpecOk Tryz.prog 41 s_span := by
  intro args S h; unfold s_span at h ⊢; (split at h <;> first | exact False.elim h | skip)
  dsimp only at h ⊢
  rename_i b p q p' q' bad
  obtain rfl := h
  refine funW tabOk (E := []) trivial [] (k := 1) (fn := Tryz.f41) rfl rfl rfl rfl rfl rfl ?_
  (repeat' ((try (conv => whnf)); first | (with_reducible first | refine And.intro ?_ ?_ | refine WX.of ?_) | exact zc | ((with_reducible refine VC.mk ?_); exact zw) | (with_reducible first | refine splitT ?_ | refine splitF ?_) | ((with_reducible refine splitM.mk (fun hsm => ?_) (fun hsm => ?_)) <;> (try exact zx)) | ((with_reducible refine splitB.mk (fun h => ?_) (fun h => ?_)) <;> (try simp only [zs, ne_eq] at h) <;> (try simp (disch := omega) only [w64] at h) <;> (try exact zx)) | (with_reducible intro hz; (try exact absurd hz (Nat.succ_ne_zero _)))))
  all_goals (refine ⟨?_⟩; simp_all)
/-- The span of a length. -/
def opO (d : Option FrT) (e : Option FrT) (g th w : FrT) : Option (FrT × FrT) := d.bind fun d => e.bind fun e => (muO (2, 1) e).bind fun b => (arO d b).bind fun a => (bkO g th w a.1).bind fun l => (bkO g th w a.2).bind fun h => some (l, h)
def opT (u : FrT) (E : List FrT) (vp : Int) (g : FrT) (T : List ThT) (c : ShT) (f k : FrT) : Option (FrT × FrT) := opO (sbO k f) (dbO u vp (wrN E E.length)) g (thAt T c).2.2 c.2.1
def opV (d e : FrT) (g th w : FrT) : FrT × FrT := (bkV g th w (tv (sbO d (tv (muO (2, 1) e)))), bkV g th w (tv (adO d (tv (muO (2, 1) e)))))
theorem op_e (d e : Option FrT) (dv ev g th w : FrT) (hd : ∀ v, d = some v → dv = v) (he : ∀ v, e = some v → ev = v) : (!e.isSome || !(muO (2, 1) ev).isSome || !d.isSome || !(sbO dv (tv (muO (2, 1) ev))).isSome || bkB g th w (tv (sbO dv (tv (muO (2, 1) ev)))) || !(adO dv (tv (muO (2, 1) ev))).isSome || bkB g th w (tv (adO dv (tv (muO (2, 1) ev))))) = !(opO d e g th w).isSome ∧ ∀ v, opO d e g th w = some v → opV dv ev g th w = v := by
  unfold opO opV
  cases d with
  | none => cases e <;> simp
  | some d =>
    obtain rfl := hd d rfl
    cases e with
    | none => simp
    | some e =>
      obtain rfl := he e rfl
      simp only [Option.bind_some]
      cases h1 : muO (2, 1) ev with
      | none => simp
      | some b =>
        simp only [Option.bind_some, tv, Option.getD_some, Option.isSome_some, Bool.not_true, Bool.false_or]
        unfold arO
        cases h2 : sbO dv b with
        | none => simp
        | some lo =>
          cases h3 : adO dv b with
          | none => simp
          | some hi =>
            have b1 := bk_e g th w lo
            have b2 := bk_e g th w hi
            simp only [Option.bind_some, Option.getD_some, Option.isSome_some, Bool.not_true, Bool.false_or, b1.1, b2.1, Bool.or_false]
            cases h4 : bkO g th w lo with
            | none => simp
            | some x =>
              cases h5 : bkO g th w hi with
              | none => simp
              | some y => 
                simp only [Option.bind_some, Option.isSome_some, Bool.not_true, Bool.or_false, true_and, Option.some.injEq]
                intro v hv
                rw [b1.2 x h4, b2.2 y h5]; exact hv
theorem sc_el {up uq : Int} {E : List (Int × Int)} (h : scB up uq E = true) : ∀ (j : Nat) (a : FrT), E[j]? = some a → smF a.1 a.2 := fun j a ha => by
  unfold scB at h
  simp only [Bool.and_eq_true] at h
  have := allI_at h.2 ha
  unfold elB at this
  simp only [Bool.and_eq_true] at this
  exact smF_ok this.1.1
end Go.Proofs.YtonnkpclllmkoaaGreat.Eng
