/- Lemmas for the proof, no conditions of their own. -/
import Derived.Test.YtinaincgimoanaaDoorQB3
set_option linter.unusedVariables false
set_option linter.unusedSimpArgs false
namespace Go.Proofs.YtinaincgimoanaaDoor.Eng
open Go Go.RowKit
set_option maxRecDepth 100000
def s_l02Ver : Spec := fun args S => match args, S with
  | [.ptr 0 0 3], [.box [.int .i64 up, .int .i64 uq, .sl 1 s n x, .int .i64 vp, .bool vb, .int .i64 gp, .int .i64 gq, .sl 2 t m y] true false, .arr (.prod (.int .i64) (.int .i64)) l 2 wr, .arr (.prod .str (.prod (.prod (.int .i64) (.int .i64)) (.prod (.int .i64) (.int .i64)))) T 5 wT] => ⟨True, .bool (decide (2 ≤ vp ∧ vp ≤ 40)), [.box [.int .i64 up, .int .i64 uq, .sl 1 s n x, .int .i64 vp, .bool vb, .int .i64 gp, .int .i64 gq, .sl 2 t m y] true false, .arr (.prod (.int .i64) (.int .i64)) l 2 wr, .arr (.prod .str (.prod (.prod (.int .i64) (.int .i64)) (.prod (.int .i64) (.int .i64)))) T 5 wT]⟩
  | _, _ => noSpec
theorem ok_l02Vernier : SpecOk Tryd.prog 113 s_l02Ver := by
  intro args S h; unfold s_l02Ver at h ⊢; (split at h <;> first | exact False.elim h | skip)
  dsimp only at h ⊢
  refine funW tabOk (E := [(75, s_within)]) ⟨ok_l00In, trivial⟩ [] (k := 3) (fn := Tryd.f113) rfl rfl rfl rfl rfl rfl ?_
  (repeat' ((try (conv => whnf)); first | (with_reducible first | refine And.intro ?_ ?_ | refine WX.of ?_) | exact zc | ((with_reducible refine VC.mk ?_); exact zw) | (with_reducible first | refine splitT ?_ | refine splitF ?_) | ((with_reducible refine splitM.mk (fun hsm => ?_) (fun hsm => ?_)) <;> (try exact zx)) | ((with_reducible refine splitB.mk (fun h => ?_) (fun h => ?_)) <;> (try simp only [zs, ne_eq] at h) <;> (try simp (disch := omega) only [w64] at h) <;> (try exact zx)) | (with_reducible intro hz; (try exact absurd hz (Nat.succ_ne_zero _)))))
def mkC (up uq : Int) (k : Int) (e : Int × Int) : Int := if redOk (k * up) (1 * uq) = true then rdC (rdP (k * up) (1 * uq) * e.2 + e.1 * rdQ (k * up) (1 * uq)) (rdQ (k * up) (1 * uq) * e.2) else 3
def mkP (up uq : Int) (k : Int) (e : Int × Int) : Int := if redOk (k * up) (1 * uq) = true then rdP (rdP (k * up) (1 * uq) * e.2 + e.1 * rdQ (k * up) (1 * uq)) (rdQ (k * up) (1 * uq) * e.2) else 0
def mkQ (up uq : Int) (k : Int) (e : Int × Int) : Int := if redOk (k * up) (1 * uq) = true then rdQ (rdP (k * up) (1 * uq) * e.2 + e.1 * rdQ (k * up) (1 * uq)) (rdQ (k * up) (1 * uq) * e.2) else 0
theorem mkC_ok {up uq : Int} {k : Nat} {e : Int × Int} : mkC up uq k e = 0 ↔ mkOk up uq k e = true := by
  unfold mkC mkOk rdC rdP rdQ tolP tolQ
  cases h : redOk ((k : Int) * up) (1 * uq)
  · simp
  · simp only [if_true, Bool.true_and]
    split <;> simp_all
def s_l02Mark : Spec := fun args S => match args, S with
  | [.ptr 0 0 0, .int .i64 k], [.box [.int .i64 up, .int .i64 uq, .sl 1 s n x, .int .i64 vp, .bool vb, .int .i64 gp, .int .i64 gq, .sl 2 t m y] true false, .arr (.prod (.int .i64) (.int .i64)) l 2 wr, .arr (.prod .str (.prod (.prod (.int .i64) (.int .i64)) (.prod (.int .i64) (.int .i64)))) T 5 wT] => ⟨(s + n ≤ l.length ∧ n ≤ 1048576) ∧ (0 ≤ k ∧ k < n ∧ n ≤ 60) ∧ smF up uq ∧ ∀ a, (seg l s n)[k.toNat]? = some a → smF a.1 a.2, .tup [.agg [.int .i64 (mkP up uq k (((seg l s n)[k.toNat]?).getD (0, 0))), .int .i64 (mkQ up uq k (((seg l s n)[k.toNat]?).getD (0, 0)))], .int .i64 (mkC up uq k (((seg l s n)[k.toNat]?).getD (0, 0)))], [.box [.int .i64 up, .int .i64 uq, .sl 1 s n x, .int .i64 vp, .bool vb, .int .i64 gp, .int .i64 gq, .sl 2 t m y] true false, .arr (.prod (.int .i64) (.int .i64)) l 2 wr, .arr (.prod .str (.prod (.prod (.int .i64) (.int .i64)) (.prod (.int .i64) (.int .i64)))) T 5 wT]⟩
  | _, _ => noSpec
theorem ok_l02Mark : SpecOk Tryd.prog 149 s_l02Mark := by
  intro args S h; unfold s_l02Mark at h ⊢; (split at h <;> first | exact False.elim h | skip)
  dsimp only at h ⊢
  rename_i k up uq s n x vp vb gp gq t m y l wr T wT
  obtain ⟨⟨h1, h2⟩, ⟨h3, h4, h5⟩, h6, h7⟩ := h
  have hL := seg_len h1
  obtain ⟨⟨p, q⟩, ha⟩ := get_some (l := seg l s n) (i := k.toNat) (by omega)
  have hs := h7 _ ha
  dsimp only at hs
  have e : ((seg l s n)[k.toNat]?).getD (0, 0) = (p, q) := by rw [ha]; rfl
  rw [e]
  have hk : smF k 1 := smF_1 (by omega)
  have hr : redOk (k * up) (1 * uq) = true → smF (rdP (k * up) (1 * uq)) (rdQ (k * up) (1 * uq)) := fun h => by
    unfold rdP rdQ; rw [if_pos h, if_pos h]; exact smF_ok h
  have hkk : ((k.toNat : Nat) : Int) = k := Int.toNat_of_nonneg h3
  refine funW tabOk (E := [(130, s_num), (168, s_mulS), (169, s_addS)]) ⟨ok_l01Whole, ok_l01Mul, ok_l01Add, trivial⟩ [(1, [(5, 0), (10, 0), (10, 1)])] (k := 3) (fn := Tryd.f149) rfl rfl rfl rfl rfl rfl ?_
  (repeat' ((try (conv => whnf)); first | (with_reducible first | refine And.intro ?_ ?_ | refine WX.of ?_) | exact zc | ((with_reducible refine VC.mk ?_); exact zw) | ((with_reducible refine VC.mk ?_); exact ⟨hk, h6⟩) | (with_reducible first | refine splitT ?_ | refine splitF ?_) | ((with_reducible refine splitM.mk (fun hsm => ?_) (fun hsm => ?_)) <;> (try exact zx)) | ((with_reducible refine splitB.mk (fun h => ?_) (fun h => ?_)) <;> (try simp only [zs, ne_eq] at h) <;> (try simp (disch := omega) only [w64] at h) <;> (try exact zx)) | (with_reducible intro hz; (try exact absurd hz (Nat.succ_ne_zero _)))))
  · have hb : redOk (k * up) (1 * uq) = false := by
      unfold rdC at h; cases hb : redOk (k * up) (1 * uq) <;> simp_all
    exact ⟨by simp only [mkP, mkQ, mkC, rdC, hb, if_false, Bool.false_eq_true]⟩
  · have hb : redOk (k * up) (1 * uq) = true := by
      unfold rdC at h; cases hb : redOk (k * up) (1 * uq) <;> simp_all
    (repeat' ((try (conv => whnf)); first | (with_reducible first | refine And.intro ?_ ?_ | refine WX.of ?_) | exact zc | ((with_reducible refine VC.mk ?_); exact zw) | with_reducible refine atL_p (seg_get ha).1 ?_ | ((with_reducible refine VC.mk ?_); exact ⟨hr hb, hs⟩) | (with_reducible first | refine splitT ?_ | refine splitF ?_) | ((with_reducible refine splitM.mk (fun hsm => ?_) (fun hsm => ?_)) <;> (try exact zx)) | ((with_reducible refine splitB.mk (fun h => ?_) (fun h => ?_)) <;> (try simp only [zs, ne_eq] at h) <;> (try simp (disch := omega) only [w64] at h) <;> (try exact zx)) | (with_reducible intro hz; (try exact absurd hz (Nat.succ_ne_zero _)))))
    all_goals exact ⟨by simp only [mkP, mkQ, mkC, hb, if_true]⟩
def s_l02Ok : Spec := fun args S => match args, S with
  | [.ptr 0 0 0], [.box [.int .i64 up, .int .i64 uq, .sl 1 s n x, .int .i64 vp, .bool vb, .int .i64 gp, .int .i64 gq, .sl 2 t m y] true false, .arr (.prod (.int .i64) (.int .i64)) l 2 wr, .arr (.prod .str (.prod (.prod (.int .i64) (.int .i64)) (.prod (.int .i64) (.int .i64)))) T 5 wT] => ⟨s + n ≤ l.length ∧ n ≤ 1048576, .bool (scB up uq (seg l s n)), [.box [.int .i64 up, .int .i64 uq, .sl 1 s n x, .int .i64 vp, .bool vb, .int .i64 gp, .int .i64 gq, .sl 2 t m y] true false, .arr (.prod (.int .i64) (.int .i64)) l 2 wr, .arr (.prod .str (.prod (.prod (.int .i64) (.int .i64)) (.prod (.int .i64) (.int .i64)))) T 5 wT]⟩
  | _, _ => noSpec
theorem ok_l02Ok : SpecOk Tryd.prog 112 s_l02Ok := by
  intro args S h; unfold s_l02Ok at h ⊢; (split at h <;> first | exact False.elim h | skip)
  dsimp only at h ⊢
  rename_i up uq s n x vp vb gp gq t m y l wr T wT
  obtain ⟨h1, h2⟩ := h
  have hL := seg_len h1
  refine funW tabOk (E := [(116, s_wi), (75, s_within), (131, s_fOk), (148, s_abs), (149, s_l02Mark)]) ⟨ok_l02Within, ok_l00In, ok_l01Ok, ok_l01Abs, ok_l02Mark, trivial⟩ [(7, [(12, 1), (18, 1), (20, 1)])] (k := 3) (fn := Tryd.f112) rfl rfl rfl rfl rfl rfl ?_
  (repeat' ((try (conv => whnf)); first | (with_reducible first | refine And.intro ?_ ?_ | refine WX.of ?_) | exact zc | ((with_reducible refine VC.mk ?_); exact zw) | (with_reducible first | refine splitT ?_ | refine splitF ?_) | ((with_reducible refine splitM.mk (fun hsm => ?_) (fun hsm => ?_)) <;> (try exact zx)) | ((with_reducible refine splitB.mk (fun h => ?_) (fun h => ?_)) <;> (try simp only [zs, ne_eq] at h) <;> (try simp (disch := omega) only [w64] at h) <;> (try exact zx)) | (with_reducible intro hz; (try exact absurd hz (Nat.succ_ne_zero _)))))
  · exact ⟨congrArg SV.bool (by unfold wiB at h; unfold scB; rw [← Bool.and_assoc (fOk up uq), h, Bool.false_and, Bool.false_and])⟩
  · rename_i hw
    exact ⟨congrArg SV.bool (by unfold scB; rw [hL, show decide (2 ≤ n ∧ n ≤ 60) = false from decide_eq_false (by omega), Bool.and_false, Bool.false_and])⟩
  · rename_i hw
    have hn := h
    have hw2 : fOk up uq = true ∧ 0 < up ∧ up ≤ 1000 * uq := by simpa [wiB, and_assoc] using hw
    have hsU := smF_ok hw2.1
    have hU := hsU
    unfold smF at hU
    refine loopW tabOk (E := [(116, s_wi), (75, s_within), (131, s_fOk), (148, s_abs), (149, s_l02Mark)]) ⟨ok_l02Within, ok_l00In, ok_l01Ok, ok_l01Abs, ok_l02Mark, trivial⟩ [(7, [(12, 1), (18, 1), (20, 1)])] (σ := Nat) (fun i => [(0, .ptr 0 0 0), (3, .int .i64 i)]) (fun i => [.box [.int .i64 up, .int .i64 uq, .sl 1 s n x, .int .i64 vp, .bool vb, .int .i64 gp, .int .i64 gq, .sl 2 t m y] true false, .arr (.prod (.int .i64) (.int .i64)) l 2 wr, .arr (.prod .str (.prod (.prod (.int .i64) (.int .i64)) (.prod (.int .i64) (.int .i64)))) T 5 wT]) (fun i => n - i) (fun i => i ≤ n ∧ ∀ (j : Nat) (a : Int × Int), j < i → (seg l s n)[j]? = some a → elB up uq j a = true) 0 ⟨Nat.zero_le _, fun j a hj => by omega⟩ ?_ ?_
    · (repeat' ((try (conv => whnf)); first | (with_reducible first | refine And.intro ?_ ?_ | refine WX.of ?_) | exact zc | ((with_reducible refine VC.mk ?_); exact zw) | (with_reducible first | refine splitT ?_ | refine splitF ?_) | ((with_reducible refine splitM.mk (fun hsm => ?_) (fun hsm => ?_)) <;> (try exact zx)) | ((with_reducible refine splitB.mk (fun h => ?_) (fun h => ?_)) <;> (try simp only [zs, ne_eq] at h) <;> (try simp (disch := omega) only [w64] at h) <;> (try exact zx)) | (with_reducible intro hz; (try exact absurd hz (Nat.succ_ne_zero _)))))
    · intro i ⟨hi, hp⟩
      by_cases hlt : i < n
      · obtain ⟨⟨p, q⟩, ha⟩ := get_some (l := seg l s n) (i := i) (by omega)
        have e : ((seg l s n)[((i : Nat) : Int).toNat]?).getD (0, 0) = (p, q) := by rw [Int.toNat_natCast, ha]; rfl
        by_cases hf : fOk p q = true
        · have hsf := smF_ok hf
          have hsb := hsf
          unfold smF at hsb
          have hq4 := quad hsU hsf
          have hall : ∀ a, (seg l s n)[((i : Nat) : Int).toNat]? = some a → smF a.1 a.2 := fun a h => by
            rw [Int.toNat_natCast, ha] at h; obtain rfl := Option.some.inj h; exact hsf
          (repeat' ((try (conv => whnf)); first | (with_reducible first | refine And.intro ?_ ?_ | refine WX.of ?_) | exact zc | ((with_reducible refine VC.mk ?_); exact zw) | with_reducible refine atL_i ha ?_ | ((with_reducible refine splitT_of ?_ ?_); (focus (simp only [hf, Bool.not_true, Bool.not_false, decide_true, decide_false]; done))) | ((with_reducible refine splitF_of ?_ ?_); (focus (simp only [hf, Bool.not_true, Bool.not_false, decide_true, decide_false]; done))) | ((with_reducible refine VC.mk ?_); (refine ⟨⟨h1, h2⟩, ?_, hsU, hall⟩); omega) | (with_reducible first | refine splitT ?_ | refine splitF ?_) | ((with_reducible refine splitM.mk (fun hsm => ?_) (fun hsm => ?_)) <;> (try exact zx)) | ((with_reducible refine splitB.mk (fun h => ?_) (fun h => ?_)) <;> (try simp only [zs, ne_eq] at h) <;> (try simp (disch := omega) only [w64] at h) <;> (try exact zx)) | (with_reducible intro hz; (try exact absurd hz (Nat.succ_ne_zero _)))))
          · exact ⟨congrArg SV.bool (by rw [sc_no ha (by unfold elB; dsimp only; rw [show decide (4 * (p.natAbs : Int) * uq ≤ up * q) = false from decide_eq_false (by omega), Bool.and_false, Bool.false_and])])⟩
          · rw [e] at h
            have hm : mkOk up uq i (p, q) = false := by
              cases hm : mkOk up uq i (p, q) with
              | false => rfl
              | true => exact absurd (mkC_ok.2 hm) h
            exact ⟨congrArg SV.bool (by rw [sc_no ha (by unfold elB; rw [hm, Bool.and_false])])⟩
          · rw [e] at h
            have hm := mkC_ok.1 h
            have hd : decide (4 * (p.natAbs : Int) * uq ≤ up * q) = true := decide_eq_true (by omega)
            have hel : elB up uq i (p, q) = true := by unfold elB; rw [hm]; dsimp only; rw [hf, hd]; rfl
            refine ⟨i + 1, by omega, ⟨hlt, upto_step2 ha hel hp⟩, ?_⟩
            (repeat' ((try (conv => whnf)); first | (with_reducible first | refine And.intro ?_ ?_ | refine WX.of ?_) | exact zc | ((with_reducible refine VC.mk ?_); exact zw) | (with_reducible first | refine splitT ?_ | refine splitF ?_) | ((with_reducible refine splitM.mk (fun hsm => ?_) (fun hsm => ?_)) <;> (try exact zx)) | ((with_reducible refine splitB.mk (fun h => ?_) (fun h => ?_)) <;> (try simp only [zs, ne_eq] at h) <;> (try simp (disch := omega) only [w64] at h) <;> (try exact zx)) | (with_reducible intro hz; (try exact absurd hz (Nat.succ_ne_zero _)))))
        · have hf : fOk p q = false := by simpa using hf
          (repeat' ((try (conv => whnf)); first | (with_reducible first | refine And.intro ?_ ?_ | refine WX.of ?_) | exact zc | ((with_reducible refine VC.mk ?_); exact zw) | with_reducible refine atL_i ha ?_ | ((with_reducible refine splitT_of ?_ ?_); (focus (simp only [hf, Bool.not_true, Bool.not_false, decide_true, decide_false]; done))) | ((with_reducible refine splitF_of ?_ ?_); (focus (simp only [hf, Bool.not_true, Bool.not_false, decide_true, decide_false]; done))) | (with_reducible first | refine splitT ?_ | refine splitF ?_) | ((with_reducible refine splitM.mk (fun hsm => ?_) (fun hsm => ?_)) <;> (try exact zx)) | ((with_reducible refine splitB.mk (fun h => ?_) (fun h => ?_)) <;> (try simp only [zs, ne_eq] at h) <;> (try simp (disch := omega) only [w64] at h) <;> (try exact zx)) | (with_reducible intro hz; (try exact absurd hz (Nat.succ_ne_zero _)))))
          all_goals exact ⟨congrArg SV.bool (by rw [sc_no ha (by unfold elB; dsimp only; rw [hf, Bool.false_and, Bool.false_and])])⟩
      · obtain rfl : i = n := by omega
        (repeat' ((try (conv => whnf)); first | (with_reducible first | refine And.intro ?_ ?_ | refine WX.of ?_) | exact zc | ((with_reducible refine VC.mk ?_); exact zw) | (with_reducible first | refine splitT ?_ | refine splitF ?_) | ((with_reducible refine splitM.mk (fun hsm => ?_) (fun hsm => ?_)) <;> (try exact zx)) | ((with_reducible refine splitB.mk (fun h => ?_) (fun h => ?_)) <;> (try simp only [zs, ne_eq] at h) <;> (try simp (disch := omega) only [w64] at h) <;> (try exact zx)) | (with_reducible intro hz; (try exact absurd hz (Nat.succ_ne_zero _)))))
        exact ⟨congrArg SV.bool (sc_yes hL hw2.1 hw2.2 (by omega) hp).symm⟩
/-- A valid thing, and things with names of their own. -/
def thB (T : List ThT) (i : Nat) (x : ThT) : Bool := (wordB x.1 && !((T.take i).any fun o => decide (o.1 = x.1))) && (wiB x.2.1.1 x.2.1.2 100000 && gwB x.2.2.1 x.2.2.2)
def bnB (up uq vp gp gq : Int) (E : List (Int × Int)) (T : List ThT) : Bool := (scB up uq E && decide (2 ≤ vp ∧ vp ≤ 40) && gwB gp gq && decide (T.length ≤ 10)) && allI ([], (0, 0), 0, 0) (thB T) T
theorem bn_no {up uq vp gp gq : Int} {E : List (Int × Int)} {T : List ThT} {k : Nat} {a : ThT} (ha : T[k]? = some a) (h : thB T k a = false) : bnB up uq vp gp gq E T = false := by
  unfold bnB; rw [allI_no ha h, Bool.and_false]
theorem bn_yes {up uq vp gp gq : Int} {E : List (Int × Int)} {T : List ThT} (h : ∀ (k : Nat) a, T[k]? = some a → thB T k a = true) : bnB up uq vp gp gq E T = (scB up uq E && decide (2 ≤ vp ∧ vp ≤ 40) && gwB gp gq && decide (T.length ≤ 10)) := by
  unfold bnB; rw [allI_iff.2 h, Bool.and_true]
theorem wi_no0 {p q m : Int} (h : fOk p q = false) : wiB p q m = false := by simp [wiB, h]
theorem wi_no1 {p q m : Int} (h : p ≤ 0) : wiB p q m = false := by simp [wiB, show ¬ 0 < p by omega]
theorem wi_no2 {p q m : Int} (h : 0 < cmpF p q m 1) : wiB p q m = false := by
  have := cmpF_gt.1 h
  simp [wiB, show ¬ p ≤ m * q by omega]
theorem wi_yes {p q m : Int} (hf : fOk p q = true) (h0 : 0 < p) (h : cmpF p q m 1 ≤ 0) : wiB p q m = true := by
  have := cmpF_le.1 h
  simp [wiB, hf, h0, show p ≤ m * q by omega]
def s_cl1 : Spec := fun args S => match args, S with
  | [.agg [.str nm, .int .i64 p, .int .i64 q, .int .i64 r, .int .i64 s], .ptr 0 0 0], [.arr (.prod .str (.prod (.prod (.int .i64) (.int .i64)) (.prod (.int .i64) (.int .i64)))) [o] 0 true] => ⟨True, .bool (decide (nm = o.1)), [.arr (.prod .str (.prod (.prod (.int .i64) (.int .i64)) (.prod (.int .i64) (.int .i64)))) [o] 0 true]⟩
  | _, _ => noSpec
theorem ok_ValidBench1 : SpecOk Tryd.prog 121 s_cl1 := by
  intro args S h; unfold s_cl1 at h ⊢; (split at h <;> first | exact False.elim h | skip)
  dsimp only at h ⊢
  refine funW tabOk (E := []) trivial [] (k := 1) (fn := Tryd.f121) rfl rfl rfl rfl rfl rfl ?_
  (repeat' ((try (conv => whnf)); first | (with_reducible first | refine And.intro ?_ ?_ | refine WX.of ?_) | exact zc | ((with_reducible refine VC.mk ?_); exact zw) | (with_reducible first | refine splitT ?_ | refine splitF ?_) | ((with_reducible refine splitM.mk (fun hsm => ?_) (fun hsm => ?_)) <;> (try exact zx)) | ((with_reducible refine splitB.mk (fun h => ?_) (fun h => ?_)) <;> (try simp only [zs, ne_eq] at h) <;> (try simp (disch := omega) only [w64] at h) <;> (try exact zx)) | (with_reducible intro hz; (try exact absurd hz (Nat.succ_ne_zero _)))))
def s_idxTh (g : Nat) : Spec := fun args S => match args, S with
  | [.sl 0 s n x, .fn g' [.ptr 1 0 0]], [.arr (.prod .str (.prod (.prod (.int .i64) (.int .i64)) (.prod (.int .i64) (.int .i64)))) l 5 wr, .arr (.prod .str (.prod (.prod (.int .i64) (.int .i64)) (.prod (.int .i64) (.int .i64)))) [o] 0 true] => ⟨g' = g ∧ s + n ≤ l.length ∧ n ≤ 9223372036854775807, .int .i64 (findI (fun a : ThT => decide (a.1 = o.1)) (seg l s n)), [.arr (.prod .str (.prod (.prod (.int .i64) (.int .i64)) (.prod (.int .i64) (.int .i64)))) l 5 wr, .arr (.prod .str (.prod (.prod (.int .i64) (.int .i64)) (.prod (.int .i64) (.int .i64)))) [o] 0 true]⟩
  | _, _ => noSpec
theorem ok_idxTh : SpecOk Tryd.prog 150 (s_idxTh 121) := by
  intro args S h; unfold s_idxTh at h ⊢; (split at h <;> first | exact False.elim h | skip)
  dsimp only at h ⊢
  rename_i s n x g l wr o
  obtain ⟨rfl, h1, h2⟩ := h
  have hL := seg_len h1
  refine funW tabOk (E := [(121, s_cl1)]) ⟨ok_ValidBench1, trivial⟩ [] (k := 2) (fn := Tryd.f150) rfl rfl rfl rfl rfl rfl ?_
  (repeat' ((try (conv => whnf)); first | (with_reducible first | refine And.intro ?_ ?_ | refine WX.of ?_) | exact zc | ((with_reducible refine VC.mk ?_); exact zw) | (with_reducible first | refine splitT ?_ | refine splitF ?_) | ((with_reducible refine splitM.mk (fun hsm => ?_) (fun hsm => ?_)) <;> (try exact zx)) | ((with_reducible refine splitB.mk (fun h => ?_) (fun h => ?_)) <;> (try simp only [zs, ne_eq] at h) <;> (try simp (disch := omega) only [w64] at h) <;> (try exact zx)) | (with_reducible intro hz; (try exact absurd hz (Nat.succ_ne_zero _)))))
  refine loopW tabOk (E := [(121, s_cl1)]) ⟨ok_ValidBench1, trivial⟩ [] (σ := Nat) (fun i => [(0, .sl 0 s n x), (1, .fn 121 [.ptr 1 0 0]), (7, .int .i64 n), (8, .int .i64 i)]) (fun i => [.arr (.prod .str (.prod (.prod (.int .i64) (.int .i64)) (.prod (.int .i64) (.int .i64)))) l 5 wr, .arr (.prod .str (.prod (.prod (.int .i64) (.int .i64)) (.prod (.int .i64) (.int .i64)))) [o] 0 true]) (fun i => n - i) (fun i => i ≤ n ∧ ∀ (j : Nat) (a : ThT), j < i → (seg l s n)[j]? = some a → decide (a.1 = o.1) = false) 0 ⟨Nat.zero_le _, fun j a hj => by omega⟩ ?_ ?_
  · (repeat' ((try (conv => whnf)); first | (with_reducible first | refine And.intro ?_ ?_ | refine WX.of ?_) | exact zc | ((with_reducible refine VC.mk ?_); exact zw) | (with_reducible first | refine splitT ?_ | refine splitF ?_) | ((with_reducible refine splitM.mk (fun hsm => ?_) (fun hsm => ?_)) <;> (try exact zx)) | ((with_reducible refine splitB.mk (fun h => ?_) (fun h => ?_)) <;> (try simp only [zs, ne_eq] at h) <;> (try simp (disch := omega) only [w64] at h) <;> (try exact zx)) | (with_reducible intro hz; (try exact absurd hz (Nat.succ_ne_zero _)))))
  · intro i ⟨hi, hp⟩
    by_cases hlt : i < n
    · obtain ⟨⟨nm, ⟨p, q⟩, r, s0⟩, ha⟩ := get_some (l := seg l s n) (i := i) (by omega)
      (repeat' ((try (conv => whnf)); first | (with_reducible first | refine And.intro ?_ ?_ | refine WX.of ?_) | exact zc | ((with_reducible refine VC.mk ?_); exact zw) | with_reducible refine atL_i ha ?_ | (with_reducible first | refine splitT ?_ | refine splitF ?_) | ((with_reducible refine splitM.mk (fun hsm => ?_) (fun hsm => ?_)) <;> (try exact zx)) | ((with_reducible refine splitB.mk (fun h => ?_) (fun h => ?_)) <;> (try simp only [zs, ne_eq] at h) <;> (try simp (disch := omega) only [w64] at h) <;> (try exact zx)) | (with_reducible intro hz; (try exact absurd hz (Nat.succ_ne_zero _)))))
      · exact ⟨by rw [findI_some (p := fun a : ThT => decide (a.1 = o.1)) ha (decide_eq_true h) hp]⟩
      · refine ⟨i + 1, by omega, ⟨hlt, upto_step ha (decide_eq_false h) hp⟩, ?_⟩
        (repeat' ((try (conv => whnf)); first | (with_reducible first | refine And.intro ?_ ?_ | refine WX.of ?_) | exact zc | ((with_reducible refine VC.mk ?_); exact zw) | (with_reducible first | refine splitT ?_ | refine splitF ?_) | ((with_reducible refine splitM.mk (fun hsm => ?_) (fun hsm => ?_)) <;> (try exact zx)) | ((with_reducible refine splitB.mk (fun h => ?_) (fun h => ?_)) <;> (try simp only [zs, ne_eq] at h) <;> (try simp (disch := omega) only [w64] at h) <;> (try exact zx)) | (with_reducible intro hz; (try exact absurd hz (Nat.succ_ne_zero _)))))
    · (repeat' ((try (conv => whnf)); first | (with_reducible first | refine And.intro ?_ ?_ | refine WX.of ?_) | exact zc | ((with_reducible refine VC.mk ?_); exact zw) | (with_reducible first | refine splitT ?_ | refine splitF ?_) | ((with_reducible refine splitM.mk (fun hsm => ?_) (fun hsm => ?_)) <;> (try exact zx)) | ((with_reducible refine splitB.mk (fun h => ?_) (fun h => ?_)) <;> (try simp only [zs, ne_eq] at h) <;> (try simp (disch := omega) only [w64] at h) <;> (try exact zx)) | (with_reducible intro hz; (try exact absurd hz (Nat.succ_ne_zero _)))))
      exact ⟨by rw [findI_none (p := fun a : ThT => decide (a.1 = o.1)) fun j a hj => hp j a (by have := (List.getElem?_eq_some_iff.1 hj).1; omega) hj]⟩
def s_anyTh (g : Nat) : Spec := fun args S => match args, S with
  | [.sl 0 s n x, .fn g' [.ptr 1 0 0]], [.arr (.prod .str (.prod (.prod (.int .i64) (.int .i64)) (.prod (.int .i64) (.int .i64)))) l 5 wr, .arr (.prod .str (.prod (.prod (.int .i64) (.int .i64)) (.prod (.int .i64) (.int .i64)))) [o] 0 true] => ⟨g' = g ∧ s + n ≤ l.length ∧ n ≤ 9223372036854775807, .bool ((seg l s n).any (fun a : ThT => decide (a.1 = o.1))), [.arr (.prod .str (.prod (.prod (.int .i64) (.int .i64)) (.prod (.int .i64) (.int .i64)))) l 5 wr, .arr (.prod .str (.prod (.prod (.int .i64) (.int .i64)) (.prod (.int .i64) (.int .i64)))) [o] 0 true]⟩
  | _, _ => noSpec
theorem ok_anyTh : SpecOk Tryd.prog 120 (s_anyTh 121) := by
  intro args S h; unfold s_anyTh at h ⊢; (split at h <;> first | exact False.elim h | skip)
  dsimp only at h ⊢
  rename_i s n x g l wr o
  obtain ⟨rfl, h1, h2⟩ := h
  refine funW tabOk (E := [(150, (s_idxTh 121))]) ⟨ok_idxTh, trivial⟩ [] (k := 2) (fn := Tryd.f120) rfl rfl rfl rfl rfl rfl ?_
  (repeat' ((try (conv => whnf)); first | (with_reducible first | refine And.intro ?_ ?_ | refine WX.of ?_) | exact zc | ((with_reducible refine VC.mk ?_); exact zw) | (with_reducible first | refine splitT ?_ | refine splitF ?_) | ((with_reducible refine splitM.mk (fun hsm => ?_) (fun hsm => ?_)) <;> (try exact zx)) | ((with_reducible refine splitB.mk (fun h => ?_) (fun h => ?_)) <;> (try simp only [zs, ne_eq] at h) <;> (try simp (disch := omega) only [w64] at h) <;> (try exact zx)) | (with_reducible intro hz; (try exact absurd hz (Nat.succ_ne_zero _)))))
  exact ⟨by rw [findI_any]⟩
def s_vBench : Spec := fun args S => match args, S with
  | [.agg [.int .i64 up, .int .i64 uq, .sl 0 s n x, .int .i64 vp, .bool vb, .int .i64 gp, .int .i64 gq, .sl 1 t m y]], [.arr (.prod (.int .i64) (.int .i64)) l 2 wr, .arr (.prod .str (.prod (.prod (.int .i64) (.int .i64)) (.prod (.int .i64) (.int .i64)))) T 5 wT] => ⟨(s + n ≤ l.length ∧ n ≤ 1048576) ∧ (t + m ≤ T.length ∧ m ≤ 1048576) ∧ ∀ (j : Nat) (a : ThT), T[j]? = some a → a.1.length < 9223372036854775808, .bool (bnB up uq vp gp gq (seg l s n) (seg T t m)), [.arr (.prod (.int .i64) (.int .i64)) l 2 wr, .arr (.prod .str (.prod (.prod (.int .i64) (.int .i64)) (.prod (.int .i64) (.int .i64)))) T 5 wT]⟩
  | _, _ => noSpec
theorem ok_ValidBenchI : SpecOk Tryd.prog 66 s_vBench := by
  intro args S h; unfold s_vBench at h ⊢; (split at h <;> first | exact False.elim h | skip)
  dsimp only at h ⊢
  rename_i up uq s n x vp vb gp gq t m y l wr T wT
  obtain ⟨⟨h1, h2⟩, ⟨h3, h4⟩, ho⟩ := h
  have hL := seg_len h1
  have hM := seg_len h3
  refine funW tabOk (E := [(106, s_word), (120, (s_anyTh 121)), (102, s_fOk), (122, s_num), (103, s_cmp), (123, s_gw), (124, s_vScale), (125, s_ver)]) ⟨ok_isWord, ok_anyTh, ok_ValidFrac, ok_num, ok_compare, ok_isGrowth, ok_ValidScale, ok_ValidVernier, trivial⟩ [(6, [(12, 2)])] (k := 2) (fn := Tryd.f66) rfl rfl rfl rfl rfl rfl ?_
  (repeat' ((try (conv => whnf)); first | (with_reducible first | refine And.intro ?_ ?_ | refine WX.of ?_) | exact zc | ((with_reducible refine VC.mk ?_); exact zw) | (with_reducible first | refine splitT ?_ | refine splitF ?_) | ((with_reducible refine splitM.mk (fun hsm => ?_) (fun hsm => ?_)) <;> (try exact zx)) | ((with_reducible refine splitB.mk (fun h => ?_) (fun h => ?_)) <;> (try simp only [zs, ne_eq] at h) <;> (try simp (disch := omega) only [w64] at h) <;> (try exact zx)) | (with_reducible intro hz; (try exact absurd hz (Nat.succ_ne_zero _)))))
  refine loopW tabOk (E := [(106, s_word), (120, (s_anyTh 121)), (102, s_fOk), (122, s_num), (103, s_cmp), (123, s_gw), (124, s_vScale), (125, s_ver)]) ⟨ok_isWord, ok_anyTh, ok_ValidFrac, ok_num, ok_compare, ok_isGrowth, ok_ValidScale, ok_ValidVernier, trivial⟩ [(6, [(12, 2)])] (σ := Nat) (fun i => [(1, .ptr 2 0 0), (6, .sl 1 t m y), (7, .int .i64 m), (8, .int .i64 i)]) (fun i => [.arr (.prod (.int .i64) (.int .i64)) l 2 wr, .arr (.prod .str (.prod (.prod (.int .i64) (.int .i64)) (.prod (.int .i64) (.int .i64)))) T 5 wT, .box [.int .i64 up, .int .i64 uq, .sl 0 s n x, .int .i64 vp, .bool vb, .int .i64 gp, .int .i64 gq, .sl 1 t m y] true false]) (fun i => m - i) (fun i => i ≤ m ∧ ∀ (j : Nat) (a : ThT), j < i → (seg T t m)[j]? = some a → thB (seg T t m) j a = true) 0 ⟨Nat.zero_le _, fun j a hj => by omega⟩ ?_ ?_
  · (repeat' ((try (conv => whnf)); first | (with_reducible first | refine And.intro ?_ ?_ | refine WX.of ?_) | exact zc | ((with_reducible refine VC.mk ?_); exact zw) | (with_reducible first | refine splitT ?_ | refine splitF ?_) | ((with_reducible refine splitM.mk (fun hsm => ?_) (fun hsm => ?_)) <;> (try exact zx)) | ((with_reducible refine splitB.mk (fun h => ?_) (fun h => ?_)) <;> (try simp only [zs, ne_eq] at h) <;> (try simp (disch := omega) only [w64] at h) <;> (try exact zx)) | (with_reducible intro hz; (try exact absurd hz (Nat.succ_ne_zero _)))))
  · intro i ⟨hi, hp⟩
    by_cases hlt : i < m
    · obtain ⟨⟨nm, ⟨p, q⟩, r, s0⟩, ha⟩ := get_some (l := seg T t m) (i := i) (by omega)
      have hno := ho _ _ (seg_get ha).1
      dsimp only at hno
      have hsg := seg_take (l := T) (s := t) (m := m) (i := i) (by omega)
      (repeat' ((try (conv => whnf)); first | (with_reducible first | refine And.intro ?_ ?_ | refine WX.of ?_) | exact zc | ((with_reducible refine VC.mk ?_); exact zw) | with_reducible refine atL_i ha ?_ | (with_reducible first | refine splitT ?_ | refine splitF ?_) | ((with_reducible refine splitM.mk (fun hsm => ?_) (fun hsm => ?_)) <;> (try exact zx)) | ((with_reducible refine splitB.mk (fun h => ?_) (fun h => ?_)) <;> (try simp only [zs, ne_eq] at h) <;> (try simp (disch := omega) only [w64] at h) <;> (try exact zx)) | (with_reducible intro hz; (try exact absurd hz (Nat.succ_ne_zero _)))))
      · exact ⟨congrArg SV.bool (by rw [bn_no ha (by simp only [thB, h, Bool.false_and])])⟩
      · rw [Int.toNat_natCast, hsg] at h
        exact ⟨congrArg SV.bool (by rw [bn_no ha (by simp only [thB, h, Bool.not_true, Bool.and_false, Bool.false_and])])⟩
      · exact ⟨congrArg SV.bool (by rw [bn_no ha (by simp only [thB, wi_no0 h, Bool.and_false, Bool.false_and])])⟩
      · exact ⟨congrArg SV.bool (by rw [bn_no ha (by simp only [thB, wi_no1 h, Bool.and_false, Bool.false_and])])⟩
      · exact ⟨⟨smF_ok (by assumption), smF_1 (by omega)⟩⟩
      · exact ⟨congrArg SV.bool (by rw [bn_no ha (by simp only [thB, wi_no2 h, Bool.and_false, Bool.false_and])])⟩
      · exact ⟨congrArg SV.bool (by rw [bn_no ha (by simp only [thB, h, Bool.and_false])])⟩
      · rename_i hw hn hf hp0 hcm
        rw [Int.toNat_natCast, hsg] at hn
        have hth : thB (seg T t m) i (nm, (p, q), r, s0) = true := by
          simp only [thB, wi_yes hf hp0 hcm, hw, hn, h, Bool.not_false, Bool.and_self]
        refine ⟨i + 1, by omega, ⟨hlt, upto_step2 ha hth hp⟩, ?_⟩
        (repeat' ((try (conv => whnf)); first | (with_reducible first | refine And.intro ?_ ?_ | refine WX.of ?_) | exact zc | ((with_reducible refine VC.mk ?_); exact zw) | (with_reducible first | refine splitT ?_ | refine splitF ?_) | ((with_reducible refine splitM.mk (fun hsm => ?_) (fun hsm => ?_)) <;> (try exact zx)) | ((with_reducible refine splitB.mk (fun h => ?_) (fun h => ?_)) <;> (try simp only [zs, ne_eq] at h) <;> (try simp (disch := omega) only [w64] at h) <;> (try exact zx)) | (with_reducible intro hz; (try exact absurd hz (Nat.succ_ne_zero _)))))
    · obtain rfl : i = m := by omega
      have hbn := bn_yes (up := up) (uq := uq) (vp := vp) (gp := gp) (gq := gq) (E := seg l s n) (T := seg T t i) fun k a ha => hp k a (by have := (List.getElem?_eq_some_iff.1 ha).1; omega) ha
      (repeat' ((try (conv => whnf)); first | (with_reducible first | refine And.intro ?_ ?_ | refine WX.of ?_) | exact zc | ((with_reducible refine VC.mk ?_); exact zw) | (with_reducible first | refine splitT ?_ | refine splitF ?_) | ((with_reducible refine splitM.mk (fun hsm => ?_) (fun hsm => ?_)) <;> (try exact zx)) | ((with_reducible refine splitB.mk (fun h => ?_) (fun h => ?_)) <;> (try simp only [zs, ne_eq] at h) <;> (try simp (disch := omega) only [w64] at h) <;> (try exact zx)) | (with_reducible intro hz; (try exact absurd hz (Nat.succ_ne_zero _)))))
      · rename_i hsc hv
        exact ⟨congrArg SV.bool (by rw [hbn, hM, hsc, h, show decide (2 ≤ vp ∧ vp ≤ 40) = true from decide_eq_true hv, Bool.true_and, Bool.true_and, Bool.true_and, decide_eq_decide]; omega)⟩
      · exact ⟨congrArg SV.bool (by rw [hbn, h, Bool.and_false, Bool.false_and])⟩
      · exact ⟨congrArg SV.bool (by rw [hbn, decide_eq_false h, Bool.and_false, Bool.false_and, Bool.false_and])⟩
      · exact ⟨congrArg SV.bool (by rw [hbn, h, Bool.false_and, Bool.false_and, Bool.false_and])⟩
def s_l07Ok : Spec := fun args S => match args, S with
  | [.ptr 0 0 0], [.box [.int .i64 up, .int .i64 uq, .sl 1 s n x, .int .i64 vp, .bool vb, .int .i64 gp, .int .i64 gq, .sl 2 t m y] true false, .arr (.prod (.int .i64) (.int .i64)) l 2 wr, .arr (.prod .str (.prod (.prod (.int .i64) (.int .i64)) (.prod (.int .i64) (.int .i64)))) T 5 wT] => ⟨(s + n ≤ l.length ∧ n ≤ 1048576) ∧ (t + m ≤ T.length ∧ m ≤ 1048576) ∧ ∀ (j : Nat) (a : ThT), T[j]? = some a → a.1.length < 9223372036854775808, .bool (bnB up uq vp gp gq (seg l s n) (seg T t m)), [.box [.int .i64 up, .int .i64 uq, .sl 1 s n x, .int .i64 vp, .bool vb, .int .i64 gp, .int .i64 gq, .sl 2 t m y] true false, .arr (.prod (.int .i64) (.int .i64)) l 2 wr, .arr (.prod .str (.prod (.prod (.int .i64) (.int .i64)) (.prod (.int .i64) (.int .i64)))) T 5 wT]⟩
  | _, _ => noSpec
theorem ok_l07Ok : SpecOk Tryd.prog 61 s_l07Ok := by
  intro args S h; unfold s_l07Ok at h ⊢; (split at h <;> first | exact False.elim h | skip)
  dsimp only at h ⊢
  rename_i up uq s n x vp vb gp gq t m y l wr T wT
  obtain ⟨⟨h1, h2⟩, ⟨h3, h4⟩, ho⟩ := h
  have hL := seg_len h1
  have hM := seg_len h3
  refine funW tabOk (E := [(112, s_l02Ok), (113, s_l02Ver), (114, s_gw), (115, s_word), (116, s_wi)]) ⟨ok_l02Ok, ok_l02Vernier, ok_l07Grows, ok_l07Name, ok_l02Within, trivial⟩ [] (k := 3) (fn := Tryd.f61) rfl rfl rfl rfl rfl rfl ?_
  (repeat' ((try (conv => whnf)); first | (with_reducible first | refine And.intro ?_ ?_ | refine WX.of ?_) | exact zc | ((with_reducible refine VC.mk ?_); exact zw) | (with_reducible first | refine splitT ?_ | refine splitF ?_) | ((with_reducible refine splitM.mk (fun hsm => ?_) (fun hsm => ?_)) <;> (try exact zx)) | ((with_reducible refine splitB.mk (fun h => ?_) (fun h => ?_)) <;> (try simp only [zs, ne_eq] at h) <;> (try simp (disch := omega) only [w64] at h) <;> (try exact zx)) | (with_reducible intro hz; (try exact absurd hz (Nat.succ_ne_zero _)))))
  · exact ⟨congrArg SV.bool (by unfold bnB; rw [h, Bool.false_and, Bool.false_and, Bool.false_and, Bool.false_and])⟩
  · exact ⟨congrArg SV.bool (by unfold bnB; rw [decide_eq_false h, Bool.and_false, Bool.false_and, Bool.false_and, Bool.false_and])⟩
  · exact ⟨congrArg SV.bool (by unfold bnB; rw [h, Bool.and_false, Bool.false_and, Bool.false_and])⟩
  · exact ⟨congrArg SV.bool (by unfold bnB; rw [hM, show decide (m ≤ 10) = false from decide_eq_false (by omega), Bool.and_false, Bool.false_and])⟩
  · rename_i hsc hv hg
    have hm10 := h
    refine loopW tabOk (E := [(112, s_l02Ok), (113, s_l02Ver), (114, s_gw), (115, s_word), (116, s_wi)]) ⟨ok_l02Ok, ok_l02Vernier, ok_l07Grows, ok_l07Name, ok_l02Within, trivial⟩ [] (σ := Nat) (fun i => [(0, .ptr 0 0 0), (3, .int .i64 i)]) (fun i => [.box [.int .i64 up, .int .i64 uq, .sl 1 s n x, .int .i64 vp, .bool vb, .int .i64 gp, .int .i64 gq, .sl 2 t m y] true false, .arr (.prod (.int .i64) (.int .i64)) l 2 wr, .arr (.prod .str (.prod (.prod (.int .i64) (.int .i64)) (.prod (.int .i64) (.int .i64)))) T 5 wT]) (fun i => m - i) (fun i => i ≤ m ∧ ∀ (j : Nat) (a : ThT), j < i → (seg T t m)[j]? = some a → thB (seg T t m) j a = true) 0 ⟨Nat.zero_le _, fun j a hj => by omega⟩ ?_ ?_
    · (repeat' ((try (conv => whnf)); first | (with_reducible first | refine And.intro ?_ ?_ | refine WX.of ?_) | exact zc | ((with_reducible refine VC.mk ?_); exact zw) | (with_reducible first | refine splitT ?_ | refine splitF ?_) | ((with_reducible refine splitM.mk (fun hsm => ?_) (fun hsm => ?_)) <;> (try exact zx)) | ((with_reducible refine splitB.mk (fun h => ?_) (fun h => ?_)) <;> (try simp only [zs, ne_eq] at h) <;> (try simp (disch := omega) only [w64] at h) <;> (try exact zx)) | (with_reducible intro hz; (try exact absurd hz (Nat.succ_ne_zero _)))))
    · intro i ⟨hi, hp⟩
      by_cases hlt : i < m
      · obtain ⟨⟨nm, ⟨p, q⟩, r, s0⟩, ha⟩ := get_some (l := seg T t m) (i := i) (by omega)
        have hno := ho _ _ (seg_get ha).1
        dsimp only at hno
        (repeat' ((try (conv => whnf)); first | (with_reducible first | refine And.intro ?_ ?_ | refine WX.of ?_) | exact zc | ((with_reducible refine VC.mk ?_); exact zw) | with_reducible refine atL_i ha ?_ | (with_reducible first | refine splitT ?_ | refine splitF ?_) | ((with_reducible refine splitM.mk (fun hsm => ?_) (fun hsm => ?_)) <;> (try exact zx)) | ((with_reducible refine splitB.mk (fun h => ?_) (fun h => ?_)) <;> (try simp only [zs, ne_eq] at h) <;> (try simp (disch := omega) only [w64] at h) <;> (try exact zx)) | (with_reducible intro hz; (try exact absurd hz (Nat.succ_ne_zero _)))))
        · exact ⟨congrArg SV.bool (by rw [bn_no ha (by simp only [thB, h, Bool.false_and])])⟩
        · exact ⟨congrArg SV.bool (by rw [bn_no ha (by simp only [thB, h, Bool.and_false, Bool.false_and])])⟩
        · exact ⟨congrArg SV.bool (by rw [bn_no ha (by simp only [thB, h, Bool.and_false])])⟩
        · rename_i hw hwi
          have hgw := h
          refine loopW tabOk (E := [(112, s_l02Ok), (113, s_l02Ver), (114, s_gw), (115, s_word), (116, s_wi)]) ⟨ok_l02Ok, ok_l02Vernier, ok_l07Grows, ok_l07Name, ok_l02Within, trivial⟩ [] (σ := Nat) (fun j => [(0, .ptr 0 0 0), (3, .int .i64 i), (4, .ptr 2 (t + i) 0), (5, .int .i64 j)]) (fun j => [.box [.int .i64 up, .int .i64 uq, .sl 1 s n x, .int .i64 vp, .bool vb, .int .i64 gp, .int .i64 gq, .sl 2 t m y] true false, .arr (.prod (.int .i64) (.int .i64)) l 2 wr, .arr (.prod .str (.prod (.prod (.int .i64) (.int .i64)) (.prod (.int .i64) (.int .i64)))) T 5 wT]) (fun j => i - j) (fun j => j ≤ i ∧ ∀ (k : Nat) (a : ThT), k < j → (seg T t m)[k]? = some a → decide (a.1 = nm) = false) 0 ⟨Nat.zero_le _, fun j a hj => by omega⟩ ?_ ?_
          · (repeat' ((try (conv => whnf)); first | (with_reducible first | refine And.intro ?_ ?_ | refine WX.of ?_) | exact zc | ((with_reducible refine VC.mk ?_); exact zw) | (with_reducible first | refine splitT ?_ | refine splitF ?_) | ((with_reducible refine splitM.mk (fun hsm => ?_) (fun hsm => ?_)) <;> (try exact zx)) | ((with_reducible refine splitB.mk (fun h => ?_) (fun h => ?_)) <;> (try simp only [zs, ne_eq] at h) <;> (try simp (disch := omega) only [w64] at h) <;> (try exact zx)) | (with_reducible intro hz; (try exact absurd hz (Nat.succ_ne_zero _)))))
          · intro j ⟨hj, hq⟩
            by_cases hjl : j < i
            · obtain ⟨⟨nm', ⟨p', q'⟩, r', s0'⟩, hb⟩ := get_some (l := seg T t m) (i := j) (by omega)
              (repeat' ((try (conv => whnf)); first | (with_reducible first | refine And.intro ?_ ?_ | refine WX.of ?_) | exact zc | ((with_reducible refine VC.mk ?_); exact zw) | with_reducible refine atL_i hb ?_ | with_reducible refine atL_p (seg_get ha).1 ?_ | (with_reducible first | refine splitT ?_ | refine splitF ?_) | ((with_reducible refine splitM.mk (fun hsm => ?_) (fun hsm => ?_)) <;> (try exact zx)) | ((with_reducible refine splitB.mk (fun h => ?_) (fun h => ?_)) <;> (try simp only [zs, ne_eq] at h) <;> (try simp (disch := omega) only [w64] at h) <;> (try exact zx)) | (with_reducible intro hz; (try exact absurd hz (Nat.succ_ne_zero _)))))
              · exact ⟨congrArg SV.bool (by rw [bn_no ha (by simp only [thB, any_take hb hjl (p := fun o : ThT => decide (o.1 = nm)) (decide_eq_true h), Bool.not_true, Bool.and_false, Bool.false_and])])⟩
              · refine ⟨j + 1, by omega, ⟨hjl, upto_step hb (decide_eq_false h) hq⟩, ?_⟩
                (repeat' ((try (conv => whnf)); first | (with_reducible first | refine And.intro ?_ ?_ | refine WX.of ?_) | exact zc | ((with_reducible refine VC.mk ?_); exact zw) | (with_reducible first | refine splitT ?_ | refine splitF ?_) | ((with_reducible refine splitM.mk (fun hsm => ?_) (fun hsm => ?_)) <;> (try exact zx)) | ((with_reducible refine splitB.mk (fun h => ?_) (fun h => ?_)) <;> (try simp only [zs, ne_eq] at h) <;> (try simp (disch := omega) only [w64] at h) <;> (try exact zx)) | (with_reducible intro hz; (try exact absurd hz (Nat.succ_ne_zero _)))))
            · have han : ((seg T t m).take i).any (fun o : ThT => decide (o.1 = nm)) = false := any_no fun k a hk => by
                rw [List.getElem?_take] at hk
                split at hk
                · exact hq k a (by omega) hk
                · simp at hk
              have hth : thB (seg T t m) i (nm, (p, q), r, s0) = true := by
                simp only [thB, hw, hwi, hgw, han, Bool.not_false, Bool.and_self]
              (repeat' ((try (conv => whnf)); first | (with_reducible first | refine And.intro ?_ ?_ | refine WX.of ?_) | exact zc | ((with_reducible refine VC.mk ?_); exact zw) | (with_reducible first | refine splitT ?_ | refine splitF ?_) | ((with_reducible refine splitM.mk (fun hsm => ?_) (fun hsm => ?_)) <;> (try exact zx)) | ((with_reducible refine splitB.mk (fun h => ?_) (fun h => ?_)) <;> (try simp only [zs, ne_eq] at h) <;> (try simp (disch := omega) only [w64] at h) <;> (try exact zx)) | (with_reducible intro hz; (try exact absurd hz (Nat.succ_ne_zero _)))))
              refine ⟨i + 1, by omega, ⟨hlt, upto_step2 ha hth hp⟩, ?_⟩
              (repeat' ((try (conv => whnf)); first | (with_reducible first | refine And.intro ?_ ?_ | refine WX.of ?_) | exact zc | ((with_reducible refine VC.mk ?_); exact zw) | (with_reducible first | refine splitT ?_ | refine splitF ?_) | ((with_reducible refine splitM.mk (fun hsm => ?_) (fun hsm => ?_)) <;> (try exact zx)) | ((with_reducible refine splitB.mk (fun h => ?_) (fun h => ?_)) <;> (try simp only [zs, ne_eq] at h) <;> (try simp (disch := omega) only [w64] at h) <;> (try exact zx)) | (with_reducible intro hz; (try exact absurd hz (Nat.succ_ne_zero _)))))
      · obtain rfl : i = m := by omega
        have hbn := bn_yes (up := up) (uq := uq) (vp := vp) (gp := gp) (gq := gq) (E := seg l s n) (T := seg T t i) fun k a ha => hp k a (by have := (List.getElem?_eq_some_iff.1 ha).1; omega) ha
        (repeat' ((try (conv => whnf)); first | (with_reducible first | refine And.intro ?_ ?_ | refine WX.of ?_) | exact zc | ((with_reducible refine VC.mk ?_); exact zw) | (with_reducible first | refine splitT ?_ | refine splitF ?_) | ((with_reducible refine splitM.mk (fun hsm => ?_) (fun hsm => ?_)) <;> (try exact zx)) | ((with_reducible refine splitB.mk (fun h => ?_) (fun h => ?_)) <;> (try simp only [zs, ne_eq] at h) <;> (try simp (disch := omega) only [w64] at h) <;> (try exact zx)) | (with_reducible intro hz; (try exact absurd hz (Nat.succ_ne_zero _)))))
        exact ⟨congrArg SV.bool (by rw [hbn, hM, hsc, hg, show decide (2 ≤ vp ∧ vp ≤ 40) = true from decide_eq_true hv, show decide (i ≤ 10) = true from decide_eq_true (by omega)]; rfl)⟩
end Go.Proofs.YtinaincgimoanaaDoor.Eng
set_option linter.unusedVariables false
set_option linter.unusedSimpArgs false
namespace Go.Proofs.YtinaincgimoanaaDoor.Eng
open Go Go.RowKit
set_option maxRecDepth 100000
/-- A thing's line; things' lines; a bench's lines. -/
def thTx (a : ThT) : List UInt8 := ((((a.1 ++ [32]) ++ frT a.2.1.1 a.2.1.2) ++ [32]) ++ frT a.2.2.1 a.2.2.2) ++ [10]
def thsT (L : List ThT) : List UInt8 := L.flatMap thTx
def scT (up uq : Int) (E : List (Int × Int)) : List UInt8 := frT up uq ++ E.flatMap fun a => [32] ++ frT a.1 a.2
def bnH (up uq vp : Int) (vb : Bool) (gp gq : Int) (E : List (Int × Int)) : List UInt8 := ((((scT up uq E ++ [10]) ++ dcl vp) ++ (if vb = true then [32, 98, 97, 99, 107, 32] else [32, 111, 110, 32])) ++ frT gp gq) ++ [10]
def bnT (up uq vp : Int) (vb : Bool) (gp gq : Int) (E : List (Int × Int)) (T : List ThT) : List UInt8 := bnH up uq vp vb gp gq E ++ thsT T
theorem frsT_sc (a : Int × Int) : ∀ E : List (Int × Int), frsT (a :: E) = scT a.1 a.2 E
  | [] => by simp [frsT, scT, Lib.join, List.intercalate]
  | b :: E => by
    have e : frsT (a :: b :: E) = frT a.1 a.2 ++ ([32] ++ frsT (b :: E)) := by
      simp [frsT, Lib.join, List.intercalate, List.intersperse]
    rw [e, frsT_sc b E]
    simp [scT]
theorem scT_len (up uq : Int) : ∀ E : List (Int × Int), (scT up uq E).length ≤ 41 + 41 * E.length := fun E => by
  rw [← frsT_sc (up, uq) E]
  have := frsT_len (L := (up, uq) :: E)
  simp only [List.length_cons] at this
  omega
theorem scT_s {up uq : Int} {E : List (Int × Int)} {i : Nat} {a : Int × Int} (h : E[i]? = some a) : scT up uq (E.take (i + 1)) = scT up uq (E.take i) ++ ([32] ++ frT a.1 a.2) := by
  obtain ⟨hi, rfl⟩ := List.getElem?_eq_some_iff.1 h
  unfold scT
  rw [List.take_succ_eq_append_getElem hi, List.flatMap_append]
  simp
structure BnOk (up uq vp gp gq : Int) (E : List (Int × Int)) (T : List ThT) : Prop where
  un : fOk up uq = true
  er : allF E = true
  vr : 2 ≤ vp ∧ vp ≤ 40
  gr : fOk gp gq = true
  el : E.length ≤ 60
  tl : T.length ≤ 10
  th : ∀ (k : Nat) (a : ThT), T[k]? = some a → wordB a.1 = true ∧ fOk a.2.1.1 a.2.1.2 = true ∧ fOk a.2.2.1 a.2.2.2 = true
  sc : scB up uq E = true
theorem scF {up uq : Int} {E : List (Int × Int)} (h : scB up uq E = true) : allF E = true := by
  unfold scB at h
  simp only [Bool.and_eq_true] at h
  unfold allF
  rw [List.all_eq_true]
  intro a ha
  obtain ⟨k, hk⟩ := List.getElem?_of_mem ha
  have := allI_at h.2 hk
  unfold elB at this
  simp only [Bool.and_eq_true] at this
  exact this.1.1
theorem scU {up uq : Int} {E : List (Int × Int)} (h : scB up uq E = true) : fOk up uq = true ∧ E.length ≤ 60 := by
  unfold scB at h
  simp only [Bool.and_eq_true, decide_eq_true_eq] at h
  exact ⟨h.1.1.1, h.1.2.2⟩
theorem bnOk {up uq vp gp gq : Int} {E : List (Int × Int)} {T : List ThT} (h : bnB up uq vp gp gq E T = true) : BnOk up uq vp gp gq E T := by
  unfold bnB at h
  simp only [Bool.and_eq_true, decide_eq_true_eq] at h
  obtain ⟨⟨⟨⟨hs, hv⟩, hg⟩, hT⟩, ht⟩ := h
  refine ⟨(scU hs).1, scF hs, hv, ?_, (scU hs).2, hT, fun k a ha => ?_, hs⟩
  · unfold gwB at hg; simp only [Bool.and_eq_true] at hg; exact hg.1.1
  · have := allI_at ht ha
    unfold thB wiB gwB at this
    simp only [Bool.and_eq_true] at this
    exact ⟨this.1.1, this.2.1.1.1, this.2.2.1.1⟩
theorem thTx_len {a : ThT} (h : wordB a.1 = true) : (thTx a).length ≤ 100 := by
  unfold wordB at h
  simp only [Bool.and_eq_true, decide_eq_true_eq] at h
  have h1 := frT_len a.2.1.1 a.2.1.2
  have h2 := frT_len a.2.2.1 a.2.2.2
  unfold thTx
  simp only [List.length_append, List.length_cons, List.length_nil]
  omega
theorem thsT_s {L : List ThT} {i : Nat} {a : ThT} (h : L[i]? = some a) : thsT (L.take (i + 1)) = thsT (L.take i) ++ thTx a := by
  obtain ⟨hi, rfl⟩ := List.getElem?_eq_some_iff.1 h
  unfold thsT
  rw [List.take_succ_eq_append_getElem hi, List.flatMap_append]
  simp
theorem thsT_len {L : List ThT} (h : ∀ (k : Nat) (a : ThT), L[k]? = some a → wordB a.1 = true) : ∀ i, i ≤ L.length → (thsT (L.take i)).length ≤ 100 * i
  | 0, _ => by simp [thsT]
  | i + 1, hi => by
    obtain ⟨a, ha⟩ := get_some (l := L) (i := i) (by omega)
    rw [thsT_s ha, List.length_append]
    have := thTx_len (h i a ha)
    have := thsT_len h i (by omega)
    omega
def s_l02Text : Spec := fun args S => match args, S with
  | [.ptr 0 0 0], [.box [.int .i64 up, .int .i64 uq, .sl 1 s n x, .int .i64 vp, .bool vb, .int .i64 gp, .int .i64 gq, .sl 2 t m y] true false, .arr (.prod (.int .i64) (.int .i64)) l 2 wr, .arr (.prod .str (.prod (.prod (.int .i64) (.int .i64)) (.prod (.int .i64) (.int .i64)))) T 5 wT] => ⟨(s + n ≤ l.length ∧ n ≤ 1048576) ∧ scB up uq (seg l s n) = true, .str (scT up uq (seg l s n)), [.box [.int .i64 up, .int .i64 uq, .sl 1 s n x, .int .i64 vp, .bool vb, .int .i64 gp, .int .i64 gq, .sl 2 t m y] true false, .arr (.prod (.int .i64) (.int .i64)) l 2 wr, .arr (.prod .str (.prod (.prod (.int .i64) (.int .i64)) (.prod (.int .i64) (.int .i64)))) T 5 wT]⟩
  | _, _ => noSpec
theorem ok_l02Text : SpecOk Tryd.prog 117 s_l02Text := by
  intro args S h; unfold s_l02Text at h ⊢; (split at h <;> first | exact False.elim h | skip)
  dsimp only at h ⊢
  rename_i up uq s n x vp vb gp gq t m y l wr T wT
  obtain ⟨⟨h1, h2⟩, hs⟩ := h
  have hL := seg_len h1
  obtain ⟨hu, hn⟩ := scU hs
  have su := smF_ok hu
  have l1 := frT_len up uq
  refine funW tabOk (E := [(98, s_frT)]) ⟨ok_l01Text, trivial⟩ [] (k := 3) (fn := Tryd.f117) rfl rfl rfl rfl rfl rfl ?_
  (repeat' ((try (conv => whnf)); first | (with_reducible first | refine And.intro ?_ ?_ | refine WX.of ?_) | exact zc | ((with_reducible refine VC.mk ?_); exact zw) | ((with_reducible refine VC.mk ?_); exact su) | (with_reducible first | refine splitT ?_ | refine splitF ?_) | ((with_reducible refine splitM.mk (fun hsm => ?_) (fun hsm => ?_)) <;> (try exact zx)) | ((with_reducible refine splitB.mk (fun h => ?_) (fun h => ?_)) <;> (try simp only [zs, ne_eq] at h) <;> (try simp (disch := omega) only [w64] at h) <;> (try exact zx)) | (with_reducible intro hz; (try exact absurd hz (Nat.succ_ne_zero _)))))
  refine loopW tabOk (E := [(98, s_frT)]) ⟨ok_l01Text, trivial⟩ [] (σ := Nat) (fun i => [(0, .ptr 0 0 0), (3, .str (scT up uq ((seg l s n).take i))), (4, .int .i64 i)]) (fun i => [.box [.int .i64 up, .int .i64 uq, .sl 1 s n x, .int .i64 vp, .bool vb, .int .i64 gp, .int .i64 gq, .sl 2 t m y] true false, .arr (.prod (.int .i64) (.int .i64)) l 2 wr, .arr (.prod .str (.prod (.prod (.int .i64) (.int .i64)) (.prod (.int .i64) (.int .i64)))) T 5 wT]) (fun i => n - i) (fun i => i ≤ n) 0 (Nat.zero_le _) ?_ ?_
  · (repeat' ((try (conv => whnf)); first | (with_reducible first | refine And.intro ?_ ?_ | refine WX.of ?_) | exact zc | ((with_reducible refine VC.mk ?_); exact zw) | (with_reducible first | refine splitT ?_ | refine splitF ?_) | ((with_reducible refine splitM.mk (fun hsm => ?_) (fun hsm => ?_)) <;> (try exact zx)) | ((with_reducible refine splitB.mk (fun h => ?_) (fun h => ?_)) <;> (try simp only [zs, ne_eq] at h) <;> (try simp (disch := omega) only [w64] at h) <;> (try exact zx)) | (with_reducible intro hz; (try exact absurd hz (Nat.succ_ne_zero _)))))
    all_goals (refine ⟨?_⟩; simp [scT])
  · intro i hi
    have hlen := scT_len up uq ((seg l s n).take i)
    rw [List.length_take] at hlen
    by_cases hlt : i < n
    · obtain ⟨⟨p, q⟩, ha⟩ := get_some (l := seg l s n) (i := i) (by omega)
      have hf := smF_ok (show fOk p q = true from allF_all (scF hs) ha)
      have l2 := frT_len p q
      (repeat' ((try (conv => whnf)); first | (with_reducible first | refine And.intro ?_ ?_ | refine WX.of ?_) | exact zc | ((with_reducible refine VC.mk ?_); exact zw) | with_reducible refine atL_i ha ?_ | ((with_reducible refine VC.mk ?_); exact hf) | (with_reducible first | refine splitT ?_ | refine splitF ?_) | ((with_reducible refine splitM.mk (fun hsm => ?_) (fun hsm => ?_)) <;> (try exact zx)) | ((with_reducible refine splitB.mk (fun h => ?_) (fun h => ?_)) <;> (try simp only [zs, ne_eq] at h) <;> (try simp (disch := omega) only [w64] at h) <;> (try exact zx)) | (with_reducible intro hz; (try exact absurd hz (Nat.succ_ne_zero _)))))
      all_goals first
        | (refine ⟨?_⟩; simp; omega)
        | skip
      refine ⟨i + 1, by omega, hlt, ?_⟩
      rw [scT_s ha]
      (repeat' ((try (conv => whnf)); first | (with_reducible first | refine And.intro ?_ ?_ | refine WX.of ?_) | exact zc | ((with_reducible refine VC.mk ?_); exact zw) | (with_reducible first | refine splitT ?_ | refine splitF ?_) | ((with_reducible refine splitM.mk (fun hsm => ?_) (fun hsm => ?_)) <;> (try exact zx)) | ((with_reducible refine splitB.mk (fun h => ?_) (fun h => ?_)) <;> (try simp only [zs, ne_eq] at h) <;> (try simp (disch := omega) only [w64] at h) <;> (try exact zx)) | (with_reducible intro hz; (try exact absurd hz (Nat.succ_ne_zero _)))))
    · obtain rfl : i = n := by omega
      rw [List.take_of_length_le (by omega)]
      (repeat' ((try (conv => whnf)); first | (with_reducible first | refine And.intro ?_ ?_ | refine WX.of ?_) | exact zc | ((with_reducible refine VC.mk ?_); exact zw) | (with_reducible first | refine splitT ?_ | refine splitF ?_) | ((with_reducible refine splitM.mk (fun hsm => ?_) (fun hsm => ?_)) <;> (try exact zx)) | ((with_reducible refine splitB.mk (fun h => ?_) (fun h => ?_)) <;> (try simp only [zs, ne_eq] at h) <;> (try simp (disch := omega) only [w64] at h) <;> (try exact zx)) | (with_reducible intro hz; (try exact absurd hz (Nat.succ_ne_zero _)))))
def s_l07Text : Spec := fun args S => match args, S with
  | [.ptr 0 0 0], [.box [.int .i64 up, .int .i64 uq, .sl 1 s n x, .int .i64 vp, .bool vb, .int .i64 gp, .int .i64 gq, .sl 2 t m y] true false, .arr (.prod (.int .i64) (.int .i64)) l 2 wr, .arr (.prod .str (.prod (.prod (.int .i64) (.int .i64)) (.prod (.int .i64) (.int .i64)))) T 5 wT] => ⟨(s + n ≤ l.length ∧ n ≤ 1048576) ∧ (t + m ≤ T.length ∧ m ≤ 1048576) ∧ bnB up uq vp gp gq (seg l s n) (seg T t m) = true, .str (bnT up uq vp vb gp gq (seg l s n) (seg T t m)), [.box [.int .i64 up, .int .i64 uq, .sl 1 s n x, .int .i64 vp, .bool vb, .int .i64 gp, .int .i64 gq, .sl 2 t m y] true false, .arr (.prod (.int .i64) (.int .i64)) l 2 wr, .arr (.prod .str (.prod (.prod (.int .i64) (.int .i64)) (.prod (.int .i64) (.int .i64)))) T 5 wT]⟩
  | _, _ => noSpec
set_option maxHeartbeats 3200000 in
theorem ok_l07Text : SpecOk Tryd.prog 62 s_l07Text := by
  intro args S h; unfold s_l07Text at h ⊢; (split at h <;> first | exact False.elim h | skip)
  dsimp only at h ⊢
  rename_i up uq s n x vp vb gp gq t m y l wr T wT
  obtain ⟨⟨h1, h2⟩, ⟨h3, h4⟩, hB⟩ := h
  have hL := seg_len h1
  have hM := seg_len h3
  have hk := bnOk hB
  have sg := smF_ok hk.gr
  have l1 := scT_len up uq (seg l s n)
  have l2 := decT_19 vp
  have l3 := frT_len gp gq
  have l4 := hk.el
  have l5 := hk.tl
  have hv : 0 ≤ vp ∧ vp ≤ 9223372036854775807 := ⟨by have := hk.vr; omega, by have := hk.vr; omega⟩
  have hH : (bnH up uq vp vb gp gq (seg l s n)).length ≤ 3000 := by
    unfold bnH
    split <;> (simp only [List.length_append, List.length_cons, List.length_nil]; omega)
  unfold bnT
  cases vb with
  | true =>
    refine funW tabOk (E := [(117, s_l02Text), (98, s_frT), (88, s_dcl)]) ⟨ok_l02Text, ok_l01Text, ok_dcl, trivial⟩ [(4, [(9, 0), (17, 0), (17, 1)]), (9, [(4, 1), (4, 2), (16, 0)])] (k := 3) (fn := Tryd.f62) rfl rfl rfl rfl rfl rfl ?_
    (repeat' ((try (conv => whnf)); first | (with_reducible first | refine And.intro ?_ ?_ | refine WX.of ?_) | exact zc | ((with_reducible refine VC.mk ?_); exact zw) | ((with_reducible refine VC.mk ?_); exact ⟨⟨h1, h2⟩, hk.sc⟩) | ((with_reducible refine VC.mk ?_); exact sg) | ((with_reducible refine VC.mk ?_); exact hv) | (with_reducible first | refine splitT ?_ | refine splitF ?_) | ((with_reducible refine splitM.mk (fun hsm => ?_) (fun hsm => ?_)) <;> (try exact zx)) | ((with_reducible refine splitB.mk (fun h => ?_) (fun h => ?_)) <;> (try simp only [zs, ne_eq] at h) <;> (try simp (disch := omega) only [w64] at h) <;> (try exact zx)) | (with_reducible intro hz; (try exact absurd hz (Nat.succ_ne_zero _)))))
    all_goals first
      | (refine ⟨?_⟩; simp; omega)
      | skip
    refine loopW tabOk (E := [(117, s_l02Text), (98, s_frT), (88, s_dcl)]) ⟨ok_l02Text, ok_l01Text, ok_dcl, trivial⟩ [(4, [(9, 0), (17, 0), (17, 1)]), (9, [(4, 1), (4, 2), (16, 0)])] (σ := Nat) (fun i => [(0, .ptr 0 0 0), (4, .str (bnH up uq vp true gp gq (seg l s n) ++ thsT ((seg T t m).take i))), (5, .int .i64 i)]) (fun i => [.box [.int .i64 up, .int .i64 uq, .sl 1 s n x, .int .i64 vp, .bool true, .int .i64 gp, .int .i64 gq, .sl 2 t m y] true false, .arr (.prod (.int .i64) (.int .i64)) l 2 wr, .arr (.prod .str (.prod (.prod (.int .i64) (.int .i64)) (.prod (.int .i64) (.int .i64)))) T 5 wT]) (fun i => m - i) (fun i => i ≤ m) 0 (Nat.zero_le _) ?_ ?_
    · (repeat' ((try (conv => whnf)); first | (with_reducible first | refine And.intro ?_ ?_ | refine WX.of ?_) | exact zc | ((with_reducible refine VC.mk ?_); exact zw) | (with_reducible first | refine splitT ?_ | refine splitF ?_) | ((with_reducible refine splitM.mk (fun hsm => ?_) (fun hsm => ?_)) <;> (try exact zx)) | ((with_reducible refine splitB.mk (fun h => ?_) (fun h => ?_)) <;> (try simp only [zs, ne_eq] at h) <;> (try simp (disch := omega) only [w64] at h) <;> (try exact zx)) | (with_reducible intro hz; (try exact absurd hz (Nat.succ_ne_zero _)))))
      all_goals (refine ⟨?_⟩; unfold bnH; simp [thsT])
    · intro i hi
      have hlen := thsT_len (fun k a ha => (hk.th k a ha).1) i (by omega)
      by_cases hlt : i < m
      · obtain ⟨⟨nm, ⟨p, q⟩, r, s0⟩, ha⟩ := get_some (l := seg T t m) (i := i) (by omega)
        obtain ⟨w0, w1, w2⟩ := hk.th _ _ ha
        have w0 := wd12 (show wordB nm = true from w0)
        have w1 := smF_ok (show fOk p q = true from w1)
        have w2 := smF_ok (show fOk r s0 = true from w2)
        have l6 := frT_len p q
        have l7 := frT_len r s0
        (repeat' ((try (conv => whnf)); first | (with_reducible first | refine And.intro ?_ ?_ | refine WX.of ?_) | exact zc | ((with_reducible refine VC.mk ?_); exact zw) | with_reducible refine atL_i ha ?_ | ((with_reducible refine VC.mk ?_); exact w1) | ((with_reducible refine VC.mk ?_); exact w2) | (with_reducible first | refine splitT ?_ | refine splitF ?_) | ((with_reducible refine splitM.mk (fun hsm => ?_) (fun hsm => ?_)) <;> (try exact zx)) | ((with_reducible refine splitB.mk (fun h => ?_) (fun h => ?_)) <;> (try simp only [zs, ne_eq] at h) <;> (try simp (disch := omega) only [w64] at h) <;> (try exact zx)) | (with_reducible intro hz; (try exact absurd hz (Nat.succ_ne_zero _)))))
        all_goals first
          | (refine ⟨?_⟩; simp; omega)
          | skip
        refine ⟨i + 1, by omega, hlt, ?_⟩
        rw [thsT_s ha, show ∀ z, z ++ (thsT ((seg T t m).take i) ++ thTx (nm, (p, q), r, s0)) = (z ++ thsT ((seg T t m).take i)) ++ thTx (nm, (p, q), r, s0) from fun z => (List.append_assoc ..).symm]
        (repeat' ((try (conv => whnf)); first | (with_reducible first | refine And.intro ?_ ?_ | refine WX.of ?_) | exact zc | ((with_reducible refine VC.mk ?_); exact zw) | (with_reducible first | refine splitT ?_ | refine splitF ?_) | ((with_reducible refine splitM.mk (fun hsm => ?_) (fun hsm => ?_)) <;> (try exact zx)) | ((with_reducible refine splitB.mk (fun h => ?_) (fun h => ?_)) <;> (try simp only [zs, ne_eq] at h) <;> (try simp (disch := omega) only [w64] at h) <;> (try exact zx)) | (with_reducible intro hz; (try exact absurd hz (Nat.succ_ne_zero _)))))
      · obtain rfl : i = m := by omega
        rw [List.take_of_length_le (by omega)]
        (repeat' ((try (conv => whnf)); first | (with_reducible first | refine And.intro ?_ ?_ | refine WX.of ?_) | exact zc | ((with_reducible refine VC.mk ?_); exact zw) | (with_reducible first | refine splitT ?_ | refine splitF ?_) | ((with_reducible refine splitM.mk (fun hsm => ?_) (fun hsm => ?_)) <;> (try exact zx)) | ((with_reducible refine splitB.mk (fun h => ?_) (fun h => ?_)) <;> (try simp only [zs, ne_eq] at h) <;> (try simp (disch := omega) only [w64] at h) <;> (try exact zx)) | (with_reducible intro hz; (try exact absurd hz (Nat.succ_ne_zero _)))))
  | false =>
    refine funW tabOk (E := [(117, s_l02Text), (98, s_frT), (88, s_dcl)]) ⟨ok_l02Text, ok_l01Text, ok_dcl, trivial⟩ [(4, [(9, 0), (17, 0), (17, 1)]), (9, [(4, 1), (4, 2), (16, 0)])] (k := 3) (fn := Tryd.f62) rfl rfl rfl rfl rfl rfl ?_
    (repeat' ((try (conv => whnf)); first | (with_reducible first | refine And.intro ?_ ?_ | refine WX.of ?_) | exact zc | ((with_reducible refine VC.mk ?_); exact zw) | ((with_reducible refine VC.mk ?_); exact ⟨⟨h1, h2⟩, hk.sc⟩) | ((with_reducible refine VC.mk ?_); exact sg) | ((with_reducible refine VC.mk ?_); exact hv) | (with_reducible first | refine splitT ?_ | refine splitF ?_) | ((with_reducible refine splitM.mk (fun hsm => ?_) (fun hsm => ?_)) <;> (try exact zx)) | ((with_reducible refine splitB.mk (fun h => ?_) (fun h => ?_)) <;> (try simp only [zs, ne_eq] at h) <;> (try simp (disch := omega) only [w64] at h) <;> (try exact zx)) | (with_reducible intro hz; (try exact absurd hz (Nat.succ_ne_zero _)))))
    all_goals first
      | (refine ⟨?_⟩; simp; omega)
      | skip
    refine loopW tabOk (E := [(117, s_l02Text), (98, s_frT), (88, s_dcl)]) ⟨ok_l02Text, ok_l01Text, ok_dcl, trivial⟩ [(4, [(9, 0), (17, 0), (17, 1)]), (9, [(4, 1), (4, 2), (16, 0)])] (σ := Nat) (fun i => [(0, .ptr 0 0 0), (4, .str (bnH up uq vp false gp gq (seg l s n) ++ thsT ((seg T t m).take i))), (5, .int .i64 i)]) (fun i => [.box [.int .i64 up, .int .i64 uq, .sl 1 s n x, .int .i64 vp, .bool false, .int .i64 gp, .int .i64 gq, .sl 2 t m y] true false, .arr (.prod (.int .i64) (.int .i64)) l 2 wr, .arr (.prod .str (.prod (.prod (.int .i64) (.int .i64)) (.prod (.int .i64) (.int .i64)))) T 5 wT]) (fun i => m - i) (fun i => i ≤ m) 0 (Nat.zero_le _) ?_ ?_
    · (repeat' ((try (conv => whnf)); first | (with_reducible first | refine And.intro ?_ ?_ | refine WX.of ?_) | exact zc | ((with_reducible refine VC.mk ?_); exact zw) | (with_reducible first | refine splitT ?_ | refine splitF ?_) | ((with_reducible refine splitM.mk (fun hsm => ?_) (fun hsm => ?_)) <;> (try exact zx)) | ((with_reducible refine splitB.mk (fun h => ?_) (fun h => ?_)) <;> (try simp only [zs, ne_eq] at h) <;> (try simp (disch := omega) only [w64] at h) <;> (try exact zx)) | (with_reducible intro hz; (try exact absurd hz (Nat.succ_ne_zero _)))))
      all_goals (refine ⟨?_⟩; unfold bnH; simp [thsT])
    · intro i hi
      have hlen := thsT_len (fun k a ha => (hk.th k a ha).1) i (by omega)
      by_cases hlt : i < m
      · obtain ⟨⟨nm, ⟨p, q⟩, r, s0⟩, ha⟩ := get_some (l := seg T t m) (i := i) (by omega)
        obtain ⟨w0, w1, w2⟩ := hk.th _ _ ha
        have w0 := wd12 (show wordB nm = true from w0)
        have w1 := smF_ok (show fOk p q = true from w1)
        have w2 := smF_ok (show fOk r s0 = true from w2)
        have l6 := frT_len p q
        have l7 := frT_len r s0
        (repeat' ((try (conv => whnf)); first | (with_reducible first | refine And.intro ?_ ?_ | refine WX.of ?_) | exact zc | ((with_reducible refine VC.mk ?_); exact zw) | with_reducible refine atL_i ha ?_ | ((with_reducible refine VC.mk ?_); exact w1) | ((with_reducible refine VC.mk ?_); exact w2) | (with_reducible first | refine splitT ?_ | refine splitF ?_) | ((with_reducible refine splitM.mk (fun hsm => ?_) (fun hsm => ?_)) <;> (try exact zx)) | ((with_reducible refine splitB.mk (fun h => ?_) (fun h => ?_)) <;> (try simp only [zs, ne_eq] at h) <;> (try simp (disch := omega) only [w64] at h) <;> (try exact zx)) | (with_reducible intro hz; (try exact absurd hz (Nat.succ_ne_zero _)))))
        all_goals first
          | (refine ⟨?_⟩; simp; omega)
          | skip
        refine ⟨i + 1, by omega, hlt, ?_⟩
        rw [thsT_s ha, show ∀ z, z ++ (thsT ((seg T t m).take i) ++ thTx (nm, (p, q), r, s0)) = (z ++ thsT ((seg T t m).take i)) ++ thTx (nm, (p, q), r, s0) from fun z => (List.append_assoc ..).symm]
        (repeat' ((try (conv => whnf)); first | (with_reducible first | refine And.intro ?_ ?_ | refine WX.of ?_) | exact zc | ((with_reducible refine VC.mk ?_); exact zw) | (with_reducible first | refine splitT ?_ | refine splitF ?_) | ((with_reducible refine splitM.mk (fun hsm => ?_) (fun hsm => ?_)) <;> (try exact zx)) | ((with_reducible refine splitB.mk (fun h => ?_) (fun h => ?_)) <;> (try simp only [zs, ne_eq] at h) <;> (try simp (disch := omega) only [w64] at h) <;> (try exact zx)) | (with_reducible intro hz; (try exact absurd hz (Nat.succ_ne_zero _)))))
      · obtain rfl : i = m := by omega
        rw [List.take_of_length_le (by omega)]
        (repeat' ((try (conv => whnf)); first | (with_reducible first | refine And.intro ?_ ?_ | refine WX.of ?_) | exact zc | ((with_reducible refine VC.mk ?_); exact zw) | (with_reducible first | refine splitT ?_ | refine splitF ?_) | ((with_reducible refine splitM.mk (fun hsm => ?_) (fun hsm => ?_)) <;> (try exact zx)) | ((with_reducible refine splitB.mk (fun h => ?_) (fun h => ?_)) <;> (try simp only [zs, ne_eq] at h) <;> (try simp (disch := omega) only [w64] at h) <;> (try exact zx)) | (with_reducible intro hz; (try exact absurd hz (Nat.succ_ne_zero _)))))
end Go.Proofs.YtinaincgimoanaaDoor.Eng
set_option linter.unusedVariables false
set_option linter.unusedSimpArgs false
namespace Go.Proofs.YtinaincgimoanaaDoor.Eng
open Go Go.RowKit
set_option maxRecDepth 100000
def s_bnT : Spec := fun args S => match args, S with
  | [.agg [.int .i64 up, .int .i64 uq, .sl 0 s n x, .int .i64 vp, .bool vb, .int .i64 gp, .int .i64 gq, .sl 1 t m y]], [.arr (.prod (.int .i64) (.int .i64)) l 2 wr, .arr (.prod .str (.prod (.prod (.int .i64) (.int .i64)) (.prod (.int .i64) (.int .i64)))) T 5 wT] => ⟨(s + n ≤ l.length ∧ n ≤ 1048576) ∧ (t + m ≤ T.length ∧ m ≤ 1048576) ∧ ∀ (j : Nat) (a : ThT), T[j]? = some a → a.1.length < 9223372036854775808, .str (if bnB up uq vp gp gq (seg l s n) (seg T t m) = true then bnT up uq vp vb gp gq (seg l s n) (seg T t m) else []), [.arr (.prod (.int .i64) (.int .i64)) l 2 wr, .arr (.prod .str (.prod (.prod (.int .i64) (.int .i64)) (.prod (.int .i64) (.int .i64)))) T 5 wT]⟩
  | _, _ => noSpec
theorem ok_BenchTextS : SpecOk Tryd.prog 23 s_bnT := by
  intro args S h; unfold s_bnT at h ⊢; (split at h <;> first | exact False.elim h | skip)
  dsimp only at h ⊢
  rename_i up uq s n x vp vb gp gq t m y l wr T wT
  obtain ⟨⟨h1, h2⟩, ⟨h3, h4⟩, ho⟩ := h
  refine funW tabOk (E := [(61, s_l07Ok), (62, s_l07Text)]) ⟨ok_l07Ok, ok_l07Text, trivial⟩ [] (k := 2) (fn := Tryd.f23) rfl rfl rfl rfl rfl rfl ?_
  by_cases hB : bnB up uq vp gp gq (seg l s n) (seg T t m) = true
  · rw [if_pos hB]
    (repeat' ((try (conv => whnf)); first | (with_reducible first | refine And.intro ?_ ?_ | refine WX.of ?_) | exact zc | ((with_reducible refine VC.mk ?_); exact zw) | ((with_reducible refine VC.mk ?_); exact ⟨⟨h1, h2⟩, ⟨h3, h4⟩, ho⟩) | ((with_reducible refine VC.mk ?_); exact ⟨⟨h1, h2⟩, ⟨h3, h4⟩, hB⟩) | ((with_reducible refine splitT_of ?_ ?_); (focus (simp only [hB, Bool.not_true, Bool.not_true, Bool.not_false, decide_true, decide_false]; done))) | ((with_reducible refine splitF_of ?_ ?_); (focus (simp only [hB, Bool.not_true, Bool.not_true, Bool.not_false, decide_true, decide_false]; done))) | (with_reducible first | refine splitT ?_ | refine splitF ?_) | ((with_reducible refine splitM.mk (fun hsm => ?_) (fun hsm => ?_)) <;> (try exact zx)) | ((with_reducible refine splitB.mk (fun h => ?_) (fun h => ?_)) <;> (try simp only [zs, ne_eq] at h) <;> (try simp (disch := omega) only [w64] at h) <;> (try exact zx)) | (with_reducible intro hz; (try exact absurd hz (Nat.succ_ne_zero _)))))
  · rw [if_neg hB]
    have hB : bnB up uq vp gp gq (seg l s n) (seg T t m) = false := by simpa using hB
    (repeat' ((try (conv => whnf)); first | (with_reducible first | refine And.intro ?_ ?_ | refine WX.of ?_) | exact zc | ((with_reducible refine VC.mk ?_); exact zw) | ((with_reducible refine VC.mk ?_); exact ⟨⟨h1, h2⟩, ⟨h3, h4⟩, ho⟩) | ((with_reducible refine splitT_of ?_ ?_); (focus (simp only [hB, Bool.not_false, Bool.not_true, Bool.not_false, decide_true, decide_false]; done))) | ((with_reducible refine splitF_of ?_ ?_); (focus (simp only [hB, Bool.not_false, Bool.not_true, Bool.not_false, decide_true, decide_false]; done))) | (with_reducible first | refine splitT ?_ | refine splitF ?_) | ((with_reducible refine splitM.mk (fun hsm => ?_) (fun hsm => ?_)) <;> (try exact zx)) | ((with_reducible refine splitB.mk (fun h => ?_) (fun h => ?_)) <;> (try simp only [zs, ne_eq] at h) <;> (try simp (disch := omega) only [w64] at h) <;> (try exact zx)) | (with_reducible intro hz; (try exact absurd hz (Nat.succ_ne_zero _)))))
def s_scT : Spec := fun args S => match args, S with
  | [.agg [.int .i64 up, .int .i64 uq, .sl 0 s n x]], [.arr (.prod (.int .i64) (.int .i64)) l 2 wr] => ⟨(s + n ≤ l.length ∧ n ≤ 1048576) ∧ scB up uq (seg l s n) = true, .str (scT up uq (seg l s n)), [.arr (.prod (.int .i64) (.int .i64)) l 2 wr]⟩
  | _, _ => noSpec
theorem ok_ScaleTextI : SpecOk Tryd.prog 67 s_scT := by
  intro args S h; unfold s_scT at h ⊢; (split at h <;> first | exact False.elim h | skip)
  dsimp only at h ⊢
  rename_i up uq s n x l wr
  obtain ⟨⟨h1, h2⟩, hs⟩ := h
  have hL := seg_len h1
  obtain ⟨hu, hn⟩ := scU hs
  have hF := scF hs
  have hn2 : 2 ≤ n := by
    unfold scB at hs
    simp only [Bool.and_eq_true, decide_eq_true_eq] at hs
    omega
  have hsg : seg (seg [(up, uq)] 0 1 ++ seg l s n) 0 (1 + n) = (up, uq) :: seg l s n := by
    have e : seg [(up, uq)] 0 1 ++ seg l s n = (up, uq) :: seg l s n := rfl
    rw [e]
    exact seg_full (by rw [List.length_cons]; omega)
  have hq : (0 + (1 + n) ≤ (seg [(up, uq)] 0 1 ++ seg l s n).length ∧ 1 ≤ 1 + n ∧ 1 + n ≤ 100000) ∧ allF (seg (seg [(up, uq)] 0 1 ++ seg l s n) 0 (1 + n)) = true := by
    rw [hsg]
    refine ⟨⟨?_, by omega, by omega⟩, ?_⟩
    · rw [List.length_append, hL]; show 0 + (1 + n) ≤ 1 + n; omega
    · show (fOk up uq && allF (seg l s n)) = true
      rw [hu, hF]; rfl
  have hq2 : frsT (seg (seg [(up, uq)] 0 1 ++ seg l s n) 0 (1 + n)) = frsT ((up, uq) :: seg l s n) := by rw [hsg]
  refine funW tabOk (E := [(124, s_vScale), (50, s_frsT)]) ⟨ok_ValidScale, ok_fracTexts, trivial⟩ [] (k := 1) (fn := Tryd.f67) rfl rfl rfl rfl rfl rfl ?_
  (repeat' ((try (conv => whnf)); first | (with_reducible first | refine And.intro ?_ ?_ | refine WX.of ?_) | exact zc | ((with_reducible refine VC.mk ?_); exact zw) | ((with_reducible refine VC.mk ?_); exact ⟨h1, h2⟩) | ((with_reducible refine splitT_of ?_ ?_); (focus (simp only [hs, Bool.not_true, Bool.not_true, Bool.not_false, decide_true, decide_false]; done))) | ((with_reducible refine splitF_of ?_ ?_); (focus (simp only [hs, Bool.not_true, Bool.not_true, Bool.not_false, decide_true, decide_false]; done))) | (with_reducible first | refine splitT ?_ | refine splitF ?_) | ((with_reducible refine splitM.mk (fun hsm => ?_) (fun hsm => ?_)) <;> (try exact zx)) | ((with_reducible refine splitB.mk (fun h => ?_) (fun h => ?_)) <;> (try simp only [zs, ne_eq] at h) <;> (try simp (disch := omega) only [w64] at h) <;> (try exact zx)) | (with_reducible intro hz; (try exact absurd hz (Nat.succ_ne_zero _)))))
  exact ⟨congrArg SV.str (hq2.trans (frsT_sc (up, uq) _))⟩
set_option maxHeartbeats 3200000 in
theorem ok_BenchTextI : SpecOk Tryd.prog 25 s_bnT := by
  intro args S h; unfold s_bnT at h ⊢; (split at h <;> first | exact False.elim h | skip)
  dsimp only at h ⊢
  rename_i up uq s n x vp vb gp gq t m y l wr T wT
  obtain ⟨⟨h1, h2⟩, ⟨h3, h4⟩, ho⟩ := h
  have hL := seg_len h1
  have hM := seg_len h3
  by_cases hB : bnB up uq vp gp gq (seg l s n) (seg T t m) = true
  · rw [if_pos hB]
    have hk := bnOk hB
    have l1 := scT_len up uq (seg l s n)
    have l2 := sgT_20 vp
    have l3 := frT_len gp gq
    have l4 := hk.el
    have l5 := hk.tl
    have hgr := hk.gr
    have hv : -9223372036854775807 ≤ vp ∧ vp ≤ 9223372036854775807 := ⟨by have := hk.vr; omega, by have := hk.vr; omega⟩
    have hH : (bnH up uq vp vb gp gq (seg l s n)).length ≤ 3000 := by
      have := decT_19 vp
      unfold bnH
      split <;> (simp only [List.length_append, List.length_cons, List.length_nil]; omega)
    unfold bnT
    cases vb with
    | true =>
      have hHI : bnH up uq vp true gp gq (seg l s n) = ((((((scT up uq (seg l s n) ++ [10]) ++ sgT vp) ++ [32]) ++ [98, 97, 99, 107]) ++ [32]) ++ frT gp gq) ++ [10] := by
        rw [show sgT vp = dcl vp from if_neg (by have := hk.vr; omega)]
        simp [bnH]
      refine funW tabOk (E := [(66, s_vBench), (67, s_scT), (40, s_sgT), (57, s_frTI), (50, s_frsT)]) ⟨ok_ValidBenchI, ok_ScaleTextI, ok_decI, ok_FracTextI, ok_fracTexts, trivial⟩ [(6, [(6, 0), (14, 0), (14, 1)]), (10, [(2, 1), (2, 2)])] (k := 2) (fn := Tryd.f25) rfl rfl rfl rfl rfl rfl ?_
      (repeat' ((try (conv => whnf)); first | (with_reducible first | refine And.intro ?_ ?_ | refine WX.of ?_) | exact zc | ((with_reducible refine VC.mk ?_); exact zw) | ((with_reducible refine VC.mk ?_); exact ⟨⟨h1, h2⟩, ⟨h3, h4⟩, ho⟩) | ((with_reducible refine VC.mk ?_); exact ⟨⟨h1, h2⟩, hk.sc⟩) | ((with_reducible refine VC.mk ?_); exact hv) | ((with_reducible refine splitT_of ?_ ?_); (focus (simp only [hB, Bool.not_true, Bool.not_true, Bool.not_false, decide_true, decide_false]; done))) | ((with_reducible refine splitF_of ?_ ?_); (focus (simp only [hB, Bool.not_true, Bool.not_true, Bool.not_false, decide_true, decide_false]; done))) | (with_reducible first | refine splitT ?_ | refine splitF ?_) | ((with_reducible refine splitM.mk (fun hsm => ?_) (fun hsm => ?_)) <;> (try exact zx)) | ((with_reducible refine splitB.mk (fun h => ?_) (fun h => ?_)) <;> (try simp only [zs, ne_eq] at h) <;> (try simp (disch := omega) only [w64] at h) <;> (try exact zx)) | (with_reducible intro hz; (try exact absurd hz (Nat.succ_ne_zero _)))))
      all_goals first
        | (refine ⟨?_⟩; simp only [hgr, if_true]; simp; omega)
        | skip
      refine loopW tabOk (E := [(66, s_vBench), (67, s_scT), (40, s_sgT), (57, s_frTI), (50, s_frsT)]) ⟨ok_ValidBenchI, ok_ScaleTextI, ok_decI, ok_FracTextI, ok_fracTexts, trivial⟩ [(6, [(6, 0), (14, 0), (14, 1)]), (10, [(2, 1), (2, 2)])] (σ := Nat) (fun i => [(4, .str (bnH up uq vp true gp gq (seg l s n) ++ thsT ((seg T t m).take i))), (32, .sl 1 t m y), (33, .int .i64 m), (34, .int .i64 i)]) (fun i => [.arr (.prod (.int .i64) (.int .i64)) l 2 wr, .arr (.prod .str (.prod (.prod (.int .i64) (.int .i64)) (.prod (.int .i64) (.int .i64)))) T 5 wT, .gone]) (fun i => m - i) (fun i => i ≤ m) 0 (Nat.zero_le _) ?_ ?_
      · (repeat' ((try (conv => whnf)); first | (with_reducible first | refine And.intro ?_ ?_ | refine WX.of ?_) | exact zc | ((with_reducible refine VC.mk ?_); exact zw) | (with_reducible first | refine splitT ?_ | refine splitF ?_) | ((with_reducible refine splitM.mk (fun hsm => ?_) (fun hsm => ?_)) <;> (try exact zx)) | ((with_reducible refine splitB.mk (fun h => ?_) (fun h => ?_)) <;> (try simp only [zs, ne_eq] at h) <;> (try simp (disch := omega) only [w64] at h) <;> (try exact zx)) | (with_reducible intro hz; (try exact absurd hz (Nat.succ_ne_zero _)))))
        all_goals (refine ⟨congrArg SV.str ?_⟩; rw [if_pos hgr, show thsT ((seg T t m).take 0) = [] from rfl, List.append_nil, hHI])
      · intro i hi
        have hlen := thsT_len (fun k a ha => (hk.th k a ha).1) i (by omega)
        by_cases hlt : i < m
        · obtain ⟨⟨nm, ⟨p, q⟩, r, s0⟩, ha⟩ := get_some (l := seg T t m) (i := i) (by omega)
          obtain ⟨w0, w1, w2⟩ := hk.th _ _ ha
          have w0 := wd12 (show wordB nm = true from w0)
          have w1 : fOk p q = true := w1
          have w2 : fOk r s0 = true := w2
          have l6 := frT_len p q
          have l7 := frT_len r s0
          have h2f : allF (seg [(p, q), (r, s0)] 0 2) = true := by
            show (fOk p q && (fOk r s0 && true)) = true
            rw [w1, w2]; rfl
          have h2s : frsT (seg [(p, q), (r, s0)] 0 2) = (frT p q ++ [32]) ++ frT r s0 := by
            show frsT [(p, q), (r, s0)] = _
            rw [frsT_sc]
            simp [scT]
          have hTx : thTx (nm, (p, q), r, s0) = ((nm ++ [32]) ++ frsT (seg [(p, q), (r, s0)] 0 2)) ++ [10] := by rw [h2s]; simp [thTx]
          have h2l : (frsT (seg [(p, q), (r, s0)] 0 2)).length ≤ 81 := by rw [h2s]; simp; omega
          have hz1 : (nm ++ [32]).length + (frsT (seg [(p, q), (r, s0)] 0 2)).length ≤ 9223372036854775807 := by simp; omega
          have hz2 : (nm ++ [32] ++ frsT (seg [(p, q), (r, s0)] 0 2)).length + 1 ≤ 9223372036854775807 := by simp; omega
          have hz3 : (bnH up uq vp true gp gq (seg l s n) ++ thsT ((seg T t m).take i)).length + (nm ++ [32] ++ frsT (seg [(p, q), (r, s0)] 0 2) ++ [10]).length ≤ 9223372036854775807 := by simp; omega
          (repeat' ((try (conv => whnf)); first | (with_reducible first | refine And.intro ?_ ?_ | refine WX.of ?_) | exact zc | ((with_reducible refine VC.mk ?_); exact zw) | with_reducible refine atL_i ha ?_ | (with_reducible first | refine splitT ?_ | refine splitF ?_) | ((with_reducible refine splitM.mk (fun hsm => ?_) (fun hsm => ?_)) <;> (try exact zx)) | ((with_reducible refine splitB.mk (fun h => ?_) (fun h => ?_)) <;> (try simp only [zs, ne_eq] at h) <;> (try simp (disch := omega) only [w64] at h) <;> (try exact zx)) | (with_reducible intro hz; (try exact absurd hz (Nat.succ_ne_zero _)))))
          all_goals first
            | exact ⟨⟨⟨by simp, by omega, by omega⟩, h2f⟩⟩
            | exact ⟨hz1⟩
            | exact ⟨hz2⟩
            | exact ⟨hz3⟩
            | (refine ⟨?_⟩; simp; omega)
            | skip
          refine ⟨i + 1, by omega, hlt, ?_⟩
          rw [thsT_s ha, show ∀ z, z ++ (thsT ((seg T t m).take i) ++ thTx (nm, (p, q), r, s0)) = (z ++ thsT ((seg T t m).take i)) ++ thTx (nm, (p, q), r, s0) from fun z => (List.append_assoc ..).symm]
          (repeat' ((try (conv => whnf)); first | (with_reducible first | refine And.intro ?_ ?_ | refine WX.of ?_) | exact zc | ((with_reducible refine VC.mk ?_); exact zw) | (with_reducible first | refine splitT ?_ | refine splitF ?_) | ((with_reducible refine splitM.mk (fun hsm => ?_) (fun hsm => ?_)) <;> (try exact zx)) | ((with_reducible refine splitB.mk (fun h => ?_) (fun h => ?_)) <;> (try simp only [zs, ne_eq] at h) <;> (try simp (disch := omega) only [w64] at h) <;> (try exact zx)) | (with_reducible intro hz; (try exact absurd hz (Nat.succ_ne_zero _)))))
          all_goals (refine ⟨congrArg SV.str ?_⟩; rw [hTx])
        · obtain rfl : i = m := by omega
          rw [List.take_of_length_le (by omega)]
          (repeat' ((try (conv => whnf)); first | (with_reducible first | refine And.intro ?_ ?_ | refine WX.of ?_) | exact zc | ((with_reducible refine VC.mk ?_); exact zw) | (with_reducible first | refine splitT ?_ | refine splitF ?_) | ((with_reducible refine splitM.mk (fun hsm => ?_) (fun hsm => ?_)) <;> (try exact zx)) | ((with_reducible refine splitB.mk (fun h => ?_) (fun h => ?_)) <;> (try simp only [zs, ne_eq] at h) <;> (try simp (disch := omega) only [w64] at h) <;> (try exact zx)) | (with_reducible intro hz; (try exact absurd hz (Nat.succ_ne_zero _)))))
    | false =>
      have hHI : bnH up uq vp false gp gq (seg l s n) = ((((((scT up uq (seg l s n) ++ [10]) ++ sgT vp) ++ [32]) ++ [111, 110]) ++ [32]) ++ frT gp gq) ++ [10] := by
        rw [show sgT vp = dcl vp from if_neg (by have := hk.vr; omega)]
        simp [bnH]
      refine funW tabOk (E := [(66, s_vBench), (67, s_scT), (40, s_sgT), (57, s_frTI), (50, s_frsT)]) ⟨ok_ValidBenchI, ok_ScaleTextI, ok_decI, ok_FracTextI, ok_fracTexts, trivial⟩ [(6, [(6, 0), (14, 0), (14, 1)]), (10, [(2, 1), (2, 2)])] (k := 2) (fn := Tryd.f25) rfl rfl rfl rfl rfl rfl ?_
      (repeat' ((try (conv => whnf)); first | (with_reducible first | refine And.intro ?_ ?_ | refine WX.of ?_) | exact zc | ((with_reducible refine VC.mk ?_); exact zw) | ((with_reducible refine VC.mk ?_); exact ⟨⟨h1, h2⟩, ⟨h3, h4⟩, ho⟩) | ((with_reducible refine VC.mk ?_); exact ⟨⟨h1, h2⟩, hk.sc⟩) | ((with_reducible refine VC.mk ?_); exact hv) | ((with_reducible refine splitT_of ?_ ?_); (focus (simp only [hB, Bool.not_true, Bool.not_true, Bool.not_false, decide_true, decide_false]; done))) | ((with_reducible refine splitF_of ?_ ?_); (focus (simp only [hB, Bool.not_true, Bool.not_true, Bool.not_false, decide_true, decide_false]; done))) | (with_reducible first | refine splitT ?_ | refine splitF ?_) | ((with_reducible refine splitM.mk (fun hsm => ?_) (fun hsm => ?_)) <;> (try exact zx)) | ((with_reducible refine splitB.mk (fun h => ?_) (fun h => ?_)) <;> (try simp only [zs, ne_eq] at h) <;> (try simp (disch := omega) only [w64] at h) <;> (try exact zx)) | (with_reducible intro hz; (try exact absurd hz (Nat.succ_ne_zero _)))))
      all_goals first
        | (refine ⟨?_⟩; simp only [hgr, if_true]; simp; omega)
        | skip
      refine loopW tabOk (E := [(66, s_vBench), (67, s_scT), (40, s_sgT), (57, s_frTI), (50, s_frsT)]) ⟨ok_ValidBenchI, ok_ScaleTextI, ok_decI, ok_FracTextI, ok_fracTexts, trivial⟩ [(6, [(6, 0), (14, 0), (14, 1)]), (10, [(2, 1), (2, 2)])] (σ := Nat) (fun i => [(4, .str (bnH up uq vp false gp gq (seg l s n) ++ thsT ((seg T t m).take i))), (32, .sl 1 t m y), (33, .int .i64 m), (34, .int .i64 i)]) (fun i => [.arr (.prod (.int .i64) (.int .i64)) l 2 wr, .arr (.prod .str (.prod (.prod (.int .i64) (.int .i64)) (.prod (.int .i64) (.int .i64)))) T 5 wT, .gone]) (fun i => m - i) (fun i => i ≤ m) 0 (Nat.zero_le _) ?_ ?_
      · (repeat' ((try (conv => whnf)); first | (with_reducible first | refine And.intro ?_ ?_ | refine WX.of ?_) | exact zc | ((with_reducible refine VC.mk ?_); exact zw) | (with_reducible first | refine splitT ?_ | refine splitF ?_) | ((with_reducible refine splitM.mk (fun hsm => ?_) (fun hsm => ?_)) <;> (try exact zx)) | ((with_reducible refine splitB.mk (fun h => ?_) (fun h => ?_)) <;> (try simp only [zs, ne_eq] at h) <;> (try simp (disch := omega) only [w64] at h) <;> (try exact zx)) | (with_reducible intro hz; (try exact absurd hz (Nat.succ_ne_zero _)))))
        all_goals (refine ⟨congrArg SV.str ?_⟩; rw [if_pos hgr, show thsT ((seg T t m).take 0) = [] from rfl, List.append_nil, hHI])
      · intro i hi
        have hlen := thsT_len (fun k a ha => (hk.th k a ha).1) i (by omega)
        by_cases hlt : i < m
        · obtain ⟨⟨nm, ⟨p, q⟩, r, s0⟩, ha⟩ := get_some (l := seg T t m) (i := i) (by omega)
          obtain ⟨w0, w1, w2⟩ := hk.th _ _ ha
          have w0 := wd12 (show wordB nm = true from w0)
          have w1 : fOk p q = true := w1
          have w2 : fOk r s0 = true := w2
          have l6 := frT_len p q
          have l7 := frT_len r s0
          have h2f : allF (seg [(p, q), (r, s0)] 0 2) = true := by
            show (fOk p q && (fOk r s0 && true)) = true
            rw [w1, w2]; rfl
          have h2s : frsT (seg [(p, q), (r, s0)] 0 2) = (frT p q ++ [32]) ++ frT r s0 := by
            show frsT [(p, q), (r, s0)] = _
            rw [frsT_sc]
            simp [scT]
          have hTx : thTx (nm, (p, q), r, s0) = ((nm ++ [32]) ++ frsT (seg [(p, q), (r, s0)] 0 2)) ++ [10] := by rw [h2s]; simp [thTx]
          have h2l : (frsT (seg [(p, q), (r, s0)] 0 2)).length ≤ 81 := by rw [h2s]; simp; omega
          have hz1 : (nm ++ [32]).length + (frsT (seg [(p, q), (r, s0)] 0 2)).length ≤ 9223372036854775807 := by simp; omega
          have hz2 : (nm ++ [32] ++ frsT (seg [(p, q), (r, s0)] 0 2)).length + 1 ≤ 9223372036854775807 := by simp; omega
          have hz3 : (bnH up uq vp false gp gq (seg l s n) ++ thsT ((seg T t m).take i)).length + (nm ++ [32] ++ frsT (seg [(p, q), (r, s0)] 0 2) ++ [10]).length ≤ 9223372036854775807 := by simp; omega
          (repeat' ((try (conv => whnf)); first | (with_reducible first | refine And.intro ?_ ?_ | refine WX.of ?_) | exact zc | ((with_reducible refine VC.mk ?_); exact zw) | with_reducible refine atL_i ha ?_ | (with_reducible first | refine splitT ?_ | refine splitF ?_) | ((with_reducible refine splitM.mk (fun hsm => ?_) (fun hsm => ?_)) <;> (try exact zx)) | ((with_reducible refine splitB.mk (fun h => ?_) (fun h => ?_)) <;> (try simp only [zs, ne_eq] at h) <;> (try simp (disch := omega) only [w64] at h) <;> (try exact zx)) | (with_reducible intro hz; (try exact absurd hz (Nat.succ_ne_zero _)))))
          all_goals first
            | exact ⟨⟨⟨by simp, by omega, by omega⟩, h2f⟩⟩
            | exact ⟨hz1⟩
            | exact ⟨hz2⟩
            | exact ⟨hz3⟩
            | (refine ⟨?_⟩; simp; omega)
            | skip
          refine ⟨i + 1, by omega, hlt, ?_⟩
          rw [thsT_s ha, show ∀ z, z ++ (thsT ((seg T t m).take i) ++ thTx (nm, (p, q), r, s0)) = (z ++ thsT ((seg T t m).take i)) ++ thTx (nm, (p, q), r, s0) from fun z => (List.append_assoc ..).symm]
          (repeat' ((try (conv => whnf)); first | (with_reducible first | refine And.intro ?_ ?_ | refine WX.of ?_) | exact zc | ((with_reducible refine VC.mk ?_); exact zw) | (with_reducible first | refine splitT ?_ | refine splitF ?_) | ((with_reducible refine splitM.mk (fun hsm => ?_) (fun hsm => ?_)) <;> (try exact zx)) | ((with_reducible refine splitB.mk (fun h => ?_) (fun h => ?_)) <;> (try simp only [zs, ne_eq] at h) <;> (try simp (disch := omega) only [w64] at h) <;> (try exact zx)) | (with_reducible intro hz; (try exact absurd hz (Nat.succ_ne_zero _)))))
          all_goals (refine ⟨congrArg SV.str ?_⟩; rw [hTx])
        · obtain rfl : i = m := by omega
          rw [List.take_of_length_le (by omega)]
          (repeat' ((try (conv => whnf)); first | (with_reducible first | refine And.intro ?_ ?_ | refine WX.of ?_) | exact zc | ((with_reducible refine VC.mk ?_); exact zw) | (with_reducible first | refine splitT ?_ | refine splitF ?_) | ((with_reducible refine splitM.mk (fun hsm => ?_) (fun hsm => ?_)) <;> (try exact zx)) | ((with_reducible refine splitB.mk (fun h => ?_) (fun h => ?_)) <;> (try simp only [zs, ne_eq] at h) <;> (try simp (disch := omega) only [w64] at h) <;> (try exact zx)) | (with_reducible intro hz; (try exact absurd hz (Nat.succ_ne_zero _)))))
  · rw [if_neg hB]
    have hB : bnB up uq vp gp gq (seg l s n) (seg T t m) = false := by simpa using hB
    refine funW tabOk (E := [(66, s_vBench), (67, s_scT), (40, s_sgT), (57, s_frTI), (50, s_frsT)]) ⟨ok_ValidBenchI, ok_ScaleTextI, ok_decI, ok_FracTextI, ok_fracTexts, trivial⟩ [(6, [(6, 0), (14, 0), (14, 1)]), (10, [(2, 1), (2, 2)])] (k := 2) (fn := Tryd.f25) rfl rfl rfl rfl rfl rfl ?_
    (repeat' ((try (conv => whnf)); first | (with_reducible first | refine And.intro ?_ ?_ | refine WX.of ?_) | exact zc | ((with_reducible refine VC.mk ?_); exact zw) | ((with_reducible refine VC.mk ?_); exact ⟨⟨h1, h2⟩, ⟨h3, h4⟩, ho⟩) | ((with_reducible refine splitT_of ?_ ?_); (focus (simp only [hB, Bool.not_false, Bool.not_true, Bool.not_false, decide_true, decide_false]; done))) | ((with_reducible refine splitF_of ?_ ?_); (focus (simp only [hB, Bool.not_false, Bool.not_true, Bool.not_false, decide_true, decide_false]; done))) | (with_reducible first | refine splitT ?_ | refine splitF ?_) | ((with_reducible refine splitM.mk (fun hsm => ?_) (fun hsm => ?_)) <;> (try exact zx)) | ((with_reducible refine splitB.mk (fun h => ?_) (fun h => ?_)) <;> (try simp only [zs, ne_eq] at h) <;> (try simp (disch := omega) only [w64] at h) <;> (try exact zx)) | (with_reducible intro hz; (try exact absurd hz (Nat.succ_ne_zero _)))))
end Go.Proofs.YtinaincgimoanaaDoor.Eng
set_option linter.unusedVariables false
set_option linter.unusedSimpArgs false
namespace Go.Proofs.YtinaincgimoanaaDoor.Eng
open Go Go.RowKit
set_option maxRecDepth 100000
set_option maxHeartbeats 1600000 in
theorem law_benchText {y1 : Int × Int} (ho1 : ET.Ok (.prod (.int .i64) (.int .i64)) y1) {c2 : Bool} {n2 : Nat} {l2 : List (Int × Int)} (hn2 : n2 ≤ l2.length) (hc2 : c2 = true → l2 = []) (ho2 : ∀ y ∈ l2, ET.Ok (.prod (.int .i64) (.int .i64)) y) (hz2 : l2.length ≤ 9223372036854775807) {y3 : Int × Bool} (ho3 : ET.Ok (.prod (.int .i64) .bool) y3) {y4 : Int × Int} (ho4 : ET.Ok (.prod (.int .i64) (.int .i64)) y4) {c5 : Bool} {n5 : Nat} {l5 : List ThT} (hn5 : n5 ≤ l5.length) (hc5 : c5 = true → l5 = []) (ho5 : ∀ y ∈ l5, ET.Ok (.prod .str (.prod (.prod (.int .i64) (.int .i64)) (.prod (.int .i64) (.int .i64)))) y) (hz5 : l5.length ≤ 9223372036854775807) : RunsS Tryd.prog 6 [.agg [.int .i64 y1.1, .int .i64 y1.2, .opt c2 0 n2 0, .int .i64 y3.1, .bool y3.2, .int .i64 y4.1, .int .i64 y4.2, .opt c5 1 n5 0]] [.arrO (.prod (.int .i64) (.int .i64)) l2 2, .arrO (.prod .str (.prod (.prod (.int .i64) (.int .i64)) (.prod (.int .i64) (.int .i64)))) l5 5] (.bool true) [.arrO (.prod (.int .i64) (.int .i64)) l2 2, .arrO (.prod .str (.prod (.prod (.int .i64) (.int .i64)) (.prod (.int .i64) (.int .i64)))) l5 5] := by
  have hL : (seg l2 0 n2).length = n2 := seg_len (by omega)
  have hM : (seg l5 0 n5).length = n5 := seg_len (by omega)
  have hb5 : ∀ (j : Nat) (a : ThT), l5[j]? = some a → a.1.length ≤ 9223372036854775807 := fun j a ha => (ho5 a (List.mem_of_getElem? ha)).1
  have hS : seg (seg l2 0 n2) 0 n2 = seg l2 0 n2 := seg_full hL
  have hT : seg (seg l5 0 n5) 0 n5 = seg l5 0 n5 := seg_full hM
  have htt : ∀ (j : Nat) (a : ThT), (seg l5 0 n5)[j]? = some a → a.1.length ≤ tot (fun a : ThT => a.1.length) (seg l5 0 n5) := fun j a ha => tot_at (f := fun a : ThT => a.1.length) ha
  have hS1 : seg (seg l2 0 n2) 0 n2 = seg l2 0 n2 := seg_full hL
  have hS2 : seg (seg l5 0 n5) 0 n5 = seg l5 0 n5 := seg_full (seg_len (by omega))
  refine funW tabOk (E := [(22, s_szBench), (24, s_toBench), (23, s_bnT), (25, s_bnT), (26, s_eqBench)]) ⟨ok_szBench, ok_toBench, ok_BenchTextS, ok_BenchTextI, ok_eqBench, trivial⟩ [(10, [(0, 1)])] (k := 2) (fn := Tryd.f6) rfl rfl rfl rfl rfl rfl ?_
  (repeat' ((try (conv => whnf)); first | (with_reducible first | refine And.intro ?_ ?_ | refine WX.of ?_) | exact zc | ((with_reducible refine VC.mk ?_); exact zw) | ((with_reducible refine VC.mk ?_); (refine ⟨?_, ?_, ⟨?_, ?_⟩, ?_, ?_⟩); (omega); (omega); (assumption); (assumption); (omega); (assumption)) | ((with_reducible refine VC.mk ?_); (refine ⟨⟨?_, ?_, ?_⟩, ?_, ?_, ?_⟩); all_goals (try assumption); all_goals omega) | ((with_reducible refine VC.mk ?_); (refine ⟨⟨?_, ?_⟩, ⟨?_, ?_⟩, ?_⟩); (omega); (omega); (omega); (omega); (intro j a ha; have := htt j a ha; omega)) | ((with_reducible refine VC.mk ?_); (try dsimp only); (simp only [hS1, hS2, hL, and_true, true_and, and_self, ne_eq, not_false_eq_true, not_true_eq_false]); done) | ((with_reducible refine VC.mk ?_); (try dsimp only); (try simp only [hS1, hS2, hL, and_true, true_and, and_self, ne_eq, not_false_eq_true, not_true_eq_false]); omega) | (with_reducible first | refine splitT ?_ | refine splitF ?_) | ((with_reducible refine splitM.mk (fun hsm => ?_) (fun hsm => ?_)) <;> (try exact zx)) | ((with_reducible refine splitB.mk (fun h => ?_) (fun h => ?_)) <;> (try simp only [zs, ne_eq] at h) <;> (try simp (disch := omega) only [w64] at h) <;> (try exact zx)) | (with_reducible intro hz; (try exact absurd hz (Nat.succ_ne_zero _)))))
end Go.Proofs.YtinaincgimoanaaDoor.Eng
