/- habit: lemmas for the proof, no conditions of their own. -/
import Derived.Test.YtbmejhabgoimeaaXvalid
import Derived.Test.YtbmejhabgoimeaaXreadings
set_option linter.unusedVariables false
set_option linter.unusedSimpArgs false
namespace Go.Proofs.Ytbmejhabgoimeaa.Eng
open Go Go.RowKit
set_option maxRecDepth 100000
/-- A habit's bounds. -/
def guB (b u : Int) : Bool := decide ((-50 ≤ b ∧ b ≤ 50) ∧ 1 ≤ u ∧ u ≤ 20)
def s_guess : Spec := fun args S => match args, S with
  | [.agg [.int .i16 b, .int .i16 u, .bool up]], [] => ⟨(-32768 ≤ b ∧ b < 32768) ∧ -32768 ≤ u ∧ u < 32768, .bool (guB b u), []⟩
  | _, _ => noSpec
def s_habit : Spec := fun args S => match args, S with
  | [.agg [.str nm, .int .i16 b, .int .i16 u, .bool up]], [] => ⟨True, .agg [.int .i16 b, .int .i16 u, .bool up], []⟩
  | _, _ => noSpec
abbrev RdE : ET := .prod .str (.prod (.int .i16) (.prod (.int .i16) .bool))
/-- A reader by its pointer. -/
def s_l06Habit : Spec := fun args S => match args, S with
  | [.ptr 0 i 0], [.arr (.prod .str (.prod (.int .i16) (.prod (.int .i16) .bool))) l sz wr] => ⟨i < l.length, .agg [.int .i16 ((l[i]?).getD ([], 0, 0, false)).2.1, .int .i16 ((l[i]?).getD ([], 0, 0, false)).2.2.1, .bool ((l[i]?).getD ([], 0, 0, false)).2.2.2], [.arr (.prod .str (.prod (.int .i16) (.prod (.int .i16) .bool))) l sz wr]⟩
  | _, _ => noSpec
theorem floor_t {a b : Int} (hb : 0 < b) : (a.tmod b < 0 → a.tdiv b - 1 = a / b ∧ a < 0 ∧ a / b < 0) ∧ (0 ≤ a.tmod b → a.tdiv b = a / b) ∧ (a < 0 → a.tmod b ≤ 0) := by
  have h1 := Int.tdiv_eq_ediv (a := a) (b := b)
  have h2 := Int.tmod_eq_emod (a := a) (b := b)
  have h3 := Int.emod_nonneg a (show b ≠ 0 by omega)
  have h4 := Int.emod_lt_of_pos a hb
  have hs : b.sign = 1 := Int.sign_eq_one_of_pos hb
  rw [hs] at h1
  have h7 : a < 0 → a / b < 0 := fun h => Int.ediv_neg_of_neg_of_pos h hb
  split at h1
  · rename_i h
    rw [if_pos h] at h2
    refine ⟨by omega, by omega, fun h5 => ?_⟩
    have h6 : b ∣ a := by rcases h with h | h; omega; exact h
    have := Int.emod_eq_zero_of_dvd h6
    omega
  · rename_i h
    rw [if_neg h] at h2
    have : a < 0 := by apply Classical.byContradiction; intro h9; exact h (.inl (by omega))
    have := h7 this
    omega
theorem ediv_b {a b M : Int} (hb : 0 < b) (h : -M ≤ a ∧ a ≤ M) : -M ≤ a / b ∧ a / b ≤ M := ediv_small hb h
def s_floor : Spec := fun args S => match args, S with
  | [.int .i64 a, .int .i64 b], [] => ⟨0 < b ∧ b < 9223372036854775808 ∧ -9223372036854775807 ≤ a ∧ a ≤ 9223372036854775807, .int .i64 (a / b), []⟩
  | _, _ => noSpec
theorem ok_floorDiv : SpecOk Try.prog 96 s_floor := by
  intro args S h; unfold s_floor at h ⊢; (split at h <;> first | exact False.elim h | skip)
  dsimp only at h ⊢
  rename_i a b
  have ht := floor_t (a := a) h.1
  have hq := ediv_b h.1 h.2.2
  have hr := Int.tmod_lt_of_pos a h.1
  refine funW tabOk (E := []) trivial [] (k := 0) (fn := Try.f96) rfl rfl rfl rfl rfl rfl ?_
  (repeat' ((try (conv => whnf)); first | (with_reducible first | refine And.intro ?_ ?_ | refine WX.of ?_ | exact VC.mk rfl | exact True.intro | exact VC.mk ⟨rfl, fun e => e⟩ | exact VC.mk ⟨fun e => e, rfl⟩ | exact VC.mk (Nat.le_refl _) | exact drawOk_i (by decide +kernel) (by decide +kernel) (by decide +kernel)) | ((with_reducible refine VC.mk ?_); first | (dsimp only; done) | omega | (congr 1; (try simp (disch := omega) only [w64]); omega) | exact ⟨rfl, rfl⟩ | (refine ⟨?_, ?_, ?_⟩; assumption; assumption; omega) | (refine ⟨Nat.le_trans (Nat.mul_le_mul_left _ (m := 1000) ?_) ?_, ?_⟩; decide; omega; omega)) | with_reducible refine splitT ?_ | with_reducible refine splitF ?_ | ((with_reducible refine splitB.mk (fun h => ?_) (fun h => ?_)) <;> (try simp only [decide_eq_true_eq, decide_eq_false_iff_not, ne_eq, Decidable.not_not, Int.not_lt, Int.not_le, Bool.not_eq_true', Bool.not_eq_false'] at h) <;> (try simp (disch := omega) only [w64] at h) <;> (try (exfalso; first | omega | exact h True.intro | (simp only [and_self, not_true_eq_false] at h; done) | (simp only [beq_self_eq_true, Bool.true_eq_false, reduceCtorEq] at h; done)))) | (with_reducible intro hz; (try exact absurd hz (Nat.succ_ne_zero _)))))
  · rename_i h0
    simp [show ¬ b < 0 by omega] at h
    have ht1 := ht.1 (by omega)
    refine ⟨?_⟩
    rw [show a.tdiv b = a / b + 1 by omega, w64 (n := a / b + 1) (by omega), w64 (by omega)]; simp
  · simp [show ¬ b < 0 by omega] at h
    have ht1 := ht.2.1 (by omega)
    refine ⟨?_⟩
    rw [ht1, w64 (by omega)]
theorem ok_l01Down : SpecOk Try.prog 109 s_floor := by
  intro args S h; unfold s_floor at h ⊢; (split at h <;> first | exact False.elim h | skip)
  dsimp only at h ⊢
  rename_i a b
  have ht := floor_t (a := a) h.1
  have hq := ediv_b h.1 h.2.2
  refine funW tabOk (E := []) trivial [] (k := 0) (fn := Try.f109) rfl rfl rfl rfl rfl rfl ?_
  (repeat' ((try (conv => whnf)); first | (with_reducible first | refine And.intro ?_ ?_ | refine WX.of ?_ | exact VC.mk rfl | exact True.intro | exact VC.mk ⟨rfl, fun e => e⟩ | exact VC.mk ⟨fun e => e, rfl⟩ | exact VC.mk (Nat.le_refl _) | exact drawOk_i (by decide +kernel) (by decide +kernel) (by decide +kernel)) | ((with_reducible refine VC.mk ?_); first | (dsimp only; done) | omega | (congr 1; (try simp (disch := omega) only [w64]); omega) | exact ⟨rfl, rfl⟩ | (refine ⟨?_, ?_, ?_⟩; assumption; assumption; omega) | (refine ⟨Nat.le_trans (Nat.mul_le_mul_left _ (m := 1000) ?_) ?_, ?_⟩; decide; omega; omega)) | with_reducible refine splitT ?_ | with_reducible refine splitF ?_ | ((with_reducible refine splitB.mk (fun h => ?_) (fun h => ?_)) <;> (try simp only [decide_eq_true_eq, decide_eq_false_iff_not, ne_eq, Decidable.not_not, Int.not_lt, Int.not_le, Bool.not_eq_true', Bool.not_eq_false'] at h) <;> (try simp (disch := omega) only [w64] at h) <;> (try (exfalso; first | omega | exact h True.intro | (simp only [and_self, not_true_eq_false] at h; done) | (simp only [beq_self_eq_true, Bool.true_eq_false, reduceCtorEq] at h; done)))) | (with_reducible intro hz; (try exact absurd hz (Nat.succ_ne_zero _)))))
/-- What a habit reads of a value. -/
def rdN (b u : Int) (up : Bool) (p q : Int) : Int :=
  if up = true then u * ((2 * (p + b * q) + u * q) / (2 * (u * q))) else -u * ((u * q - 2 * (p + b * q)) / (2 * (u * q)))
def gB (b u : Int) : Prop := (-50 ≤ b ∧ b ≤ 50) ∧ 1 ≤ u ∧ u ≤ 20
theorem gB_iff {b u : Int} : guB b u = true ↔ gB b u := by simp [guB, gB]
def s_l06Read : Spec := fun args S => match args, S with
  | [.agg [.int .i16 b, .int .i16 u, .bool up], .agg [.int .i64 p, .int .i64 q]], [] => ⟨gB b u ∧ smF p q, .int .i64 (rdN b u up p q), []⟩
  | _, _ => noSpec
/-- Bounds of what is read. -/
theorem rd_b {b u p q : Int} (h1 : gB b u) (h2 : smF p q) : (-50000000000 ≤ b * q ∧ b * q ≤ 50000000000) ∧ (1 ≤ u * q ∧ u * q ≤ 20000000000) ∧
    (-300000000000 ≤ (2 * (p + b * q) + u * q) / (2 * (u * q)) ∧ (2 * (p + b * q) + u * q) / (2 * (u * q)) ≤ 300000000000) ∧
    (-300000000000 ≤ (u * q - 2 * (p + b * q)) / (2 * (u * q)) ∧ (u * q - 2 * (p + b * q)) / (2 * (u * q)) ≤ 300000000000) ∧
    (-6000000000000 ≤ u * ((2 * (p + b * q) + u * q) / (2 * (u * q))) ∧ u * ((2 * (p + b * q) + u * q) / (2 * (u * q))) ≤ 6000000000000) ∧
    (-6000000000000 ≤ u * ((u * q - 2 * (p + b * q)) / (2 * (u * q))) ∧ u * ((u * q - 2 * (p + b * q)) / (2 * (u * q))) ≤ 6000000000000) := by
  unfold gB at h1; unfold smF at h2
  have e1 : -50000000000 ≤ b * q ∧ b * q ≤ 50000000000 := by
    have h3 : b.natAbs ≤ 50 := by omega
    have h4 : q.natAbs ≤ 1000000000 := by omega
    have h5 := Nat.mul_le_mul h3 h4
    rw [← Int.natAbs_mul] at h5; omega
  have e2 : 1 ≤ u * q ∧ u * q ≤ 20000000000 := by
    refine ⟨mulPos h1.2.1 h2.2.1, ?_⟩
    have := Int.mul_le_mul h1.2.2 h2.2.2 (by omega) (by omega); omega
  have e3 := ediv_small (p := 2 * (p + b * q) + u * q) (g := 2 * (u * q)) (M := 300000000000) (by omega) (by omega)
  have e4 := ediv_small (p := u * q - 2 * (p + b * q)) (g := 2 * (u * q)) (M := 300000000000) (by omega) (by omega)
  have e5 : ∀ x : Int, -300000000000 ≤ x ∧ x ≤ 300000000000 → -6000000000000 ≤ u * x ∧ u * x ≤ 6000000000000 := fun x hx => by
    have h3 : u.natAbs ≤ 20 := by omega
    have h4 : x.natAbs ≤ 300000000000 := by omega
    have h5 := Nat.mul_le_mul h3 h4
    rw [← Int.natAbs_mul] at h5; omega
  exact ⟨e1, e2, e3, e4, e5 _ e3, e5 _ e4⟩
def s_reads : Spec := fun args S => match args, S with
  | [.agg [.int .i16 b, .int .i16 u, .bool up], .agg [.int .i64 p, .int .i64 q]], [] => ⟨gB b u ∧ smF p q, .tup [.int .i64 (rdN b u up p q), .bool (decide (-1000000 ≤ rdN b u up p q ∧ rdN b u up p q ≤ 1000000))], []⟩
  | _, _ => noSpec
/-- A name of 1 to 12 letters. -/
def letB (c : UInt8) : Bool := decide (97 ≤ c.toNat ∧ c.toNat ≤ 122)
def wordB (s : List UInt8) : Bool := decide (1 ≤ s.length ∧ s.length ≤ 12) && s.all letB
def s_word : Spec := fun args S => match args, S with
  | [.str s], [] => ⟨s.length ≤ 9223372036854775807, .bool (wordB s), []⟩
  | _, _ => noSpec
theorem word_no {s : List UInt8} {i : Nat} {c : UInt8} (h : s[i]? = some c) (hc : letB c = false) : wordB s = false := by
  unfold wordB
  have : s.all letB = false := by
    rw [List.all_eq_false]
    exact ⟨c, List.mem_of_getElem? h, by simp [hc]⟩
  rw [this]; simp
theorem word_all {s : List UInt8} (h : ∀ (j : Nat) c, s[j]? = some c → letB c = true) : s.all letB = true := by
  rw [List.all_eq_true]
  intro c hc
  obtain ⟨j, hj⟩ := List.getElem?_of_mem hc
  exact h j c hj
theorem ok_isWord : SpecOk Try.prog 110 s_word := by
  intro args S h; unfold s_word at h ⊢; (split at h <;> first | exact False.elim h | skip)
  dsimp only at h ⊢
  rename_i s
  refine funW tabOk (E := [(71, s_within)]) ⟨ok_within, trivial⟩ [] (k := 0) (fn := Try.f110) rfl rfl rfl rfl rfl rfl ?_
  (repeat' ((try (conv => whnf)); first | (with_reducible first | refine And.intro ?_ ?_ | refine WX.of ?_ | exact VC.mk rfl | exact True.intro | exact VC.mk ⟨rfl, fun e => e⟩ | exact VC.mk ⟨fun e => e, rfl⟩ | exact VC.mk (Nat.le_refl _) | exact drawOk_i (by decide +kernel) (by decide +kernel) (by decide +kernel)) | ((with_reducible refine VC.mk ?_); first | (dsimp only; done) | omega | (congr 1; (try simp (disch := omega) only [w64]); omega) | exact ⟨rfl, rfl⟩ | (refine ⟨?_, ?_, ?_⟩; assumption; assumption; omega) | (refine ⟨Nat.le_trans (Nat.mul_le_mul_left _ (m := 1000) ?_) ?_, ?_⟩; decide; omega; omega)) | with_reducible refine splitT ?_ | with_reducible refine splitF ?_ | ((with_reducible refine splitB.mk (fun h => ?_) (fun h => ?_)) <;> (try simp only [decide_eq_true_eq, decide_eq_false_iff_not, ne_eq, Decidable.not_not, Int.not_lt, Int.not_le, Bool.not_eq_true', Bool.not_eq_false'] at h) <;> (try simp (disch := omega) only [w64] at h) <;> (try (exfalso; first | omega | exact h True.intro | (simp only [and_self, not_true_eq_false] at h; done) | (simp only [beq_self_eq_true, Bool.true_eq_false, reduceCtorEq] at h; done)))) | (with_reducible intro hz; (try exact absurd hz (Nat.succ_ne_zero _)))))
  refine loopW tabOk (E := [(71, s_within)]) ⟨ok_within, trivial⟩ [] (σ := Nat) (fun i => [(0, .str s), (5, .int .i64 s.length), (6, .int .i64 i)]) (fun i => []) (fun i => s.length - i) (fun i => i ≤ s.length ∧ ∀ (j : Nat) c, j < i → s[j]? = some c → letB c = true) 0 ⟨Nat.zero_le _, fun j a hj => by omega⟩ ?_ ?_
  · (repeat' ((try (conv => whnf)); first | (with_reducible first | refine And.intro ?_ ?_ | refine WX.of ?_ | exact VC.mk rfl | exact True.intro | exact VC.mk ⟨rfl, fun e => e⟩ | exact VC.mk ⟨fun e => e, rfl⟩ | exact VC.mk (Nat.le_refl _) | exact drawOk_i (by decide +kernel) (by decide +kernel) (by decide +kernel)) | ((with_reducible refine VC.mk ?_); first | (dsimp only; done) | omega | (congr 1; (try simp (disch := omega) only [w64]); omega) | exact ⟨rfl, rfl⟩ | (refine ⟨?_, ?_, ?_⟩; assumption; assumption; omega) | (refine ⟨Nat.le_trans (Nat.mul_le_mul_left _ (m := 1000) ?_) ?_, ?_⟩; decide; omega; omega)) | with_reducible refine splitT ?_ | with_reducible refine splitF ?_ | ((with_reducible refine splitB.mk (fun h => ?_) (fun h => ?_)) <;> (try simp only [decide_eq_true_eq, decide_eq_false_iff_not, ne_eq, Decidable.not_not, Int.not_lt, Int.not_le, Bool.not_eq_true', Bool.not_eq_false'] at h) <;> (try simp (disch := omega) only [w64] at h) <;> (try (exfalso; first | omega | exact h True.intro | (simp only [and_self, not_true_eq_false] at h; done) | (simp only [beq_self_eq_true, Bool.true_eq_false, reduceCtorEq] at h; done)))) | (with_reducible intro hz; (try exact absurd hz (Nat.succ_ne_zero _)))))
  · intro i ⟨hi, hp⟩
    by_cases hlt : i < s.length
    · obtain ⟨c, hc⟩ := get_some (l := s) (i := i) (by omega)
      (repeat' ((try (conv => whnf)); first | (with_reducible first | refine And.intro ?_ ?_ | refine WX.of ?_ | exact VC.mk rfl | exact True.intro | exact VC.mk ⟨rfl, fun e => e⟩ | exact VC.mk ⟨fun e => e, rfl⟩ | exact VC.mk (Nat.le_refl _) | exact drawOk_i (by decide +kernel) (by decide +kernel) (by decide +kernel)) | ((with_reducible refine VC.mk ?_); first | (dsimp only; done) | omega | (congr 1; (try simp (disch := omega) only [w64]); omega) | exact ⟨rfl, rfl⟩ | (refine ⟨?_, ?_, ?_⟩; assumption; assumption; omega) | (refine ⟨Nat.le_trans (Nat.mul_le_mul_left _ (m := 1000) ?_) ?_, ?_⟩; decide; omega; omega)) | refine atL_n hc ?_ | with_reducible refine splitT ?_ | with_reducible refine splitF ?_ | ((with_reducible refine splitB.mk (fun h => ?_) (fun h => ?_)) <;> (try simp only [decide_eq_true_eq, decide_eq_false_iff_not, ne_eq, Decidable.not_not, Int.not_lt, Int.not_le, Bool.not_eq_true', Bool.not_eq_false'] at h) <;> (try simp (disch := omega) only [w64] at h) <;> (try (exfalso; first | omega | exact h True.intro | (simp only [and_self, not_true_eq_false] at h; done) | (simp only [beq_self_eq_true, Bool.true_eq_false, reduceCtorEq] at h; done)))) | (with_reducible intro hz; (try exact absurd hz (Nat.succ_ne_zero _)))))
      · exact ⟨by rw [word_no hc (by unfold letB; rw [decide_eq_false]; omega)]⟩
      · exact ⟨by rw [word_no hc (by unfold letB; rw [decide_eq_false]; omega)]⟩
      · refine ⟨i + 1, by omega, ⟨hlt, upto_step hc (by unfold letB; rw [decide_eq_true]; omega) hp⟩, ?_⟩
        (repeat' ((try (conv => whnf)); first | (with_reducible first | refine And.intro ?_ ?_ | refine WX.of ?_ | exact VC.mk rfl | exact True.intro | exact VC.mk ⟨rfl, fun e => e⟩ | exact VC.mk ⟨fun e => e, rfl⟩ | exact VC.mk (Nat.le_refl _) | exact drawOk_i (by decide +kernel) (by decide +kernel) (by decide +kernel)) | ((with_reducible refine VC.mk ?_); first | (dsimp only; done) | omega | (congr 1; (try simp (disch := omega) only [w64]); omega) | exact ⟨rfl, rfl⟩ | (refine ⟨?_, ?_, ?_⟩; assumption; assumption; omega) | (refine ⟨Nat.le_trans (Nat.mul_le_mul_left _ (m := 1000) ?_) ?_, ?_⟩; decide; omega; omega)) | with_reducible refine splitT ?_ | with_reducible refine splitF ?_ | ((with_reducible refine splitB.mk (fun h => ?_) (fun h => ?_)) <;> (try simp only [decide_eq_true_eq, decide_eq_false_iff_not, ne_eq, Decidable.not_not, Int.not_lt, Int.not_le, Bool.not_eq_true', Bool.not_eq_false'] at h) <;> (try simp (disch := omega) only [w64] at h) <;> (try (exfalso; first | omega | exact h True.intro | (simp only [and_self, not_true_eq_false] at h; done) | (simp only [beq_self_eq_true, Bool.true_eq_false, reduceCtorEq] at h; done)))) | (with_reducible intro hz; (try exact absurd hz (Nat.succ_ne_zero _)))))
    · (repeat' ((try (conv => whnf)); first | (with_reducible first | refine And.intro ?_ ?_ | refine WX.of ?_ | exact VC.mk rfl | exact True.intro | exact VC.mk ⟨rfl, fun e => e⟩ | exact VC.mk ⟨fun e => e, rfl⟩ | exact VC.mk (Nat.le_refl _) | exact drawOk_i (by decide +kernel) (by decide +kernel) (by decide +kernel)) | ((with_reducible refine VC.mk ?_); first | (dsimp only; done) | omega | (congr 1; (try simp (disch := omega) only [w64]); omega) | exact ⟨rfl, rfl⟩ | (refine ⟨?_, ?_, ?_⟩; assumption; assumption; omega) | (refine ⟨Nat.le_trans (Nat.mul_le_mul_left _ (m := 1000) ?_) ?_, ?_⟩; decide; omega; omega)) | with_reducible refine splitT ?_ | with_reducible refine splitF ?_ | ((with_reducible refine splitB.mk (fun h => ?_) (fun h => ?_)) <;> (try simp only [decide_eq_true_eq, decide_eq_false_iff_not, ne_eq, Decidable.not_not, Int.not_lt, Int.not_le, Bool.not_eq_true', Bool.not_eq_false'] at h) <;> (try simp (disch := omega) only [w64] at h) <;> (try (exfalso; first | omega | exact h True.intro | (simp only [and_self, not_true_eq_false] at h; done) | (simp only [beq_self_eq_true, Bool.true_eq_false, reduceCtorEq] at h; done)))) | (with_reducible intro hz; (try exact absurd hz (Nat.succ_ne_zero _)))))
      have ha := word_all fun j c hj => hp j c (by have := (List.getElem?_eq_some_iff.1 hj).1; omega) hj
      refine ⟨congrArg SV.bool ?_⟩
      unfold wordB; rw [ha, Bool.and_true, decide_eq_decide]; omega
/-- A valid reader. -/
def rdrB (nm : List UInt8) (b u : Int) : Bool := wordB nm && guB b u
def s_vReader : Spec := fun args S => match args, S with
  | [.agg [.str nm, .int .i16 b, .int .i16 u, .bool up]], [] => ⟨nm.length ≤ 9223372036854775807 ∧ (-32768 ≤ b ∧ b < 32768) ∧ -32768 ≤ u ∧ u < 32768, .bool (rdrB nm b u), []⟩
  | _, _ => noSpec
/-- A valid reader by its pointer. -/
def rdrOk (a : List UInt8 × Int × Int × Bool) : Bool := rdrB a.1 a.2.1 a.2.2.1
def rdrGood (a : List UInt8 × Int × Int × Bool) : Prop := a.1.length ≤ 9223372036854775807 ∧ (-32768 ≤ a.2.1 ∧ a.2.1 < 32768) ∧ -32768 ≤ a.2.2.1 ∧ a.2.2.1 < 32768
def s_l06Ok : Spec := fun args S => match args, S with
  | [.ptr 0 i 0], [.arr (.prod .str (.prod (.int .i16) (.prod (.int .i16) .bool))) l sz wr] => ⟨i < l.length ∧ ∀ (j : Nat) a, l[j]? = some a → rdrGood a, .bool (rdrOk ((l[i]?).getD ([], 0, 0, false))), [.arr (.prod .str (.prod (.int .i16) (.prod (.int .i16) .bool))) l sz wr]⟩
  | _, _ => noSpec
def rdCode (nm : List UInt8) (b u : Int) (up : Bool) (p q : Int) : Int := if (rdrB nm b u && fOk p q) = true then (if decide (-1000000 ≤ rdN b u up p q ∧ rdN b u up p q ≤ 1000000) = true then 0 else 2) else 1
def rdVal (nm : List UInt8) (b u : Int) (up : Bool) (p q : Int) : Int := if rdCode nm b u up p q = 0 then rdN b u up p q else 0
def s_ReadingOf : Spec := fun args S => match args, S with
  | [.agg [.str nm, .int .i16 b, .int .i16 u, .bool up], .agg [.int .i64 p, .int .i64 q]], [] => ⟨nm.length ≤ 9223372036854775807 ∧ (-32768 ≤ b ∧ b < 32768) ∧ -32768 ≤ u ∧ u < 32768, .tup [.int .i64 (rdVal nm b u up p q), .int .i64 (rdCode nm b u up p q)], []⟩
  | _, _ => noSpec
def s_toReader : Spec := fun args S => match args, S with
  | [.agg [.str nm, .int .i16 b, .int .i16 u, .bool up]], [] => ⟨True, .agg [.str nm, .int .i16 b, .int .i16 u, .bool up], []⟩
  | _, _ => noSpec
def s_szReader : Spec := fun args S => match args, S with
  | [.agg [.str nm, .int .i16 b, .int .i16 u, .bool up], .int .i64 n], [] => ⟨(0 ≤ n ∧ n ≤ 1048576) ∧ nm.length ≤ 9223372036854775807, .int .i64 (max (-1) (n - nm.length)), []⟩
  | _, _ => noSpec
end Go.Proofs.Ytbmejhabgoimeaa.Eng
