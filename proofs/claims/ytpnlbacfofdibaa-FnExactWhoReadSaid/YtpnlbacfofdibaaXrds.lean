/- rds: lemmas for the proof, no conditions of their own. -/
import Derived.Test.YtpnlbacfofdibaaXhits
import Derived.Test.YtpnlbacfofdibaaXtoFracS
import Derived.Test.YtpnlbacfofdibaaXlawReadingOf
import Derived.Test.YtpnlbacfofdibaaXmarksN
set_option linter.unusedVariables false
set_option linter.unusedSimpArgs false
namespace Go.Proofs.Ytpnlbacfofdibaa.Eng
open Go Go.RowKit
set_option maxRecDepth 100000
/-- What is read of some values. -/
def rdsV (b u : Int) (up : Bool) (V : List (Int × Int)) : List Int := V.map fun a => rdN b u up a.1 a.2
def rdsC (nm : List UInt8) (b u : Int) (up : Bool) (V : List (Int × Int)) : Int := if (rdrB nm b u && allF V) = true then areCode (rdsV b u up V) else 1
theorem rds_len {b u : Int} {up : Bool} {V : List (Int × Int)} : (rdsV b u up V).length = V.length := by simp [rdsV]
theorem rds_get {b u : Int} {up : Bool} {V : List (Int × Int)} {i : Nat} {p q : Int} (h : V[i]? = some (p, q)) : (rdsV b u up V)[i]? = some (rdN b u up p q) := by
  unfold rdsV; rw [List.getElem?_map, h]; rfl
theorem are_plain {L : List Int} (h : areB L = true) {i : Nat} {a : Int} (ha : L[i]? = some a) : plainB a = true := by
  unfold areB at h
  rw [Bool.and_eq_true, List.all_eq_true] at h
  exact h.2 a (List.mem_of_getElem? ha)
theorem rds_0 {nm : List UInt8} {b u : Int} {up : Bool} {V : List (Int × Int)} (h : rdsC nm b u up V = 0) : rdrB nm b u = true ∧ allF V = true ∧ areB (rdsV b u up V) = true := by
  unfold rdsC at h
  split at h
  · rename_i h1
    rw [Bool.and_eq_true] at h1
    refine ⟨h1.1, h1.2, ?_⟩
    unfold areCode at h
    split at h
    · assumption
    · simp at h
  · simp at h
theorem rds_2 {nm : List UInt8} {b u : Int} {up : Bool} {V : List (Int × Int)} (h1 : rdrB nm b u = true) (h2 : allF V = true) (h3 : areB (rdsV b u up V) = false) : rdsC nm b u up V = 2 := by
  simp [rdsC, h1, h2, areCode, h3]
theorem rds_1 {nm : List UInt8} {b u : Int} {up : Bool} {V : List (Int × Int)} (h : ¬ (rdrB nm b u = true ∧ allF V = true)) : rdsC nm b u up V = 1 := by
  unfold rdsC; rw [if_neg (by rw [Bool.and_eq_true]; exact h)]
theorem are_few {L : List Int} (h : ¬ (1 ≤ L.length ∧ L.length ≤ 64)) : areB L = false := by
  unfold areB; rw [decide_eq_false h]; rfl
theorem are_no {L : List Int} {i : Nat} {a : Int} (ha : L[i]? = some a) (h : plainB a = false) : areB L = false := by
  unfold areB; rw [all_no ha h, Bool.and_false]
theorem are_yes {L : List Int} {n : Nat} (hn : L.length = n) (h1 : 1 ≤ n ∧ n ≤ 64) (h : ∀ (j : Nat) a, j < n → L[j]? = some a → plainB a = true) : areB L = true := by
  unfold areB; rw [decide_eq_true (by omega), all_yes (n := n) (by omega) h]; rfl
def s_rds1 : Spec := fun args S => match args, S with
  | [.agg [.str nm, .int .i16 b, .int .i16 u, .bool up], .sl 0 s n x], [.arr (.prod (.int .i64) (.int .i64)) l 2 wr] => ⟨(s + n ≤ l.length ∧ n ≤ 1048576) ∧ (nm.length ≤ 9223372036854775807 ∧ (-32768 ≤ b ∧ b < 32768) ∧ -32768 ≤ u ∧ u < 32768) ∧ rdsC nm b u up (seg l s n) = 0, .tup [.sl 1 0 n 0, .int .i64 0], [.arr (.prod (.int .i64) (.int .i64)) l 2 wr, .arr (.int .i64) (rdsV b u up (seg l s n)) 1 true]⟩
  | _, _ => noSpec
def s_rds0 : Spec := fun args S => match args, S with
  | [.agg [.str nm, .int .i16 b, .int .i16 u, .bool up], .sl 0 s n x], [.arr (.prod (.int .i64) (.int .i64)) l 2 wr] => ⟨(s + n ≤ l.length ∧ n ≤ 1048576) ∧ (nm.length ≤ 9223372036854775807 ∧ (-32768 ≤ b ∧ b < 32768) ∧ -32768 ≤ u ∧ u < 32768) ∧ rdsC nm b u up (seg l s n) ≠ 0, .tup [.nils, .int .i64 (rdsC nm b u up (seg l s n))], [.arr (.prod (.int .i64) (.int .i64)) l 2 wr]⟩
  | _, _ => noSpec
def s_rds0S : Spec := fun args S => match args, S with
  | [.agg [.str nm, .int .i16 b, .int .i16 u, .bool up], .sl 0 s n x], [.arr (.prod (.int .i64) (.int .i64)) l 2 wr] => ⟨(s + n ≤ l.length ∧ n ≤ 1048576) ∧ (nm.length ≤ 9223372036854775807 ∧ (-32768 ≤ b ∧ b < 32768) ∧ -32768 ≤ u ∧ u < 32768) ∧ rdsC nm b u up (seg l s n) ≠ 0, .tup [.sl 1 0 0 0, .int .i64 (rdsC nm b u up (seg l s n))], [.arr (.prod (.int .i64) (.int .i64)) l 2 wr, .arr (.int .i64) [] 1 true]⟩
  | _, _ => noSpec
theorem ok_ReadingsOfI1 : SpecOk Try.prog 17 s_rds1 := by
  intro args S h; unfold s_rds1 at h ⊢; (split at h <;> first | exact False.elim h | skip)
  dsimp only at h ⊢
  rename_i nm b u up s n x l wr
  obtain ⟨⟨h1, h2⟩, h3, hc⟩ := h
  obtain ⟨hr, hV, hA⟩ := rds_0 hc
  have hg := hr
  simp only [rdrB, Bool.and_eq_true] at hg
  have hL := seg_len h1
  have hn := are_len hA
  rw [rds_len, hL] at hn
  refine funW tabOk (E := [(60, s_vReader), (61, s_allF), (62, s_count), (63, s_habit), (64, s_reads)]) ⟨ok_ValidReader, ok_areValid, ok_isCount, ok_habit, ok_reads, trivial⟩ [(9, [(2, 0)])] (k := 1) (fn := Try.f17) rfl rfl rfl rfl rfl rfl ?_
  (repeat' ((try (conv => whnf)); first | (with_reducible first | refine And.intro ?_ ?_ | refine WX.of ?_ | exact VC.mk rfl | exact True.intro | exact VC.mk ⟨rfl, fun e => e⟩ | exact VC.mk ⟨fun e => e, rfl⟩ | exact VC.mk (Nat.le_refl _) | exact drawOk_i (by decide +kernel) (by decide +kernel) (by decide +kernel)) | ((with_reducible refine VC.mk ?_); first | (dsimp only; done) | omega | (congr 1; (try simp (disch := omega) only [w64]); omega) | exact ⟨rfl, rfl⟩ | (refine ⟨?_, ?_, ?_⟩; assumption; assumption; omega) | (refine ⟨Nat.le_trans (Nat.mul_le_mul_left _ (m := 1000) ?_) ?_, ?_⟩; decide; omega; omega)) | ((with_reducible refine splitT_of ?_ ?_); (focus (simp only [hr, hV, Bool.not_true, Bool.not_false, decide_true, decide_false]; done))) | ((with_reducible refine splitF_of ?_ ?_); (focus (simp only [hr, hV, Bool.not_true, Bool.not_false, decide_true, decide_false]; done))) | with_reducible refine splitT ?_ | with_reducible refine splitF ?_ | ((with_reducible refine splitB.mk (fun h => ?_) (fun h => ?_)) <;> (try simp only [decide_eq_true_eq, decide_eq_false_iff_not, ne_eq, Decidable.not_not, Int.not_lt, Int.not_le, Bool.not_eq_true', Bool.not_eq_false'] at h) <;> (try simp (disch := omega) only [w64] at h) <;> (try (exfalso; first | omega | exact h True.intro | (simp only [and_self, not_true_eq_false] at h; done) | (simp only [beq_self_eq_true, Bool.true_eq_false, reduceCtorEq] at h; done)))) | (with_reducible intro hz; (try exact absurd hz (Nat.succ_ne_zero _)))))
  refine loopW tabOk (E := [(60, s_vReader), (61, s_allF), (62, s_count), (63, s_habit), (64, s_reads)]) ⟨ok_ValidReader, ok_areValid, ok_isCount, ok_habit, ok_reads, trivial⟩ [(9, [(2, 0)])] (σ := Nat) (fun i => [(2, .ptr 1 0 0), (6, .sl 2 0 i 0), (24, .sl 0 s n x), (25, .int .i64 n), (26, .int .i64 i)]) (fun i => [.arr (.prod (.int .i64) (.int .i64)) l 2 wr, .arr (.prod .str (.prod (.int .i16) (.prod (.int .i16) .bool))) [(nm, b, u, up)] 0 true, .arr (.int .i64) ((rdsV b u up (seg l s n)).take i) 1 true]) (fun i => n - i) (fun i => i ≤ n) 0 (Nat.zero_le _) ?_ ?_
  · (repeat' ((try (conv => whnf)); first | (with_reducible first | refine And.intro ?_ ?_ | refine WX.of ?_ | exact VC.mk rfl | exact True.intro | exact VC.mk ⟨rfl, fun e => e⟩ | exact VC.mk ⟨fun e => e, rfl⟩ | exact VC.mk (Nat.le_refl _) | exact drawOk_i (by decide +kernel) (by decide +kernel) (by decide +kernel)) | ((with_reducible refine VC.mk ?_); first | (dsimp only; done) | omega | (congr 1; (try simp (disch := omega) only [w64]); omega) | exact ⟨rfl, rfl⟩ | (refine ⟨?_, ?_, ?_⟩; assumption; assumption; omega) | (refine ⟨Nat.le_trans (Nat.mul_le_mul_left _ (m := 1000) ?_) ?_, ?_⟩; decide; omega; omega)) | with_reducible refine splitT ?_ | with_reducible refine splitF ?_ | ((with_reducible refine splitB.mk (fun h => ?_) (fun h => ?_)) <;> (try simp only [decide_eq_true_eq, decide_eq_false_iff_not, ne_eq, Decidable.not_not, Int.not_lt, Int.not_le, Bool.not_eq_true', Bool.not_eq_false'] at h) <;> (try simp (disch := omega) only [w64] at h) <;> (try (exfalso; first | omega | exact h True.intro | (simp only [and_self, not_true_eq_false] at h; done) | (simp only [beq_self_eq_true, Bool.true_eq_false, reduceCtorEq] at h; done)))) | (with_reducible intro hz; (try exact absurd hz (Nat.succ_ne_zero _)))))
  · intro i hi
    have hlen : ((rdsV b u up (seg l s n)).take i).length = i := by rw [List.length_take, rds_len]; omega
    by_cases hlt : i < n
    · obtain ⟨⟨p, q⟩, ha⟩ := get_some (l := seg l s n) (i := i) (by omega)
      have hf : fOk p q = true := allF_all hV ha
      have hp := are_plain hA (rds_get (b := b) (u := u) (up := up) ha)
      unfold plainB at hp
      (repeat' ((try (conv => whnf)); first | (with_reducible first | refine And.intro ?_ ?_ | refine WX.of ?_ | exact VC.mk rfl | exact True.intro | exact VC.mk ⟨rfl, fun e => e⟩ | exact VC.mk ⟨fun e => e, rfl⟩ | exact VC.mk (Nat.le_refl _) | exact drawOk_i (by decide +kernel) (by decide +kernel) (by decide +kernel)) | ((with_reducible refine VC.mk ?_); first | (dsimp only; done) | omega | (congr 1; (try simp (disch := omega) only [w64]); omega) | exact ⟨rfl, rfl⟩ | (refine ⟨?_, ?_, ?_⟩; assumption; assumption; omega) | (refine ⟨Nat.le_trans (Nat.mul_le_mul_left _ (m := 1000) ?_) ?_, ?_⟩; decide; omega; omega)) | refine atL_i ha ?_ | exact VC.mk ⟨gB_iff.1 hg.2, smF_ok hf⟩ | ((with_reducible refine splitT_of ?_ ?_); (focus (simp only [hp, Bool.not_true, Bool.not_false, decide_true, decide_false]; done))) | ((with_reducible refine splitF_of ?_ ?_); (focus (simp only [hp, Bool.not_true, Bool.not_false, decide_true, decide_false]; done))) | with_reducible refine splitT ?_ | with_reducible refine splitF ?_ | ((with_reducible refine splitB.mk (fun h => ?_) (fun h => ?_)) <;> (try simp only [decide_eq_true_eq, decide_eq_false_iff_not, ne_eq, Decidable.not_not, Int.not_lt, Int.not_le, Bool.not_eq_true', Bool.not_eq_false'] at h) <;> (try simp (disch := omega) only [w64] at h) <;> (try (exfalso; first | omega | exact h True.intro | (simp only [and_self, not_true_eq_false] at h; done) | (simp only [beq_self_eq_true, Bool.true_eq_false, reduceCtorEq] at h; done)))) | (with_reducible intro hz; (try exact absurd hz (Nat.succ_ne_zero _)))))
      refine ⟨i + 1, by omega, hlt, ?_⟩
      (repeat' ((try (conv => whnf)); first | (with_reducible first | refine And.intro ?_ ?_ | refine WX.of ?_ | exact VC.mk rfl | exact True.intro | exact VC.mk ⟨rfl, fun e => e⟩ | exact VC.mk ⟨fun e => e, rfl⟩ | exact VC.mk (Nat.le_refl _) | exact drawOk_i (by decide +kernel) (by decide +kernel) (by decide +kernel)) | ((with_reducible refine VC.mk ?_); first | (dsimp only; done) | omega | (congr 1; (try simp (disch := omega) only [w64]); omega) | exact ⟨rfl, rfl⟩ | (refine ⟨?_, ?_, ?_⟩; assumption; assumption; omega) | (refine ⟨Nat.le_trans (Nat.mul_le_mul_left _ (m := 1000) ?_) ?_, ?_⟩; decide; omega; omega)) | with_reducible refine splitT ?_ | with_reducible refine splitF ?_ | ((with_reducible refine splitB.mk (fun h => ?_) (fun h => ?_)) <;> (try simp only [decide_eq_true_eq, decide_eq_false_iff_not, ne_eq, Decidable.not_not, Int.not_lt, Int.not_le, Bool.not_eq_true', Bool.not_eq_false'] at h) <;> (try simp (disch := omega) only [w64] at h) <;> (try (exfalso; first | omega | exact h True.intro | (simp only [and_self, not_true_eq_false] at h; done) | (simp only [beq_self_eq_true, Bool.true_eq_false, reduceCtorEq] at h; done)))) | (with_reducible intro hz; (try exact absurd hz (Nat.succ_ne_zero _)))))
      exact ⟨app_take (rds_get ha)⟩
    · obtain rfl : i = n := by omega
      rw [List.take_of_length_le (by rw [rds_len]; omega)]
      (repeat' ((try (conv => whnf)); first | (with_reducible first | refine And.intro ?_ ?_ | refine WX.of ?_ | exact VC.mk rfl | exact True.intro | exact VC.mk ⟨rfl, fun e => e⟩ | exact VC.mk ⟨fun e => e, rfl⟩ | exact VC.mk (Nat.le_refl _) | exact drawOk_i (by decide +kernel) (by decide +kernel) (by decide +kernel)) | ((with_reducible refine VC.mk ?_); first | (dsimp only; done) | omega | (congr 1; (try simp (disch := omega) only [w64]); omega) | exact ⟨rfl, rfl⟩ | (refine ⟨?_, ?_, ?_⟩; assumption; assumption; omega) | (refine ⟨Nat.le_trans (Nat.mul_le_mul_left _ (m := 1000) ?_) ?_, ?_⟩; decide; omega; omega)) | with_reducible refine splitT ?_ | with_reducible refine splitF ?_ | ((with_reducible refine splitB.mk (fun h => ?_) (fun h => ?_)) <;> (try simp only [decide_eq_true_eq, decide_eq_false_iff_not, ne_eq, Decidable.not_not, Int.not_lt, Int.not_le, Bool.not_eq_true', Bool.not_eq_false'] at h) <;> (try simp (disch := omega) only [w64] at h) <;> (try (exfalso; first | omega | exact h True.intro | (simp only [and_self, not_true_eq_false] at h; done) | (simp only [beq_self_eq_true, Bool.true_eq_false, reduceCtorEq] at h; done)))) | (with_reducible intro hz; (try exact absurd hz (Nat.succ_ne_zero _)))))
theorem ok_ReadingsOfS1 : SpecOk Try.prog 14 s_rds1 := by
  intro args S h; unfold s_rds1 at h ⊢; (split at h <;> first | exact False.elim h | skip)
  dsimp only at h ⊢
  rename_i nm b u up s n x l wr
  obtain ⟨⟨h1, h2⟩, h3, hc⟩ := h
  obtain ⟨hr, hV, hA⟩ := rds_0 hc
  have hg := hr
  simp only [rdrB, Bool.and_eq_true] at hg
  have hL := seg_len h1
  have hn := are_len hA
  rw [rds_len, hL] at hn
  refine funW tabOk (E := [(53, s_l06Ok), (54, s_allF), (55, s_count), (57, s_l06Habit), (56, s_l06Read), (58, s_plain)]) ⟨ok_l06Ok, ok_l06Values, ok_l06Many, ok_l06Habit, ok_l06Read, ok_l06Plain, trivial⟩ [(9, [(4, 0)])] (k := 1) (fn := Try.f14) rfl rfl rfl rfl rfl rfl ?_
  have hr' : rdrOk (nm, b, u, up) = true := hr
  have hro : ∀ (j : Nat) (a : List UInt8 × Int × Int × Bool), ([(nm, b, u, up)] : List (List UInt8 × Int × Int × Bool))[j]? = some a → rdrGood a := fun j a ha => by
    match j with
    | 0 => obtain rfl := Option.some.inj ha; exact h3
    | j + 1 => simp at ha
  (repeat' ((try (conv => whnf)); first | (with_reducible first | refine And.intro ?_ ?_ | refine WX.of ?_ | exact VC.mk rfl | exact True.intro | exact VC.mk ⟨rfl, fun e => e⟩ | exact VC.mk ⟨fun e => e, rfl⟩ | exact VC.mk (Nat.le_refl _) | exact drawOk_i (by decide +kernel) (by decide +kernel) (by decide +kernel)) | ((with_reducible refine VC.mk ?_); first | (dsimp only; done) | omega | (congr 1; (try simp (disch := omega) only [w64]); omega) | exact ⟨rfl, rfl⟩ | (refine ⟨?_, ?_, ?_⟩; assumption; assumption; omega) | (refine ⟨Nat.le_trans (Nat.mul_le_mul_left _ (m := 1000) ?_) ?_, ?_⟩; decide; omega; omega)) | exact VC.mk ⟨Nat.zero_lt_one, hro⟩ | ((with_reducible refine splitT_of ?_ ?_); (focus (simp only [hr', hV, List.getElem?_cons_zero, Option.getD_some, Bool.not_true, Bool.not_false, decide_true, decide_false]; done))) | ((with_reducible refine splitF_of ?_ ?_); (focus (simp only [hr', hV, List.getElem?_cons_zero, Option.getD_some, Bool.not_true, Bool.not_false, decide_true, decide_false]; done))) | with_reducible refine splitT ?_ | with_reducible refine splitF ?_ | ((with_reducible refine splitB.mk (fun h => ?_) (fun h => ?_)) <;> (try simp only [decide_eq_true_eq, decide_eq_false_iff_not, ne_eq, Decidable.not_not, Int.not_lt, Int.not_le, Bool.not_eq_true', Bool.not_eq_false'] at h) <;> (try simp (disch := omega) only [w64] at h) <;> (try (exfalso; first | omega | exact h True.intro | (simp only [and_self, not_true_eq_false] at h; done) | (simp only [beq_self_eq_true, Bool.true_eq_false, reduceCtorEq] at h; done)))) | (with_reducible intro hz; (try exact absurd hz (Nat.succ_ne_zero _)))))
  refine loopW tabOk (E := [(53, s_l06Ok), (54, s_allF), (55, s_count), (57, s_l06Habit), (56, s_l06Read), (58, s_plain)]) ⟨ok_l06Ok, ok_l06Values, ok_l06Many, ok_l06Habit, ok_l06Read, ok_l06Plain, trivial⟩ [(9, [(4, 0)])] (σ := Nat) (fun i => [(1, .sl 0 s n x), (2, .ptr 1 0 0), (6, .sl 2 0 i 0), (7, .int .i64 i)]) (fun i => [.arr (.prod (.int .i64) (.int .i64)) l 2 wr, .arr (.prod .str (.prod (.int .i16) (.prod (.int .i16) .bool))) [(nm, b, u, up)] 0 true, .arr (.int .i64) ((rdsV b u up (seg l s n)).take i) 1 true]) (fun i => n - i) (fun i => i ≤ n) 0 (Nat.zero_le _) ?_ ?_
  · (repeat' ((try (conv => whnf)); first | (with_reducible first | refine And.intro ?_ ?_ | refine WX.of ?_ | exact VC.mk rfl | exact True.intro | exact VC.mk ⟨rfl, fun e => e⟩ | exact VC.mk ⟨fun e => e, rfl⟩ | exact VC.mk (Nat.le_refl _) | exact drawOk_i (by decide +kernel) (by decide +kernel) (by decide +kernel)) | ((with_reducible refine VC.mk ?_); first | (dsimp only; done) | omega | (congr 1; (try simp (disch := omega) only [w64]); omega) | exact ⟨rfl, rfl⟩ | (refine ⟨?_, ?_, ?_⟩; assumption; assumption; omega) | (refine ⟨Nat.le_trans (Nat.mul_le_mul_left _ (m := 1000) ?_) ?_, ?_⟩; decide; omega; omega)) | with_reducible refine splitT ?_ | with_reducible refine splitF ?_ | ((with_reducible refine splitB.mk (fun h => ?_) (fun h => ?_)) <;> (try simp only [decide_eq_true_eq, decide_eq_false_iff_not, ne_eq, Decidable.not_not, Int.not_lt, Int.not_le, Bool.not_eq_true', Bool.not_eq_false'] at h) <;> (try simp (disch := omega) only [w64] at h) <;> (try (exfalso; first | omega | exact h True.intro | (simp only [and_self, not_true_eq_false] at h; done) | (simp only [beq_self_eq_true, Bool.true_eq_false, reduceCtorEq] at h; done)))) | (with_reducible intro hz; (try exact absurd hz (Nat.succ_ne_zero _)))))
  · intro i hi
    have hlen : ((rdsV b u up (seg l s n)).take i).length = i := by rw [List.length_take, rds_len]; omega
    by_cases hlt : i < n
    · obtain ⟨⟨p, q⟩, ha⟩ := get_some (l := seg l s n) (i := i) (by omega)
      have hf : fOk p q = true := allF_all hV ha
      have hp := are_plain hA (rds_get (b := b) (u := u) (up := up) ha)
      (repeat' ((try (conv => whnf)); first | (with_reducible first | refine And.intro ?_ ?_ | refine WX.of ?_ | exact VC.mk rfl | exact True.intro | exact VC.mk ⟨rfl, fun e => e⟩ | exact VC.mk ⟨fun e => e, rfl⟩ | exact VC.mk (Nat.le_refl _) | exact drawOk_i (by decide +kernel) (by decide +kernel) (by decide +kernel)) | ((with_reducible refine VC.mk ?_); first | (dsimp only; done) | omega | (congr 1; (try simp (disch := omega) only [w64]); omega) | exact ⟨rfl, rfl⟩ | (refine ⟨?_, ?_, ?_⟩; assumption; assumption; omega) | (refine ⟨Nat.le_trans (Nat.mul_le_mul_left _ (m := 1000) ?_) ?_, ?_⟩; decide; omega; omega)) | refine atL_i ha ?_ | exact VC.mk ⟨gB_iff.1 hg.2, smF_ok hf⟩ | ((with_reducible refine splitT_of ?_ ?_); (focus (simp only [hp, List.getElem?_cons_zero, Option.getD_some, Bool.not_true, Bool.not_false, decide_true, decide_false]; done))) | ((with_reducible refine splitF_of ?_ ?_); (focus (simp only [hp, List.getElem?_cons_zero, Option.getD_some, Bool.not_true, Bool.not_false, decide_true, decide_false]; done))) | with_reducible refine splitT ?_ | with_reducible refine splitF ?_ | ((with_reducible refine splitB.mk (fun h => ?_) (fun h => ?_)) <;> (try simp only [decide_eq_true_eq, decide_eq_false_iff_not, ne_eq, Decidable.not_not, Int.not_lt, Int.not_le, Bool.not_eq_true', Bool.not_eq_false'] at h) <;> (try simp (disch := omega) only [w64] at h) <;> (try (exfalso; first | omega | exact h True.intro | (simp only [and_self, not_true_eq_false] at h; done) | (simp only [beq_self_eq_true, Bool.true_eq_false, reduceCtorEq] at h; done)))) | (with_reducible intro hz; (try exact absurd hz (Nat.succ_ne_zero _)))))
      refine ⟨i + 1, by omega, hlt, ?_⟩
      (repeat' ((try (conv => whnf)); first | (with_reducible first | refine And.intro ?_ ?_ | refine WX.of ?_ | exact VC.mk rfl | exact True.intro | exact VC.mk ⟨rfl, fun e => e⟩ | exact VC.mk ⟨fun e => e, rfl⟩ | exact VC.mk (Nat.le_refl _) | exact drawOk_i (by decide +kernel) (by decide +kernel) (by decide +kernel)) | ((with_reducible refine VC.mk ?_); first | (dsimp only; done) | omega | (congr 1; (try simp (disch := omega) only [w64]); omega) | exact ⟨rfl, rfl⟩ | (refine ⟨?_, ?_, ?_⟩; assumption; assumption; omega) | (refine ⟨Nat.le_trans (Nat.mul_le_mul_left _ (m := 1000) ?_) ?_, ?_⟩; decide; omega; omega)) | with_reducible refine splitT ?_ | with_reducible refine splitF ?_ | ((with_reducible refine splitB.mk (fun h => ?_) (fun h => ?_)) <;> (try simp only [decide_eq_true_eq, decide_eq_false_iff_not, ne_eq, Decidable.not_not, Int.not_lt, Int.not_le, Bool.not_eq_true', Bool.not_eq_false'] at h) <;> (try simp (disch := omega) only [w64] at h) <;> (try (exfalso; first | omega | exact h True.intro | (simp only [and_self, not_true_eq_false] at h; done) | (simp only [beq_self_eq_true, Bool.true_eq_false, reduceCtorEq] at h; done)))) | (with_reducible intro hz; (try exact absurd hz (Nat.succ_ne_zero _)))))
      exact ⟨app_take (rds_get ha)⟩
    · obtain rfl : i = n := by omega
      rw [List.take_of_length_le (by rw [rds_len]; omega)]
      (repeat' ((try (conv => whnf)); first | (with_reducible first | refine And.intro ?_ ?_ | refine WX.of ?_ | exact VC.mk rfl | exact True.intro | exact VC.mk ⟨rfl, fun e => e⟩ | exact VC.mk ⟨fun e => e, rfl⟩ | exact VC.mk (Nat.le_refl _) | exact drawOk_i (by decide +kernel) (by decide +kernel) (by decide +kernel)) | ((with_reducible refine VC.mk ?_); first | (dsimp only; done) | omega | (congr 1; (try simp (disch := omega) only [w64]); omega) | exact ⟨rfl, rfl⟩ | (refine ⟨?_, ?_, ?_⟩; assumption; assumption; omega) | (refine ⟨Nat.le_trans (Nat.mul_le_mul_left _ (m := 1000) ?_) ?_, ?_⟩; decide; omega; omega)) | with_reducible refine splitT ?_ | with_reducible refine splitF ?_ | ((with_reducible refine splitB.mk (fun h => ?_) (fun h => ?_)) <;> (try simp only [decide_eq_true_eq, decide_eq_false_iff_not, ne_eq, Decidable.not_not, Int.not_lt, Int.not_le, Bool.not_eq_true', Bool.not_eq_false'] at h) <;> (try simp (disch := omega) only [w64] at h) <;> (try (exfalso; first | omega | exact h True.intro | (simp only [and_self, not_true_eq_false] at h; done) | (simp only [beq_self_eq_true, Bool.true_eq_false, reduceCtorEq] at h; done)))) | (with_reducible intro hz; (try exact absurd hz (Nat.succ_ne_zero _)))))
theorem ok_ReadingsOfI0 : SpecOk Try.prog 17 s_rds0 := by
  intro args S h; unfold s_rds0 at h ⊢; (split at h <;> first | exact False.elim h | skip)
  dsimp only at h ⊢
  rename_i nm b u up s n x l wr
  obtain ⟨⟨h1, h2⟩, h3, hc⟩ := h
  have hL := seg_len h1
  refine funW tabOk (E := [(60, s_vReader), (61, s_allF), (62, s_count), (63, s_habit), (64, s_reads)]) ⟨ok_ValidReader, ok_areValid, ok_isCount, ok_habit, ok_reads, trivial⟩ [(9, [(2, 0)])] (k := 1) (fn := Try.f17) rfl rfl rfl rfl rfl rfl ?_
  (repeat' ((try (conv => whnf)); first | (with_reducible first | refine And.intro ?_ ?_ | refine WX.of ?_ | exact VC.mk rfl | exact True.intro | exact VC.mk ⟨rfl, fun e => e⟩ | exact VC.mk ⟨fun e => e, rfl⟩ | exact VC.mk (Nat.le_refl _) | exact drawOk_i (by decide +kernel) (by decide +kernel) (by decide +kernel)) | ((with_reducible refine VC.mk ?_); first | (dsimp only; done) | omega | (congr 1; (try simp (disch := omega) only [w64]); omega) | exact ⟨rfl, rfl⟩ | (refine ⟨?_, ?_, ?_⟩; assumption; assumption; omega) | (refine ⟨Nat.le_trans (Nat.mul_le_mul_left _ (m := 1000) ?_) ?_, ?_⟩; decide; omega; omega)) | with_reducible refine splitT ?_ | with_reducible refine splitF ?_ | ((with_reducible refine splitB.mk (fun h => ?_) (fun h => ?_)) <;> (try simp only [decide_eq_true_eq, decide_eq_false_iff_not, ne_eq, Decidable.not_not, Int.not_lt, Int.not_le, Bool.not_eq_true', Bool.not_eq_false'] at h) <;> (try simp (disch := omega) only [w64] at h) <;> (try (exfalso; first | omega | exact h True.intro | (simp only [and_self, not_true_eq_false] at h; done) | (simp only [beq_self_eq_true, Bool.true_eq_false, reduceCtorEq] at h; done)))) | (with_reducible intro hz; (try exact absurd hz (Nat.succ_ne_zero _)))))
  rotate_left 3
  · rename_i hr hV
    have hg := hr
    simp only [rdrB, Bool.and_eq_true] at hg
    refine loopW tabOk (E := [(60, s_vReader), (61, s_allF), (62, s_count), (63, s_habit), (64, s_reads)]) ⟨ok_ValidReader, ok_areValid, ok_isCount, ok_habit, ok_reads, trivial⟩ [(9, [(2, 0)])] (σ := Nat) (fun i => [(2, .ptr 1 0 0), (6, .sl 2 0 i 0), (24, .sl 0 s n x), (25, .int .i64 n), (26, .int .i64 i)]) (fun i => [.arr (.prod (.int .i64) (.int .i64)) l 2 wr, .arr (.prod .str (.prod (.int .i16) (.prod (.int .i16) .bool))) [(nm, b, u, up)] 0 true, .arr (.int .i64) ((rdsV b u up (seg l s n)).take i) 1 true]) (fun i => n - i) (fun i => i ≤ n ∧ ∀ (j : Nat) a, j < i → (rdsV b u up (seg l s n))[j]? = some a → plainB a = true) 0 ⟨Nat.zero_le _, fun j a hj => by omega⟩ ?_ ?_
    · (repeat' ((try (conv => whnf)); first | (with_reducible first | refine And.intro ?_ ?_ | refine WX.of ?_ | exact VC.mk rfl | exact True.intro | exact VC.mk ⟨rfl, fun e => e⟩ | exact VC.mk ⟨fun e => e, rfl⟩ | exact VC.mk (Nat.le_refl _) | exact drawOk_i (by decide +kernel) (by decide +kernel) (by decide +kernel)) | ((with_reducible refine VC.mk ?_); first | (dsimp only; done) | omega | (congr 1; (try simp (disch := omega) only [w64]); omega) | exact ⟨rfl, rfl⟩ | (refine ⟨?_, ?_, ?_⟩; assumption; assumption; omega) | (refine ⟨Nat.le_trans (Nat.mul_le_mul_left _ (m := 1000) ?_) ?_, ?_⟩; decide; omega; omega)) | with_reducible refine splitT ?_ | with_reducible refine splitF ?_ | ((with_reducible refine splitB.mk (fun h => ?_) (fun h => ?_)) <;> (try simp only [decide_eq_true_eq, decide_eq_false_iff_not, ne_eq, Decidable.not_not, Int.not_lt, Int.not_le, Bool.not_eq_true', Bool.not_eq_false'] at h) <;> (try simp (disch := omega) only [w64] at h) <;> (try (exfalso; first | omega | exact h True.intro | (simp only [and_self, not_true_eq_false] at h; done) | (simp only [beq_self_eq_true, Bool.true_eq_false, reduceCtorEq] at h; done)))) | (with_reducible intro hz; (try exact absurd hz (Nat.succ_ne_zero _)))))
    · intro i ⟨hi, hp⟩
      have hlen : ((rdsV b u up (seg l s n)).take i).length = i := by rw [List.length_take, rds_len]; omega
      by_cases hlt : i < n
      · obtain ⟨⟨p, q⟩, ha⟩ := get_some (l := seg l s n) (i := i) (by omega)
        have hf : fOk p q = true := allF_all hV ha
        have hrd := rds_get (b := b) (u := u) (up := up) ha
        (repeat' ((try (conv => whnf)); first | (with_reducible first | refine And.intro ?_ ?_ | refine WX.of ?_ | exact VC.mk rfl | exact True.intro | exact VC.mk ⟨rfl, fun e => e⟩ | exact VC.mk ⟨fun e => e, rfl⟩ | exact VC.mk (Nat.le_refl _) | exact drawOk_i (by decide +kernel) (by decide +kernel) (by decide +kernel)) | ((with_reducible refine VC.mk ?_); first | (dsimp only; done) | omega | (congr 1; (try simp (disch := omega) only [w64]); omega) | exact ⟨rfl, rfl⟩ | (refine ⟨?_, ?_, ?_⟩; assumption; assumption; omega) | (refine ⟨Nat.le_trans (Nat.mul_le_mul_left _ (m := 1000) ?_) ?_, ?_⟩; decide; omega; omega)) | refine atL_i ha ?_ | exact VC.mk ⟨gB_iff.1 hg.2, smF_ok hf⟩ | with_reducible refine splitT ?_ | with_reducible refine splitF ?_ | ((with_reducible refine splitB.mk (fun h => ?_) (fun h => ?_)) <;> (try simp only [decide_eq_true_eq, decide_eq_false_iff_not, ne_eq, Decidable.not_not, Int.not_lt, Int.not_le, Bool.not_eq_true', Bool.not_eq_false'] at h) <;> (try simp (disch := omega) only [w64] at h) <;> (try (exfalso; first | omega | exact h True.intro | (simp only [and_self, not_true_eq_false] at h; done) | (simp only [beq_self_eq_true, Bool.true_eq_false, reduceCtorEq] at h; done)))) | (with_reducible intro hz; (try exact absurd hz (Nat.succ_ne_zero _)))))
        · exact ⟨by rw [rds_2 hr hV (are_no hrd (by unfold plainB; exact decide_eq_false h))]⟩
        · refine ⟨i + 1, by omega, ⟨hlt, upto_step hrd (by unfold plainB; exact decide_eq_true h) hp⟩, ?_⟩
          (repeat' ((try (conv => whnf)); first | (with_reducible first | refine And.intro ?_ ?_ | refine WX.of ?_ | exact VC.mk rfl | exact True.intro | exact VC.mk ⟨rfl, fun e => e⟩ | exact VC.mk ⟨fun e => e, rfl⟩ | exact VC.mk (Nat.le_refl _) | exact drawOk_i (by decide +kernel) (by decide +kernel) (by decide +kernel)) | ((with_reducible refine VC.mk ?_); first | (dsimp only; done) | omega | (congr 1; (try simp (disch := omega) only [w64]); omega) | exact ⟨rfl, rfl⟩ | (refine ⟨?_, ?_, ?_⟩; assumption; assumption; omega) | (refine ⟨Nat.le_trans (Nat.mul_le_mul_left _ (m := 1000) ?_) ?_, ?_⟩; decide; omega; omega)) | with_reducible refine splitT ?_ | with_reducible refine splitF ?_ | ((with_reducible refine splitB.mk (fun h => ?_) (fun h => ?_)) <;> (try simp only [decide_eq_true_eq, decide_eq_false_iff_not, ne_eq, Decidable.not_not, Int.not_lt, Int.not_le, Bool.not_eq_true', Bool.not_eq_false'] at h) <;> (try simp (disch := omega) only [w64] at h) <;> (try (exfalso; first | omega | exact h True.intro | (simp only [and_self, not_true_eq_false] at h; done) | (simp only [beq_self_eq_true, Bool.true_eq_false, reduceCtorEq] at h; done)))) | (with_reducible intro hz; (try exact absurd hz (Nat.succ_ne_zero _)))))
          exact ⟨app_take hrd⟩
      · obtain rfl : i = n := by omega
        exact absurd (by simp [rdsC, hr, hV, areCode, are_yes (by rw [rds_len]; exact hL) (by omega) hp]) hc
  · exact ⟨by rw [rds_1 (by simp [h])]⟩
  · exact ⟨by rw [rds_1 (by simp [h])]⟩
  · exact ⟨by rw [rds_2 (by assumption) (by assumption) (are_few (by rw [rds_len, hL]; omega))]⟩
theorem ok_ReadingsOfS0 : SpecOk Try.prog 14 s_rds0S := by
  intro args S h; unfold s_rds0S at h ⊢; (split at h <;> first | exact False.elim h | skip)
  dsimp only at h ⊢
  rename_i nm b u up s n x l wr
  obtain ⟨⟨h1, h2⟩, h3, hc⟩ := h
  have hL := seg_len h1
  refine funW tabOk (E := [(53, s_l06Ok), (54, s_allF), (55, s_count), (57, s_l06Habit), (56, s_l06Read), (58, s_plain)]) ⟨ok_l06Ok, ok_l06Values, ok_l06Many, ok_l06Habit, ok_l06Read, ok_l06Plain, trivial⟩ [(9, [(4, 0)])] (k := 1) (fn := Try.f14) rfl rfl rfl rfl rfl rfl ?_
  have hro : ∀ (j : Nat) (a : List UInt8 × Int × Int × Bool), ([(nm, b, u, up)] : List (List UInt8 × Int × Int × Bool))[j]? = some a → rdrGood a := fun j a ha => by
    match j with
    | 0 => obtain rfl := Option.some.inj ha; exact h3
    | j + 1 => simp at ha
  (repeat' ((try (conv => whnf)); first | (with_reducible first | refine And.intro ?_ ?_ | refine WX.of ?_ | exact VC.mk rfl | exact True.intro | exact VC.mk ⟨rfl, fun e => e⟩ | exact VC.mk ⟨fun e => e, rfl⟩ | exact VC.mk (Nat.le_refl _) | exact drawOk_i (by decide +kernel) (by decide +kernel) (by decide +kernel)) | ((with_reducible refine VC.mk ?_); first | (dsimp only; done) | omega | (congr 1; (try simp (disch := omega) only [w64]); omega) | exact ⟨rfl, rfl⟩ | (refine ⟨?_, ?_, ?_⟩; assumption; assumption; omega) | (refine ⟨Nat.le_trans (Nat.mul_le_mul_left _ (m := 1000) ?_) ?_, ?_⟩; decide; omega; omega)) | exact VC.mk ⟨Nat.zero_lt_one, hro⟩ | with_reducible refine splitT ?_ | with_reducible refine splitF ?_ | ((with_reducible refine splitB.mk (fun h => ?_) (fun h => ?_)) <;> (try simp only [decide_eq_true_eq, decide_eq_false_iff_not, ne_eq, Decidable.not_not, Int.not_lt, Int.not_le, Bool.not_eq_true', Bool.not_eq_false'] at h) <;> (try simp (disch := omega) only [w64] at h) <;> (try (exfalso; first | omega | exact h True.intro | (simp only [and_self, not_true_eq_false] at h; done) | (simp only [beq_self_eq_true, Bool.true_eq_false, reduceCtorEq] at h; done)))) | (with_reducible intro hz; (try exact absurd hz (Nat.succ_ne_zero _)))))
  rotate_left 3
  · rename_i hr hV
    have hr : rdrB nm b u = true := hr
    have hg := hr
    simp only [rdrB, Bool.and_eq_true] at hg
    refine loopW tabOk (E := [(53, s_l06Ok), (54, s_allF), (55, s_count), (57, s_l06Habit), (56, s_l06Read), (58, s_plain)]) ⟨ok_l06Ok, ok_l06Values, ok_l06Many, ok_l06Habit, ok_l06Read, ok_l06Plain, trivial⟩ [(9, [(4, 0)])] (σ := Nat) (fun i => [(1, .sl 0 s n x), (2, .ptr 1 0 0), (6, .sl 2 0 i 0), (7, .int .i64 i)]) (fun i => [.arr (.prod (.int .i64) (.int .i64)) l 2 wr, .arr (.prod .str (.prod (.int .i16) (.prod (.int .i16) .bool))) [(nm, b, u, up)] 0 true, .arr (.int .i64) ((rdsV b u up (seg l s n)).take i) 1 true]) (fun i => n - i) (fun i => i ≤ n ∧ ∀ (j : Nat) a, j < i → (rdsV b u up (seg l s n))[j]? = some a → plainB a = true) 0 ⟨Nat.zero_le _, fun j a hj => by omega⟩ ?_ ?_
    · (repeat' ((try (conv => whnf)); first | (with_reducible first | refine And.intro ?_ ?_ | refine WX.of ?_ | exact VC.mk rfl | exact True.intro | exact VC.mk ⟨rfl, fun e => e⟩ | exact VC.mk ⟨fun e => e, rfl⟩ | exact VC.mk (Nat.le_refl _) | exact drawOk_i (by decide +kernel) (by decide +kernel) (by decide +kernel)) | ((with_reducible refine VC.mk ?_); first | (dsimp only; done) | omega | (congr 1; (try simp (disch := omega) only [w64]); omega) | exact ⟨rfl, rfl⟩ | (refine ⟨?_, ?_, ?_⟩; assumption; assumption; omega) | (refine ⟨Nat.le_trans (Nat.mul_le_mul_left _ (m := 1000) ?_) ?_, ?_⟩; decide; omega; omega)) | with_reducible refine splitT ?_ | with_reducible refine splitF ?_ | ((with_reducible refine splitB.mk (fun h => ?_) (fun h => ?_)) <;> (try simp only [decide_eq_true_eq, decide_eq_false_iff_not, ne_eq, Decidable.not_not, Int.not_lt, Int.not_le, Bool.not_eq_true', Bool.not_eq_false'] at h) <;> (try simp (disch := omega) only [w64] at h) <;> (try (exfalso; first | omega | exact h True.intro | (simp only [and_self, not_true_eq_false] at h; done) | (simp only [beq_self_eq_true, Bool.true_eq_false, reduceCtorEq] at h; done)))) | (with_reducible intro hz; (try exact absurd hz (Nat.succ_ne_zero _)))))
    · intro i ⟨hi, hp⟩
      have hlen : ((rdsV b u up (seg l s n)).take i).length = i := by rw [List.length_take, rds_len]; omega
      by_cases hlt : i < n
      · obtain ⟨⟨p, q⟩, ha⟩ := get_some (l := seg l s n) (i := i) (by omega)
        have hf : fOk p q = true := allF_all hV ha
        have hrd := rds_get (b := b) (u := u) (up := up) ha
        (repeat' ((try (conv => whnf)); first | (with_reducible first | refine And.intro ?_ ?_ | refine WX.of ?_ | exact VC.mk rfl | exact True.intro | exact VC.mk ⟨rfl, fun e => e⟩ | exact VC.mk ⟨fun e => e, rfl⟩ | exact VC.mk (Nat.le_refl _) | exact drawOk_i (by decide +kernel) (by decide +kernel) (by decide +kernel)) | ((with_reducible refine VC.mk ?_); first | (dsimp only; done) | omega | (congr 1; (try simp (disch := omega) only [w64]); omega) | exact ⟨rfl, rfl⟩ | (refine ⟨?_, ?_, ?_⟩; assumption; assumption; omega) | (refine ⟨Nat.le_trans (Nat.mul_le_mul_left _ (m := 1000) ?_) ?_, ?_⟩; decide; omega; omega)) | refine atL_i ha ?_ | exact VC.mk ⟨gB_iff.1 hg.2, smF_ok hf⟩ | with_reducible refine splitT ?_ | with_reducible refine splitF ?_ | ((with_reducible refine splitB.mk (fun h => ?_) (fun h => ?_)) <;> (try simp only [decide_eq_true_eq, decide_eq_false_iff_not, ne_eq, Decidable.not_not, Int.not_lt, Int.not_le, Bool.not_eq_true', Bool.not_eq_false'] at h) <;> (try simp (disch := omega) only [w64] at h) <;> (try (exfalso; first | omega | exact h True.intro | (simp only [and_self, not_true_eq_false] at h; done) | (simp only [beq_self_eq_true, Bool.true_eq_false, reduceCtorEq] at h; done)))) | (with_reducible intro hz; (try exact absurd hz (Nat.succ_ne_zero _)))))
        · have h : plainB (rdN b u up p q) = false := h
          exact ⟨by rw [rds_2 hr hV (are_no hrd h)]⟩
        · refine ⟨i + 1, by omega, ⟨hlt, upto_step hrd h hp⟩, ?_⟩
          (repeat' ((try (conv => whnf)); first | (with_reducible first | refine And.intro ?_ ?_ | refine WX.of ?_ | exact VC.mk rfl | exact True.intro | exact VC.mk ⟨rfl, fun e => e⟩ | exact VC.mk ⟨fun e => e, rfl⟩ | exact VC.mk (Nat.le_refl _) | exact drawOk_i (by decide +kernel) (by decide +kernel) (by decide +kernel)) | ((with_reducible refine VC.mk ?_); first | (dsimp only; done) | omega | (congr 1; (try simp (disch := omega) only [w64]); omega) | exact ⟨rfl, rfl⟩ | (refine ⟨?_, ?_, ?_⟩; assumption; assumption; omega) | (refine ⟨Nat.le_trans (Nat.mul_le_mul_left _ (m := 1000) ?_) ?_, ?_⟩; decide; omega; omega)) | with_reducible refine splitT ?_ | with_reducible refine splitF ?_ | ((with_reducible refine splitB.mk (fun h => ?_) (fun h => ?_)) <;> (try simp only [decide_eq_true_eq, decide_eq_false_iff_not, ne_eq, Decidable.not_not, Int.not_lt, Int.not_le, Bool.not_eq_true', Bool.not_eq_false'] at h) <;> (try simp (disch := omega) only [w64] at h) <;> (try (exfalso; first | omega | exact h True.intro | (simp only [and_self, not_true_eq_false] at h; done) | (simp only [beq_self_eq_true, Bool.true_eq_false, reduceCtorEq] at h; done)))) | (with_reducible intro hz; (try exact absurd hz (Nat.succ_ne_zero _)))))
          exact ⟨app_take hrd⟩
      · obtain rfl : i = n := by omega
        exact absurd (by simp [rdsC, hr, hV, areCode, are_yes (by rw [rds_len]; exact hL) (by omega) hp]) hc
  · have h : rdrB nm b u = false := h
    exact ⟨by rw [rds_1 (by simp [h])]⟩
  · exact ⟨by rw [rds_1 (by simp [h])]⟩
  · rename_i hr hV
    have hr : rdrB nm b u = true := hr
    exact ⟨by rw [rds_2 hr hV (are_few (by rw [rds_len, hL]; omega))]⟩
end Go.Proofs.Ytpnlbacfofdibaa.Eng
