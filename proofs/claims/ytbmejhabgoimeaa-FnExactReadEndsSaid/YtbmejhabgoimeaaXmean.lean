/- mean: lemmas for the proof, no conditions of their own. -/
import Derived.Test.YtbmejhabgoimeaaXfrac
import Derived.Test.YtbmejhabgoimeaaXreadings
import Derived.Test.YtbmejhabgoimeaaXunit
import Derived.Test.YtbmejhabgoimeaaXeqInt64S
import Derived.Test.YtbmejhabgoimeaaXtoInt64S
set_option linter.unusedVariables false
set_option linter.unusedSimpArgs false
namespace Go.Proofs.Ytbmejhabgoimeaa.Eng
open Go Go.RowKit
set_option maxRecDepth 100000
theorem code_0 {L : List Int} : areCode L = 0 ↔ areB L = true := by unfold areCode; split <;> simp_all
theorem code_2 {L : List Int} : areCode L ≠ 0 ↔ areB L = false := by unfold areCode; split <;> simp_all
theorem isum_take {L : List Int} {i : Nat} {a : Int} (ha : L[i]? = some a) : (L.take (i + 1)).sum = (L.take i).sum + a := by
  rw [List.take_add_one, ha]; simp [List.sum_append]
theorem isum_small {M : Int} : ∀ (L : List Int), (∀ a ∈ L, -M ≤ a ∧ a ≤ M) → -(M * L.length) ≤ L.sum ∧ L.sum ≤ M * L.length
  | [], _ => by simp
  | a :: L, h => by
    have h1 := isum_small L fun b hb => h b (List.mem_cons_of_mem _ hb)
    have h2 := h a (List.mem_cons_self ..)
    simp only [List.sum_cons, List.length_cons]
    have e : M * ((L.length + 1 : Nat) : Int) = M * L.length + M := by
      push_cast; rw [Int.mul_add, Int.mul_one]
    omega
theorem isum_at {M : Int} {L : List Int} {i n : Nat} (h0 : 0 ≤ M) (hn : L.length ≤ n) (h : ∀ (j : Nat) a, L[j]? = some a → -M ≤ a ∧ a ≤ M) : -(M * n) ≤ (L.take i).sum ∧ (L.take i).sum ≤ M * n := by
  have h1 := isum_small (M := M) (L.take i) fun a ha => by
    obtain ⟨j, hj⟩ := List.getElem?_of_mem (List.mem_of_mem_take ha)
    exact h j a hj
  have h2 : ((L.take i).length : Int) ≤ n := by rw [List.length_take]; omega
  have h3 := Int.mul_le_mul_of_nonneg_left h2 h0
  omega
theorem bnd_at {L : List Int} {M : Int} {i : Nat} {a : Int} (h : ∀ (j : Nat) a, L[j]? = some a → -M ≤ a ∧ a ≤ M) (ha : L[i]? = some a) : -M ≤ a ∧ a ≤ M := h _ _ ha
/-- The reduced fraction of a mean. -/
def s_mean : Spec := fun args S => match args, S with
  | [.sl 0 s n x], [.arr (.int .i64) l 1 wr] => ⟨s + n ≤ l.length ∧ 1 ≤ n ∧ n ≤ 64 ∧ ∀ (j : Nat) a, (seg l s n)[j]? = some a → -100000000 ≤ a ∧ a ≤ 100000000, .tup [.agg [.int .i64 (if redOk (seg l s n).sum n = true then redP (seg l s n).sum n else 0), .int .i64 (if redOk (seg l s n).sum n = true then redQ (seg l s n).sum n else 0)], .int .i64 (if redOk (seg l s n).sum n = true then 0 else 3)], [.arr (.int .i64) l 1 wr]⟩
  | _, _ => noSpec
/-- The differences of two rows. -/
def diffZ (A B : List Int) : List Int := List.zipWith (fun a b => a - b) A B
theorem diff_get {A B : List Int} {i : Nat} {a b : Int} (ha : A[i]? = some a) (hb : B[i]? = some b) : (diffZ A B)[i]? = some (a - b) := by
  simp [diffZ, List.getElem?_zipWith, ha, hb]
theorem diff_len (A B : List Int) : (diffZ A B).length = min A.length B.length := by simp [diffZ]
theorem diff_small {A B : List Int} (hA : areB A = true) (hB : areB B = true) : ∀ (j : Nat) a, (diffZ A B)[j]? = some a → -100000000 ≤ a ∧ a ≤ 100000000 := fun j a h => by
  have hl := (List.getElem?_eq_some_iff.1 h).1
  rw [diff_len] at hl
  obtain ⟨x, hx⟩ := get_some (l := A) (i := j) (by omega)
  obtain ⟨y, hy⟩ := get_some (l := B) (i := j) (by omega)
  rw [diff_get hx hy] at h
  have h1 := are_all hA hx
  have h2 := are_all hB hy
  obtain rfl := Option.some.inj h
  omega
theorem take_snoc {α : Type} {L : List α} {i : Nat} {a : α} (h : L[i]? = some a) : L.take i ++ [a] = L.take (i + 1) := by
  rw [List.take_add_one, h]; rfl
def mdOk (A B : List Int) : Bool := areB A && areB B && decide (A.length = B.length)
def mdR (A B : List Int) : Bool := redOk (diffZ A B).sum A.length
def s_md : Spec := fun args S => match args, S with
  | [.sl 0 s n x, .sl 1 s' n' x'], [.arr (.int .i64) l 1 wr, .arr (.int .i64) l' 1 wr'] => ⟨(s + n ≤ l.length ∧ n ≤ 1048576) ∧ s' + n' ≤ l'.length ∧ n' ≤ 1048576, .tup [.agg [
      .int .i64 (if mdOk (seg l s n) (seg l' s' n') = true then (if mdR (seg l s n) (seg l' s' n') = true then redP (diffZ (seg l s n) (seg l' s' n')).sum n else 0) else 0),
      .int .i64 (if mdOk (seg l s n) (seg l' s' n') = true then (if mdR (seg l s n) (seg l' s' n') = true then redQ (diffZ (seg l s n) (seg l' s' n')).sum n else 0) else 0)],
      .int .i64 (if mdOk (seg l s n) (seg l' s' n') = true then (if mdR (seg l s n) (seg l' s' n') = true then 0 else 3) else 2)], [.arr (.int .i64) l 1 wr, .arr (.int .i64) l' 1 wr']⟩
  | _, _ => noSpec
def s_toFrac : Spec := fun args S => match args, S with
  | [.agg [.int .i64 p, .int .i64 q]], [] => ⟨True, .agg [.int .i64 p, .int .i64 q], []⟩
  | _, _ => noSpec
theorem ok_toFrac : SpecOk Try.prog 21 s_toFrac := by
  intro args S h; unfold s_toFrac at h ⊢; (split at h <;> first | exact False.elim h | skip)
  dsimp only at h ⊢
  refine funW tabOk (E := []) trivial [] (k := 0) (fn := Try.f21) rfl rfl rfl rfl rfl rfl ?_
  (repeat' ((try (conv => whnf)); first | (with_reducible first | refine And.intro ?_ ?_ | refine WX.of ?_ | exact VC.mk rfl | exact True.intro | exact VC.mk ⟨rfl, fun e => e⟩ | exact VC.mk ⟨fun e => e, rfl⟩ | exact VC.mk (Nat.le_refl _) | exact drawOk_i (by decide +kernel) (by decide +kernel) (by decide +kernel)) | ((with_reducible refine VC.mk ?_); first | (dsimp only; done) | omega | (congr 1; (try simp (disch := omega) only [w64]); omega) | exact ⟨rfl, rfl⟩ | (refine ⟨?_, ?_, ?_⟩; assumption; assumption; omega) | (refine ⟨Nat.le_trans (Nat.mul_le_mul_left _ (m := 1000) ?_) ?_, ?_⟩; decide; omega; omega)) | with_reducible refine splitT ?_ | with_reducible refine splitF ?_ | ((with_reducible refine splitB.mk (fun h => ?_) (fun h => ?_)) <;> (try simp only [decide_eq_true_eq, decide_eq_false_iff_not, ne_eq, Decidable.not_not, Int.not_lt, Int.not_le, Bool.not_eq_true', Bool.not_eq_false'] at h) <;> (try simp (disch := omega) only [w64] at h) <;> (try (exfalso; first | omega | exact h True.intro | (simp only [and_self, not_true_eq_false] at h; done) | (simp only [beq_self_eq_true, Bool.true_eq_false, reduceCtorEq] at h; done)))) | (with_reducible intro hz; (try exact absurd hz (Nat.succ_ne_zero _)))))
def s_eqFrac : Spec := fun args S => match args, S with
  | [.agg [.int .i64 p, .int .i64 q], .agg [.int .i64 p', .int .i64 q']], [] => ⟨True, .bool (decide (p = p' ∧ q = q')), []⟩
  | _, _ => noSpec
theorem ok_eqFrac : SpecOk Try.prog 10 s_eqFrac := by
  intro args S h; unfold s_eqFrac at h ⊢; (split at h <;> first | exact False.elim h | skip)
  dsimp only at h ⊢
  refine funW tabOk (E := []) trivial [] (k := 0) (fn := Try.f10) rfl rfl rfl rfl rfl rfl ?_
  (repeat' ((try (conv => whnf)); first | (with_reducible first | refine And.intro ?_ ?_ | refine WX.of ?_ | exact VC.mk rfl | exact True.intro | exact VC.mk ⟨rfl, fun e => e⟩ | exact VC.mk ⟨fun e => e, rfl⟩ | exact VC.mk (Nat.le_refl _) | exact drawOk_i (by decide +kernel) (by decide +kernel) (by decide +kernel)) | ((with_reducible refine VC.mk ?_); first | (dsimp only; done) | omega | (congr 1; (try simp (disch := omega) only [w64]); omega) | exact ⟨rfl, rfl⟩ | (refine ⟨?_, ?_, ?_⟩; assumption; assumption; omega) | (refine ⟨Nat.le_trans (Nat.mul_le_mul_left _ (m := 1000) ?_) ?_, ?_⟩; decide; omega; omega)) | with_reducible refine splitT ?_ | with_reducible refine splitF ?_ | ((with_reducible refine splitB.mk (fun h => ?_) (fun h => ?_)) <;> (try simp only [decide_eq_true_eq, decide_eq_false_iff_not, ne_eq, Decidable.not_not, Int.not_lt, Int.not_le, Bool.not_eq_true', Bool.not_eq_false'] at h) <;> (try simp (disch := omega) only [w64] at h) <;> (try (exfalso; first | omega | exact h True.intro | (simp only [and_self, not_true_eq_false] at h; done) | (simp only [beq_self_eq_true, Bool.true_eq_false, reduceCtorEq] at h; done)))) | (with_reducible intro hz; (try exact absurd hz (Nat.succ_ne_zero _)))))
  all_goals (refine ⟨congrArg SV.bool ?_⟩; (try dsimp only); (try simp (disch := omega) only [w64]); rw [Bool.eq_iff_iff]; try (simp []); try omega)
end Go.Proofs.Ytbmejhabgoimeaa.Eng
