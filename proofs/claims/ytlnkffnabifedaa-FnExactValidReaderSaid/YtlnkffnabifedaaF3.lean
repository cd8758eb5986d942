/- A text of this claim (F3): lemmas for the proof, no conditions of their own. -/
import Derived.Test.YtlnkffnabifedaaF2
set_option linter.unusedVariables false
set_option linter.unusedSimpArgs false
namespace Go.Proofs.Ytlnkffnabifedaa.Eng
open Go Go.RowKit
set_option maxRecDepth 100000
def guessB (x y : Int) : Bool := (decide (-50 ≤ x) && decide (x ≤ 50)) && (decide (1 ≤ y) && decide (y ≤ 20))
def i16 (x : Int) : Prop := -32768 ≤ x ∧ x < 32768
theorem wrap64_16 {x : Int} (h : i16 x) : IntKind.i64.wrap x = x := wrap64_id ⟨by have := h.1; omega, by have := h.2; omega⟩
theorem isGuess_runs (H : Heap) (x y : Int) (c : Bool) (hx : i16 x) (hy : i16 y) : Runs Try.prog 33 [.agg ⟨gss x y c⟩] H (fun v H' => v = .bool (guessB x y) ∧ H' = H) := by
  unfold gss
  have e1 := wrap64_16 hx
  have e2 := wrap64_16 hy
  have r1 := within_runs H (IntKind.i64.wrap x) (-50) 50
  have r2 := within_runs H (IntKind.i64.wrap y) 1 20
  refine fun_h 13 (fn := Try.f33) (by rfl) (by rfl) (by rfl) (by rfl) (by simp only [Try.f33]; rfl) (by simp only [List.length_cons, List.length_nil, Nat.reduceAdd, Nat.reduceSub, List.reduceReplicate, List.cons_append, List.nil_append]; rfl) ?_
  intro B hB
  repeat' first
    | refine Ex_seq ?_
    | refine Ex_region ?_
    | refine reg_plain ?_
    | refine op_call (by rfl) (by rfl) (by rfl) (by rfl) (within_runs _ _ _ _) (reg_k (by simp only [putT, List.set_cons_zero, List.set_cons_succ]; rfl) ?_)
    | refine reg_o (oa_alloc (by rfl) (by first | exact hB | simpa only [List.length_set] using hB) (by exact TyIs.eq) (by simp only [List.cons_append, List.nil_append]; rfl) (by simp only [List.length_cons, List.length_nil, Nat.reduceAdd, Nat.zero_add]; rfl)) (by simp only [putT, List.set_cons_zero, List.set_cons_succ]; rfl) ?_
    | refine reg_o (oa_box (by rfl) (by first | exact hB | simpa only [List.length_set] using hB) (by exact TyIs.eq) (by rfl) (by simp only [cellsL]; rfl) (by simp only [List.all_cons, List.all_nil, flatV, Bool.and_true, Bool.true_and, Bool.and_self, Bool.false_and]; rfl) (by simp only [List.cons_append, List.nil_append]; rfl) (by simp only [List.length_cons, List.length_nil, Nat.reduceAdd, Nat.zero_add]; rfl)) (by simp only [putT, List.set_cons_zero, List.set_cons_succ]; rfl) ?_
    | refine reg_o (oa_load (by rfl) (by rfl) (by exact TyIs.eq) (by rfl) (by first | exact getB_N (by first | exact hB | simpa only [List.length_set] using hB) (by rfl) | exact getB_old (by first | assumption | exact getB_S (by assumption))) (by simp only [List.getElem?_cons_succ, List.getElem?_cons_zero]; rfl)) (by simp only [putT, List.set_cons_zero, List.set_cons_succ]; rfl) ?_
    | refine reg_o (oa_loadA (by rfl) (by rfl) (by exact TyIs.eq) (by rfl) (by first | exact getB_N (by first | exact hB | simpa only [List.length_set] using hB) (by rfl) | exact getB_old (by first | assumption | exact getB_S (by assumption))) (Nat.le_of_ble_eq_true (by rfl)) (by simp only [List.drop_zero, List.drop_succ_cons, List.take_succ_cons, List.take_zero]; rfl)) (by simp only [putT, List.set_cons_zero, List.set_cons_succ]; rfl) ?_
    | refine reg_o (oa_fieldAddr (by rfl) (by rfl) (by exact TyIs.eq) (by rfl) (by rfl) (by exact TyIs.eq) (by decide) (by (try simp only [Nat.reduceAdd, Nat.zero_add, Nat.add_zero]); rfl)) (by simp only [putT, List.set_cons_zero, List.set_cons_succ]; rfl) ?_
    | refine reg_o (oa_store (by rfl) (by first | exact hB | simpa only [List.length_set] using hB) (by rfl) (by rfl) (by exact TyIs.eq) (by simp only [cellsL]; rfl) (by rfl) (by rfl) (by rfl) (Nat.le_of_ble_eq_true (by rfl)) (by rfl) (fun _ => by rfl) (by simp only [splice, List.take_succ_cons, List.take_zero, List.drop_succ_cons, List.drop_zero, List.cons_append, List.nil_append, List.length_cons, List.length_nil, Nat.reduceAdd, Nat.zero_add]; rfl) (by simp only [List.set_cons_zero, List.set_cons_succ]; rfl)) (by simp only [putT, List.set_cons_zero, List.set_cons_succ]; rfl) ?_
    | refine reg_o (oa_storeO (by rfl) (by rfl) (by rfl) (by exact TyIs.eq) (by simp only [cellsL]; rfl) (by rfl) (by first | assumption | exact getB_S (by assumption)) (by rfl) (Nat.le_of_ble_eq_true (by rfl)) (by rfl) (by rfl) (by simp only [splice, List.take_succ_cons, List.take_zero, List.drop_succ_cons, List.drop_zero, List.cons_append, List.nil_append, List.length_cons, List.length_nil, Nat.reduceAdd, Nat.zero_add]; rfl)) (by simp only [putT, List.set_cons_zero, List.set_cons_succ]; rfl) ?_
    | refine reg_o (oa_convInt (by rfl) (by rfl) (by exact TyIs.eq) (by exact TyIs.eq) (by rfl)) (by simp only [putT, List.set_cons_zero, List.set_cons_succ]; rfl) ?_
    | refine reg_o (oa_lenS (by rfl) (by rfl) (by rfl) (by exact TyIs.eq) (by rfl)) (by simp only [putT, List.set_cons_zero, List.set_cons_succ]; rfl) ?_
    | refine reg_o (oa_lenStr (by rfl) (by rfl) (by rfl) (by exact TyIs.eq) (by rfl)) (by simp only [putT, List.set_cons_zero, List.set_cons_succ]; rfl) ?_
    | refine reg_o (oa_build (by rfl) (by rfl) (by exact TyIs.eq) (by rfl) (by simp only [offsL, TyIs.eq]; rfl) (by simp [fillL, cellsL, splice]; rfl)) (by simp only [putT, List.set_cons_zero, List.set_cons_succ]; rfl) ?_
    | refine reg_o (oa_field (by rfl) (by rfl) (by exact TyIs.eq) (by rfl) (by rfl) (by exact TyIs.eq) (by rfl) (by rfl)) (by simp only [putT, List.set_cons_zero, List.set_cons_succ]; rfl) ?_
    | refine reg_o (by rfl) (by simp only [putT, List.set_cons_zero, List.set_cons_succ]; rfl) ?_
    | (refine reg_g (by rfl) ?_; first
      | with_reducible refine GS_tt ?_
      | with_reducible refine GS_ff ?_
      | with_reducible refine GS_tf (reg_u (by with_unfolding_all (simp only [putT, List.set_cons_zero, List.set_cons_succ]; rfl)) ?_)
      | with_reducible refine GS_ft (reg_u (by with_unfolding_all (simp only [putT, List.set_cons_zero, List.set_cons_succ]; rfl)) ?_)
      | ((with_reducible refine GS_bt (fun h => ?_) (fun h => reg_u (by with_unfolding_all (simp only [putT, List.set_cons_zero, List.set_cons_succ]; rfl)) ?_)) <;> (try rw [h]))
      | ((with_reducible refine GS_bf (fun h => ?_) (fun h => reg_u (by with_unfolding_all (simp only [putT, List.set_cons_zero, List.set_cons_succ]; rfl)) ?_)) <;> (try rw [h])))
    | refine reg_gn (by rfl) (reg_u (by simp only [putT, List.set_cons_zero, List.set_cons_succ]; rfl) ?_)
    | refine reg_nil ?_
    | (refine Ex_cond (by rfl) ?_; first
      | with_reducible refine Ex_t ?_
      | with_reducible refine Ex_f ?_
      | with_reducible refine Ex_b (fun h => ?_) (fun h => ?_))
    | refine Ex_block ?_
    | refine Ex_skip ?_
    | refine Ex_ret ?_
    | refine Ex_exit ?_
  all_goals (refine ret_k (by first | exact .inr rfl | exact .inl rfl) ?_; (repeat (first | refine rk_nil ?_ | refine rk_tmp (by rfl) ?_ | refine rk_cell (by rfl) (by exact TyIs.eq) (by rfl) (by first | exact getB_N (by first | exact hB | simpa only [List.length_set] using hB) (by rfl) | exact getB_old (by first | assumption | exact getB_S (by assumption))) (by simp only [List.getElem?_cons_succ, List.getElem?_cons_zero]; rfl) ?_ | refine rk_cellA (by rfl) (by exact TyIs.eq) (by rfl) (by first | exact getB_N (by first | exact hB | simpa only [List.length_set] using hB) (by rfl) | exact getB_old (by first | assumption | exact getB_S (by assumption))) (Nat.le_of_ble_eq_true (by rfl)) (by simp only [List.drop_zero, List.drop_succ_cons, List.take_succ_cons, List.take_zero]; rfl) ?_)); refine retx_drop (by first | exact hB | simpa only [List.length_set] using hB) (by simp only [packR]; rfl) (by first | exact Lt.flat (by rfl) | exact Lt.aggF (by rfl) | exact Lt.tupleF (by rfl)) ?_)
  all_goals (simp_all [guessB] <;> (try (intros; omega)))
theorem l06Guess_runs (H : Heap) (x y : Int) (c : Bool) (hx : i16 x) (hy : i16 y) : Runs Try.prog 55 [.agg ⟨gss x y c⟩] H (fun v H' => v = .bool (guessB x y) ∧ H' = H) := by
  unfold gss
  have e1 := wrap64_16 hx
  have e2 := wrap64_16 hy
  refine fun_h 13 (fn := Try.f55) (by rfl) (by rfl) (by rfl) (by rfl) (by simp only [Try.f55]; rfl) (by simp only [List.length_cons, List.length_nil, Nat.reduceAdd, Nat.reduceSub, List.reduceReplicate, List.cons_append, List.nil_append]; rfl) ?_
  intro B hB
  repeat' first
    | refine Ex_seq ?_
    | refine Ex_region ?_
    | refine reg_plain ?_
    | refine op_call (by rfl) (by rfl) (by rfl) (by rfl) (l00In_runs _ _ _ _) (reg_k (by simp only [putT, List.set_cons_zero, List.set_cons_succ]; rfl) ?_)
    | refine reg_o (oa_alloc (by rfl) (by first | exact hB | simpa only [List.length_set] using hB) (by exact TyIs.eq) (by simp only [List.cons_append, List.nil_append]; rfl) (by simp only [List.length_cons, List.length_nil, Nat.reduceAdd, Nat.zero_add]; rfl)) (by simp only [putT, List.set_cons_zero, List.set_cons_succ]; rfl) ?_
    | refine reg_o (oa_box (by rfl) (by first | exact hB | simpa only [List.length_set] using hB) (by exact TyIs.eq) (by rfl) (by simp only [cellsL]; rfl) (by simp only [List.all_cons, List.all_nil, flatV, Bool.and_true, Bool.true_and, Bool.and_self, Bool.false_and]; rfl) (by simp only [List.cons_append, List.nil_append]; rfl) (by simp only [List.length_cons, List.length_nil, Nat.reduceAdd, Nat.zero_add]; rfl)) (by simp only [putT, List.set_cons_zero, List.set_cons_succ]; rfl) ?_
    | refine reg_o (oa_load (by rfl) (by rfl) (by exact TyIs.eq) (by rfl) (by first | exact getB_N (by first | exact hB | simpa only [List.length_set] using hB) (by rfl) | exact getB_old (by first | assumption | exact getB_S (by assumption))) (by simp only [List.getElem?_cons_succ, List.getElem?_cons_zero]; rfl)) (by simp only [putT, List.set_cons_zero, List.set_cons_succ]; rfl) ?_
    | refine reg_o (oa_loadA (by rfl) (by rfl) (by exact TyIs.eq) (by rfl) (by first | exact getB_N (by first | exact hB | simpa only [List.length_set] using hB) (by rfl) | exact getB_old (by first | assumption | exact getB_S (by assumption))) (Nat.le_of_ble_eq_true (by rfl)) (by simp only [List.drop_zero, List.drop_succ_cons, List.take_succ_cons, List.take_zero]; rfl)) (by simp only [putT, List.set_cons_zero, List.set_cons_succ]; rfl) ?_
    | refine reg_o (oa_fieldAddr (by rfl) (by rfl) (by exact TyIs.eq) (by rfl) (by rfl) (by exact TyIs.eq) (by decide) (by (try simp only [Nat.reduceAdd, Nat.zero_add, Nat.add_zero]); rfl)) (by simp only [putT, List.set_cons_zero, List.set_cons_succ]; rfl) ?_
    | refine reg_o (oa_store (by rfl) (by first | exact hB | simpa only [List.length_set] using hB) (by rfl) (by rfl) (by exact TyIs.eq) (by simp only [cellsL]; rfl) (by rfl) (by rfl) (by rfl) (Nat.le_of_ble_eq_true (by rfl)) (by rfl) (fun _ => by rfl) (by simp only [splice, List.take_succ_cons, List.take_zero, List.drop_succ_cons, List.drop_zero, List.cons_append, List.nil_append, List.length_cons, List.length_nil, Nat.reduceAdd, Nat.zero_add]; rfl) (by simp only [List.set_cons_zero, List.set_cons_succ]; rfl)) (by simp only [putT, List.set_cons_zero, List.set_cons_succ]; rfl) ?_
    | refine reg_o (oa_storeO (by rfl) (by rfl) (by rfl) (by exact TyIs.eq) (by simp only [cellsL]; rfl) (by rfl) (by first | assumption | exact getB_S (by assumption)) (by rfl) (Nat.le_of_ble_eq_true (by rfl)) (by rfl) (by rfl) (by simp only [splice, List.take_succ_cons, List.take_zero, List.drop_succ_cons, List.drop_zero, List.cons_append, List.nil_append, List.length_cons, List.length_nil, Nat.reduceAdd, Nat.zero_add]; rfl)) (by simp only [putT, List.set_cons_zero, List.set_cons_succ]; rfl) ?_
    | refine reg_o (oa_convInt (by rfl) (by rfl) (by exact TyIs.eq) (by exact TyIs.eq) (by rfl)) (by simp only [putT, List.set_cons_zero, List.set_cons_succ]; rfl) ?_
    | refine reg_o (oa_lenS (by rfl) (by rfl) (by rfl) (by exact TyIs.eq) (by rfl)) (by simp only [putT, List.set_cons_zero, List.set_cons_succ]; rfl) ?_
    | refine reg_o (oa_lenStr (by rfl) (by rfl) (by rfl) (by exact TyIs.eq) (by rfl)) (by simp only [putT, List.set_cons_zero, List.set_cons_succ]; rfl) ?_
    | refine reg_o (oa_build (by rfl) (by rfl) (by exact TyIs.eq) (by rfl) (by simp only [offsL, TyIs.eq]; rfl) (by simp [fillL, cellsL, splice]; rfl)) (by simp only [putT, List.set_cons_zero, List.set_cons_succ]; rfl) ?_
    | refine reg_o (oa_field (by rfl) (by rfl) (by exact TyIs.eq) (by rfl) (by rfl) (by exact TyIs.eq) (by rfl) (by rfl)) (by simp only [putT, List.set_cons_zero, List.set_cons_succ]; rfl) ?_
    | refine reg_o (by rfl) (by simp only [putT, List.set_cons_zero, List.set_cons_succ]; rfl) ?_
    | (refine reg_g (by rfl) ?_; first
      | with_reducible refine GS_tt ?_
      | with_reducible refine GS_ff ?_
      | with_reducible refine GS_tf (reg_u (by with_unfolding_all (simp only [putT, List.set_cons_zero, List.set_cons_succ]; rfl)) ?_)
      | with_reducible refine GS_ft (reg_u (by with_unfolding_all (simp only [putT, List.set_cons_zero, List.set_cons_succ]; rfl)) ?_)
      | ((with_reducible refine GS_bt (fun h => ?_) (fun h => reg_u (by with_unfolding_all (simp only [putT, List.set_cons_zero, List.set_cons_succ]; rfl)) ?_)) <;> (try rw [h]))
      | ((with_reducible refine GS_bf (fun h => ?_) (fun h => reg_u (by with_unfolding_all (simp only [putT, List.set_cons_zero, List.set_cons_succ]; rfl)) ?_)) <;> (try rw [h])))
    | refine reg_gn (by rfl) (reg_u (by simp only [putT, List.set_cons_zero, List.set_cons_succ]; rfl) ?_)
    | refine reg_nil ?_
    | (refine Ex_cond (by rfl) ?_; first
      | with_reducible refine Ex_t ?_
      | with_reducible refine Ex_f ?_
      | with_reducible refine Ex_b (fun h => ?_) (fun h => ?_))
    | refine Ex_block ?_
    | refine Ex_skip ?_
    | refine Ex_ret ?_
    | refine Ex_exit ?_
  all_goals (refine ret_k (by first | exact .inr rfl | exact .inl rfl) ?_; (repeat (first | refine rk_nil ?_ | refine rk_tmp (by rfl) ?_ | refine rk_cell (by rfl) (by exact TyIs.eq) (by rfl) (by first | exact getB_N (by first | exact hB | simpa only [List.length_set] using hB) (by rfl) | exact getB_old (by first | assumption | exact getB_S (by assumption))) (by simp only [List.getElem?_cons_succ, List.getElem?_cons_zero]; rfl) ?_ | refine rk_cellA (by rfl) (by exact TyIs.eq) (by rfl) (by first | exact getB_N (by first | exact hB | simpa only [List.length_set] using hB) (by rfl) | exact getB_old (by first | assumption | exact getB_S (by assumption))) (Nat.le_of_ble_eq_true (by rfl)) (by simp only [List.drop_zero, List.drop_succ_cons, List.take_succ_cons, List.take_zero]; rfl) ?_)); refine retx_drop (by first | exact hB | simpa only [List.length_set] using hB) (by simp only [packR]; rfl) (by first | exact Lt.flat (by rfl) | exact Lt.aggF (by rfl) | exact Lt.tupleF (by rfl)) ?_)
  all_goals (simp_all [guessB] <;> (try (intros; omega)))
def wordB (s : ByteArray) : Bool := s.data.toList.all letter && (decide (1 ≤ (s.size : Int)) && decide ((s.size : Int) ≤ 12))
theorem l06Ok_runs (H : Heap) (p : Nat) (s : ByteArray) (x y : Int) (c : Bool) (hs : s.size ≤ 4611686018427387904) (hx : i16 x) (hy : i16 y) (hb : getB H p = some ⟨rdr s x y c, 0, true, true⟩) : Runs Try.prog 31 [.pointer (some ⟨p, 0, none⟩)] H (fun v H' => v = .bool (wordB s && guessB x y) ∧ H' = H) := by
  have hb' := hb
  unfold rdr at hb
  refine fun_h 13 (fn := Try.f31) (by rfl) (by rfl) (by rfl) (by rfl) (by simp only [Try.f31]; rfl) (by simp only [List.length_cons, List.length_nil, Nat.reduceAdd, Nat.reduceSub, List.reduceReplicate, List.cons_append, List.nil_append]; rfl) ?_
  intro B hB
  repeat' first
    | refine Ex_seq ?_
    | refine Ex_region ?_
    | refine reg_plain ?_
    | refine op_call (by rfl) (by rfl) (by rfl) (by rfl) (l05Name_runs _ _ hs) (reg_k (by simp only [putT, List.set_cons_zero, List.set_cons_succ]; rfl) ?_)
    | refine op_call (by rfl) (by rfl) (by rfl) (by rfl) (l06Habit_runs _ _ _ _ _ _ (by first | exact getB_old hb' | exact hb')) (reg_k (by simp only [putT, List.set_cons_zero, List.set_cons_succ]; rfl) ?_)
    | refine op_call (by rfl) (by rfl) (by rfl) (by rfl) (l06Guess_runs _ _ _ _ hx hy) (reg_k (by simp only [putT, List.set_cons_zero, List.set_cons_succ]; rfl) ?_)
    | refine reg_o (oa_alloc (by rfl) (by first | exact hB | simpa only [List.length_set] using hB) (by exact TyIs.eq) (by simp only [List.cons_append, List.nil_append]; rfl) (by simp only [List.length_cons, List.length_nil, Nat.reduceAdd, Nat.zero_add]; rfl)) (by simp only [putT, List.set_cons_zero, List.set_cons_succ]; rfl) ?_
    | refine reg_o (oa_box (by rfl) (by first | exact hB | simpa only [List.length_set] using hB) (by exact TyIs.eq) (by rfl) (by simp only [cellsL]; rfl) (by simp only [List.all_cons, List.all_nil, flatV, Bool.and_true, Bool.true_and, Bool.and_self, Bool.false_and]; rfl) (by simp only [List.cons_append, List.nil_append]; rfl) (by simp only [List.length_cons, List.length_nil, Nat.reduceAdd, Nat.zero_add]; rfl)) (by simp only [putT, List.set_cons_zero, List.set_cons_succ]; rfl) ?_
    | refine reg_o (oa_load (by rfl) (by rfl) (by exact TyIs.eq) (by rfl) (by first | exact getB_N (by first | exact hB | simpa only [List.length_set] using hB) (by rfl) | exact getB_old (by first | assumption | exact getB_S (by assumption))) (by simp only [List.getElem?_cons_succ, List.getElem?_cons_zero]; rfl)) (by simp only [putT, List.set_cons_zero, List.set_cons_succ]; rfl) ?_
    | refine reg_o (oa_loadA (by rfl) (by rfl) (by exact TyIs.eq) (by rfl) (by first | exact getB_N (by first | exact hB | simpa only [List.length_set] using hB) (by rfl) | exact getB_old (by first | assumption | exact getB_S (by assumption))) (Nat.le_of_ble_eq_true (by rfl)) (by simp only [List.drop_zero, List.drop_succ_cons, List.take_succ_cons, List.take_zero]; rfl)) (by simp only [putT, List.set_cons_zero, List.set_cons_succ]; rfl) ?_
    | refine reg_o (oa_fieldAddr (by rfl) (by rfl) (by exact TyIs.eq) (by rfl) (by rfl) (by exact TyIs.eq) (by decide) (by (try simp only [Nat.reduceAdd, Nat.zero_add, Nat.add_zero]); rfl)) (by simp only [putT, List.set_cons_zero, List.set_cons_succ]; rfl) ?_
    | refine reg_o (oa_store (by rfl) (by first | exact hB | simpa only [List.length_set] using hB) (by rfl) (by rfl) (by exact TyIs.eq) (by simp only [cellsL]; rfl) (by rfl) (by rfl) (by rfl) (Nat.le_of_ble_eq_true (by rfl)) (by rfl) (fun _ => by rfl) (by simp only [splice, List.take_succ_cons, List.take_zero, List.drop_succ_cons, List.drop_zero, List.cons_append, List.nil_append, List.length_cons, List.length_nil, Nat.reduceAdd, Nat.zero_add]; rfl) (by simp only [List.set_cons_zero, List.set_cons_succ]; rfl)) (by simp only [putT, List.set_cons_zero, List.set_cons_succ]; rfl) ?_
    | refine reg_o (oa_storeO (by rfl) (by rfl) (by rfl) (by exact TyIs.eq) (by simp only [cellsL]; rfl) (by rfl) (by first | assumption | exact getB_S (by assumption)) (by rfl) (Nat.le_of_ble_eq_true (by rfl)) (by rfl) (by rfl) (by simp only [splice, List.take_succ_cons, List.take_zero, List.drop_succ_cons, List.drop_zero, List.cons_append, List.nil_append, List.length_cons, List.length_nil, Nat.reduceAdd, Nat.zero_add]; rfl)) (by simp only [putT, List.set_cons_zero, List.set_cons_succ]; rfl) ?_
    | refine reg_o (oa_convInt (by rfl) (by rfl) (by exact TyIs.eq) (by exact TyIs.eq) (by rfl)) (by simp only [putT, List.set_cons_zero, List.set_cons_succ]; rfl) ?_
    | refine reg_o (oa_lenS (by rfl) (by rfl) (by rfl) (by exact TyIs.eq) (by rfl)) (by simp only [putT, List.set_cons_zero, List.set_cons_succ]; rfl) ?_
    | refine reg_o (oa_lenStr (by rfl) (by rfl) (by rfl) (by exact TyIs.eq) (by rfl)) (by simp only [putT, List.set_cons_zero, List.set_cons_succ]; rfl) ?_
    | refine reg_o (oa_build (by rfl) (by rfl) (by exact TyIs.eq) (by rfl) (by simp only [offsL, TyIs.eq]; rfl) (by simp [fillL, cellsL, splice]; rfl)) (by simp only [putT, List.set_cons_zero, List.set_cons_succ]; rfl) ?_
    | refine reg_o (oa_field (by rfl) (by rfl) (by exact TyIs.eq) (by rfl) (by rfl) (by exact TyIs.eq) (by rfl) (by rfl)) (by simp only [putT, List.set_cons_zero, List.set_cons_succ]; rfl) ?_
    | refine reg_o (by rfl) (by simp only [putT, List.set_cons_zero, List.set_cons_succ]; rfl) ?_
    | (refine reg_g (by rfl) ?_; first
      | with_reducible refine GS_tt ?_
      | with_reducible refine GS_ff ?_
      | with_reducible refine GS_tf (reg_u (by with_unfolding_all (simp only [putT, List.set_cons_zero, List.set_cons_succ]; rfl)) ?_)
      | with_reducible refine GS_ft (reg_u (by with_unfolding_all (simp only [putT, List.set_cons_zero, List.set_cons_succ]; rfl)) ?_)
      | ((with_reducible refine GS_bt (fun h => ?_) (fun h => reg_u (by with_unfolding_all (simp only [putT, List.set_cons_zero, List.set_cons_succ]; rfl)) ?_)) <;> (try rw [h]))
      | ((with_reducible refine GS_bf (fun h => ?_) (fun h => reg_u (by with_unfolding_all (simp only [putT, List.set_cons_zero, List.set_cons_succ]; rfl)) ?_)) <;> (try rw [h])))
    | refine reg_gn (by rfl) (reg_u (by simp only [putT, List.set_cons_zero, List.set_cons_succ]; rfl) ?_)
    | refine reg_nil ?_
    | (refine Ex_cond (by rfl) ?_; first
      | with_reducible refine Ex_t ?_
      | with_reducible refine Ex_f ?_
      | with_reducible refine Ex_b (fun h => ?_) (fun h => ?_))
    | refine Ex_block ?_
    | refine Ex_skip ?_
    | refine Ex_ret ?_
    | refine Ex_exit ?_
  all_goals (refine ret_k (by first | exact .inr rfl | exact .inl rfl) ?_; (repeat (first | refine rk_nil ?_ | refine rk_tmp (by rfl) ?_ | refine rk_cell (by rfl) (by exact TyIs.eq) (by rfl) (by first | exact getB_N (by first | exact hB | simpa only [List.length_set] using hB) (by rfl) | exact getB_old (by first | assumption | exact getB_S (by assumption))) (by simp only [List.getElem?_cons_succ, List.getElem?_cons_zero]; rfl) ?_ | refine rk_cellA (by rfl) (by exact TyIs.eq) (by rfl) (by first | exact getB_N (by first | exact hB | simpa only [List.length_set] using hB) (by rfl) | exact getB_old (by first | assumption | exact getB_S (by assumption))) (Nat.le_of_ble_eq_true (by rfl)) (by simp only [List.drop_zero, List.drop_succ_cons, List.take_succ_cons, List.take_zero]; rfl) ?_)); refine retx_drop (by first | exact hB | simpa only [List.length_set] using hB) (by simp only [packR]; rfl) (by first | exact Lt.flat (by rfl) | exact Lt.aggF (by rfl) | exact Lt.tupleF (by rfl)) ?_)
  all_goals (simp_all [wordB] <;> (try (intro a1 a2 a3; have := h a1 a2; omega)))
theorem validReaderI_runs (H : Heap) (s : ByteArray) (x y : Int) (c : Bool) (hs : s.size ≤ 4611686018427387904) (hx : i16 x) (hy : i16 y) : Runs Try.prog 13 [.agg ⟨rdr s x y c⟩] H (fun v H' => v = .bool (wordB s && guessB x y) ∧ H' = H) := by
  unfold rdr
  refine fun_h 11 (fn := Try.f13) (by rfl) (by rfl) (by rfl) (by rfl) (by simp only [Try.f13]; rfl) (by simp only [List.length_cons, List.length_nil, Nat.reduceAdd, Nat.reduceSub, List.reduceReplicate, List.cons_append, List.nil_append]; rfl) ?_
  intro B hB
  repeat' first
    | refine Ex_seq ?_
    | refine Ex_region ?_
    | refine reg_plain ?_
    | refine op_call (by rfl) (by rfl) (by rfl) (by rfl) (isWord_runs _ _ hs) (reg_k (by simp only [putT, List.set_cons_zero, List.set_cons_succ]; rfl) ?_)
    | refine op_call (by rfl) (by rfl) (by rfl) (by rfl) (habit_runs _ _ _ _ _) (reg_k (by simp only [putT, List.set_cons_zero, List.set_cons_succ]; rfl) ?_)
    | refine op_call (by rfl) (by rfl) (by rfl) (by rfl) (isGuess_runs _ _ _ _ hx hy) (reg_k (by simp only [putT, List.set_cons_zero, List.set_cons_succ]; rfl) ?_)
    | refine reg_o (oa_alloc (by rfl) (by first | exact hB | simpa only [List.length_set] using hB) (by exact TyIs.eq) (by simp only [List.cons_append, List.nil_append]; rfl) (by simp only [List.length_cons, List.length_nil, Nat.reduceAdd, Nat.zero_add]; rfl)) (by simp only [putT, List.set_cons_zero, List.set_cons_succ]; rfl) ?_
    | refine reg_o (oa_box (by rfl) (by first | exact hB | simpa only [List.length_set] using hB) (by exact TyIs.eq) (by rfl) (by simp only [cellsL]; rfl) (by simp only [List.all_cons, List.all_nil, flatV, Bool.and_true, Bool.true_and, Bool.and_self, Bool.false_and]; rfl) (by simp only [List.cons_append, List.nil_append]; rfl) (by simp only [List.length_cons, List.length_nil, Nat.reduceAdd, Nat.zero_add]; rfl)) (by simp only [putT, List.set_cons_zero, List.set_cons_succ]; rfl) ?_
    | refine reg_o (oa_load (by rfl) (by rfl) (by exact TyIs.eq) (by rfl) (by first | exact getB_N (by first | exact hB | simpa only [List.length_set] using hB) (by rfl) | exact getB_old (by first | assumption | exact getB_S (by assumption))) (by simp only [List.getElem?_cons_succ, List.getElem?_cons_zero]; rfl)) (by simp only [putT, List.set_cons_zero, List.set_cons_succ]; rfl) ?_
    | refine reg_o (oa_loadA (by rfl) (by rfl) (by exact TyIs.eq) (by rfl) (by first | exact getB_N (by first | exact hB | simpa only [List.length_set] using hB) (by rfl) | exact getB_old (by first | assumption | exact getB_S (by assumption))) (Nat.le_of_ble_eq_true (by rfl)) (by simp only [List.drop_zero, List.drop_succ_cons, List.take_succ_cons, List.take_zero]; rfl)) (by simp only [putT, List.set_cons_zero, List.set_cons_succ]; rfl) ?_
    | refine reg_o (oa_fieldAddr (by rfl) (by rfl) (by exact TyIs.eq) (by rfl) (by rfl) (by exact TyIs.eq) (by decide) (by (try simp only [Nat.reduceAdd, Nat.zero_add, Nat.add_zero]); rfl)) (by simp only [putT, List.set_cons_zero, List.set_cons_succ]; rfl) ?_
    | refine reg_o (oa_store (by rfl) (by first | exact hB | simpa only [List.length_set] using hB) (by rfl) (by rfl) (by exact TyIs.eq) (by simp only [cellsL]; rfl) (by rfl) (by rfl) (by rfl) (Nat.le_of_ble_eq_true (by rfl)) (by rfl) (fun _ => by rfl) (by simp only [splice, List.take_succ_cons, List.take_zero, List.drop_succ_cons, List.drop_zero, List.cons_append, List.nil_append, List.length_cons, List.length_nil, Nat.reduceAdd, Nat.zero_add]; rfl) (by simp only [List.set_cons_zero, List.set_cons_succ]; rfl)) (by simp only [putT, List.set_cons_zero, List.set_cons_succ]; rfl) ?_
    | refine reg_o (oa_storeO (by rfl) (by rfl) (by rfl) (by exact TyIs.eq) (by simp only [cellsL]; rfl) (by rfl) (by first | assumption | exact getB_S (by assumption)) (by rfl) (Nat.le_of_ble_eq_true (by rfl)) (by rfl) (by rfl) (by simp only [splice, List.take_succ_cons, List.take_zero, List.drop_succ_cons, List.drop_zero, List.cons_append, List.nil_append, List.length_cons, List.length_nil, Nat.reduceAdd, Nat.zero_add]; rfl)) (by simp only [putT, List.set_cons_zero, List.set_cons_succ]; rfl) ?_
    | refine reg_o (oa_convInt (by rfl) (by rfl) (by exact TyIs.eq) (by exact TyIs.eq) (by rfl)) (by simp only [putT, List.set_cons_zero, List.set_cons_succ]; rfl) ?_
    | refine reg_o (oa_lenS (by rfl) (by rfl) (by rfl) (by exact TyIs.eq) (by rfl)) (by simp only [putT, List.set_cons_zero, List.set_cons_succ]; rfl) ?_
    | refine reg_o (oa_lenStr (by rfl) (by rfl) (by rfl) (by exact TyIs.eq) (by rfl)) (by simp only [putT, List.set_cons_zero, List.set_cons_succ]; rfl) ?_
    | refine reg_o (oa_build (by rfl) (by rfl) (by exact TyIs.eq) (by rfl) (by simp only [offsL, TyIs.eq]; rfl) (by simp [fillL, cellsL, splice]; rfl)) (by simp only [putT, List.set_cons_zero, List.set_cons_succ]; rfl) ?_
    | refine reg_o (oa_field (by rfl) (by rfl) (by exact TyIs.eq) (by rfl) (by rfl) (by exact TyIs.eq) (by rfl) (by rfl)) (by simp only [putT, List.set_cons_zero, List.set_cons_succ]; rfl) ?_
    | refine reg_o (by rfl) (by simp only [putT, List.set_cons_zero, List.set_cons_succ]; rfl) ?_
    | (refine reg_g (by rfl) ?_; first
      | with_reducible refine GS_tt ?_
      | with_reducible refine GS_ff ?_
      | with_reducible refine GS_tf (reg_u (by with_unfolding_all (simp only [putT, List.set_cons_zero, List.set_cons_succ]; rfl)) ?_)
      | with_reducible refine GS_ft (reg_u (by with_unfolding_all (simp only [putT, List.set_cons_zero, List.set_cons_succ]; rfl)) ?_)
      | ((with_reducible refine GS_bt (fun h => ?_) (fun h => reg_u (by with_unfolding_all (simp only [putT, List.set_cons_zero, List.set_cons_succ]; rfl)) ?_)) <;> (try rw [h]))
      | ((with_reducible refine GS_bf (fun h => ?_) (fun h => reg_u (by with_unfolding_all (simp only [putT, List.set_cons_zero, List.set_cons_succ]; rfl)) ?_)) <;> (try rw [h])))
    | refine reg_gn (by rfl) (reg_u (by simp only [putT, List.set_cons_zero, List.set_cons_succ]; rfl) ?_)
    | refine reg_nil ?_
    | (refine Ex_cond (by rfl) ?_; first
      | with_reducible refine Ex_t ?_
      | with_reducible refine Ex_f ?_
      | with_reducible refine Ex_b (fun h => ?_) (fun h => ?_))
    | refine Ex_block ?_
    | refine Ex_skip ?_
    | refine Ex_ret ?_
    | refine Ex_exit ?_
  all_goals (refine ret_k (by first | exact .inr rfl | exact .inl rfl) ?_; (repeat (first | refine rk_nil ?_ | refine rk_tmp (by rfl) ?_ | refine rk_cell (by rfl) (by exact TyIs.eq) (by rfl) (by first | exact getB_N (by first | exact hB | simpa only [List.length_set] using hB) (by rfl) | exact getB_old (by first | assumption | exact getB_S (by assumption))) (by simp only [List.getElem?_cons_succ, List.getElem?_cons_zero]; rfl) ?_ | refine rk_cellA (by rfl) (by exact TyIs.eq) (by rfl) (by first | exact getB_N (by first | exact hB | simpa only [List.length_set] using hB) (by rfl) | exact getB_old (by first | assumption | exact getB_S (by assumption))) (Nat.le_of_ble_eq_true (by rfl)) (by simp only [List.drop_zero, List.drop_succ_cons, List.take_succ_cons, List.take_zero]; rfl) ?_)); refine retx_drop (by first | exact hB | simpa only [List.length_set] using hB) (by simp only [packR]; rfl) (by first | exact Lt.flat (by rfl) | exact Lt.aggF (by rfl) | exact Lt.tupleF (by rfl)) ?_)
  all_goals (simp_all [wordB] <;> (try (intro a1 a2 a3; have := h a1 a2; omega)))
theorem validReaderS_runs (H : Heap) (s : ByteArray) (x y : Int) (c : Bool) (hs : s.size ≤ 4611686018427387904) (hx : i16 x) (hy : i16 y) : Runs Try.prog 11 [.agg ⟨rdr s x y c⟩] H (fun v H' => v = .bool (wordB s && guessB x y) ∧ H' = H) := by
  unfold rdr
  refine fun_h 4 (fn := Try.f11) (by rfl) (by rfl) (by rfl) (by rfl) (by simp only [Try.f11]; rfl) (by simp only [List.length_cons, List.length_nil, Nat.reduceAdd, Nat.reduceSub, List.reduceReplicate, List.cons_append, List.nil_append]; rfl) ?_
  intro B hB
  repeat' first
    | refine Ex_seq ?_
    | refine Ex_region ?_
    | refine reg_plain ?_
    | refine op_call (by rfl) (by rfl) (by rfl) (by rfl) (l06Ok_runs _ _ s x y c hs hx hy (by exact getB_N hB (by rfl))) (reg_k (by simp only [putT, List.set_cons_zero, List.set_cons_succ]; rfl) ?_)
    | refine reg_o (oa_alloc (by rfl) (by first | exact hB | simpa only [List.length_set] using hB) (by exact TyIs.eq) (by simp only [List.cons_append, List.nil_append]; rfl) (by simp only [List.length_cons, List.length_nil, Nat.reduceAdd, Nat.zero_add]; rfl)) (by simp only [putT, List.set_cons_zero, List.set_cons_succ]; rfl) ?_
    | refine reg_o (oa_box (by rfl) (by first | exact hB | simpa only [List.length_set] using hB) (by exact TyIs.eq) (by rfl) (by simp only [cellsL]; rfl) (by simp only [List.all_cons, List.all_nil, flatV, Bool.and_true, Bool.true_and, Bool.and_self, Bool.false_and]; rfl) (by simp only [List.cons_append, List.nil_append]; rfl) (by simp only [List.length_cons, List.length_nil, Nat.reduceAdd, Nat.zero_add]; rfl)) (by simp only [putT, List.set_cons_zero, List.set_cons_succ]; rfl) ?_
    | refine reg_o (oa_load (by rfl) (by rfl) (by exact TyIs.eq) (by rfl) (by first | exact getB_N (by first | exact hB | simpa only [List.length_set] using hB) (by rfl) | exact getB_old (by first | assumption | exact getB_S (by assumption))) (by simp only [List.getElem?_cons_succ, List.getElem?_cons_zero]; rfl)) (by simp only [putT, List.set_cons_zero, List.set_cons_succ]; rfl) ?_
    | refine reg_o (oa_loadA (by rfl) (by rfl) (by exact TyIs.eq) (by rfl) (by first | exact getB_N (by first | exact hB | simpa only [List.length_set] using hB) (by rfl) | exact getB_old (by first | assumption | exact getB_S (by assumption))) (Nat.le_of_ble_eq_true (by rfl)) (by simp only [List.drop_zero, List.drop_succ_cons, List.take_succ_cons, List.take_zero]; rfl)) (by simp only [putT, List.set_cons_zero, List.set_cons_succ]; rfl) ?_
    | refine reg_o (oa_fieldAddr (by rfl) (by rfl) (by exact TyIs.eq) (by rfl) (by rfl) (by exact TyIs.eq) (by decide) (by (try simp only [Nat.reduceAdd, Nat.zero_add, Nat.add_zero]); rfl)) (by simp only [putT, List.set_cons_zero, List.set_cons_succ]; rfl) ?_
    | refine reg_o (oa_store (by rfl) (by first | exact hB | simpa only [List.length_set] using hB) (by rfl) (by rfl) (by exact TyIs.eq) (by simp only [cellsL]; rfl) (by rfl) (by rfl) (by rfl) (Nat.le_of_ble_eq_true (by rfl)) (by rfl) (fun _ => by rfl) (by simp only [splice, List.take_succ_cons, List.take_zero, List.drop_succ_cons, List.drop_zero, List.cons_append, List.nil_append, List.length_cons, List.length_nil, Nat.reduceAdd, Nat.zero_add]; rfl) (by simp only [List.set_cons_zero, List.set_cons_succ]; rfl)) (by simp only [putT, List.set_cons_zero, List.set_cons_succ]; rfl) ?_
    | refine reg_o (oa_storeO (by rfl) (by rfl) (by rfl) (by exact TyIs.eq) (by simp only [cellsL]; rfl) (by rfl) (by first | assumption | exact getB_S (by assumption)) (by rfl) (Nat.le_of_ble_eq_true (by rfl)) (by rfl) (by rfl) (by simp only [splice, List.take_succ_cons, List.take_zero, List.drop_succ_cons, List.drop_zero, List.cons_append, List.nil_append, List.length_cons, List.length_nil, Nat.reduceAdd, Nat.zero_add]; rfl)) (by simp only [putT, List.set_cons_zero, List.set_cons_succ]; rfl) ?_
    | refine reg_o (oa_convInt (by rfl) (by rfl) (by exact TyIs.eq) (by exact TyIs.eq) (by rfl)) (by simp only [putT, List.set_cons_zero, List.set_cons_succ]; rfl) ?_
    | refine reg_o (oa_lenS (by rfl) (by rfl) (by rfl) (by exact TyIs.eq) (by rfl)) (by simp only [putT, List.set_cons_zero, List.set_cons_succ]; rfl) ?_
    | refine reg_o (oa_lenStr (by rfl) (by rfl) (by rfl) (by exact TyIs.eq) (by rfl)) (by simp only [putT, List.set_cons_zero, List.set_cons_succ]; rfl) ?_
    | refine reg_o (oa_build (by rfl) (by rfl) (by exact TyIs.eq) (by rfl) (by simp only [offsL, TyIs.eq]; rfl) (by simp [fillL, cellsL, splice]; rfl)) (by simp only [putT, List.set_cons_zero, List.set_cons_succ]; rfl) ?_
    | refine reg_o (oa_field (by rfl) (by rfl) (by exact TyIs.eq) (by rfl) (by rfl) (by exact TyIs.eq) (by rfl) (by rfl)) (by simp only [putT, List.set_cons_zero, List.set_cons_succ]; rfl) ?_
    | refine reg_o (by rfl) (by simp only [putT, List.set_cons_zero, List.set_cons_succ]; rfl) ?_
    | (refine reg_g (by rfl) ?_; first
      | with_reducible refine GS_tt ?_
      | with_reducible refine GS_ff ?_
      | with_reducible refine GS_tf (reg_u (by with_unfolding_all (simp only [putT, List.set_cons_zero, List.set_cons_succ]; rfl)) ?_)
      | with_reducible refine GS_ft (reg_u (by with_unfolding_all (simp only [putT, List.set_cons_zero, List.set_cons_succ]; rfl)) ?_)
      | ((with_reducible refine GS_bt (fun h => ?_) (fun h => reg_u (by with_unfolding_all (simp only [putT, List.set_cons_zero, List.set_cons_succ]; rfl)) ?_)) <;> (try rw [h]))
      | ((with_reducible refine GS_bf (fun h => ?_) (fun h => reg_u (by with_unfolding_all (simp only [putT, List.set_cons_zero, List.set_cons_succ]; rfl)) ?_)) <;> (try rw [h])))
    | refine reg_gn (by rfl) (reg_u (by simp only [putT, List.set_cons_zero, List.set_cons_succ]; rfl) ?_)
    | refine reg_nil ?_
    | (refine Ex_cond (by rfl) ?_; first
      | with_reducible refine Ex_t ?_
      | with_reducible refine Ex_f ?_
      | with_reducible refine Ex_b (fun h => ?_) (fun h => ?_))
    | refine Ex_block ?_
    | refine Ex_skip ?_
    | refine Ex_ret ?_
    | refine Ex_exit ?_
  all_goals (refine ret_k (by first | exact .inr rfl | exact .inl rfl) ?_; (repeat (first | refine rk_nil ?_ | refine rk_tmp (by rfl) ?_ | refine rk_cell (by rfl) (by exact TyIs.eq) (by rfl) (by first | exact getB_N (by first | exact hB | simpa only [List.length_set] using hB) (by rfl) | exact getB_old (by first | assumption | exact getB_S (by assumption))) (by simp only [List.getElem?_cons_succ, List.getElem?_cons_zero]; rfl) ?_ | refine rk_cellA (by rfl) (by exact TyIs.eq) (by rfl) (by first | exact getB_N (by first | exact hB | simpa only [List.length_set] using hB) (by rfl) | exact getB_old (by first | assumption | exact getB_S (by assumption))) (Nat.le_of_ble_eq_true (by rfl)) (by simp only [List.drop_zero, List.drop_succ_cons, List.take_succ_cons, List.take_zero]; rfl) ?_)); refine retx_drop (by first | exact hB | simpa only [List.length_set] using hB) (by simp only [packR]; rfl) (by first | exact Lt.flat (by rfl) | exact Lt.aggF (by rfl) | exact Lt.tupleF (by rfl)) ?_)
  all_goals simp_all
theorem toReader_runs (H : Heap) (s : ByteArray) (x y : Int) (c : Bool) : Runs Try.prog 12 [.agg ⟨rdr s x y c⟩] H (fun v H' => v = .agg ⟨rdr s x y c⟩ ∧ H' = H) := by
  unfold rdr
  refine fun_h 17 (fn := Try.f12) (by rfl) (by rfl) (by rfl) (by rfl) (by simp only [Try.f12]; rfl) (by simp only [List.length_cons, List.length_nil, Nat.reduceAdd, Nat.reduceSub, List.reduceReplicate, List.cons_append, List.nil_append]; rfl) ?_
  intro B hB
  repeat' first
    | refine Ex_seq ?_
    | refine Ex_region ?_
    | refine reg_plain ?_
    | refine reg_o (oa_alloc (by rfl) (by first | exact hB | simpa only [List.length_set] using hB) (by exact TyIs.eq) (by simp only [List.cons_append, List.nil_append]; rfl) (by simp only [List.length_cons, List.length_nil, Nat.reduceAdd, Nat.zero_add]; rfl)) (by simp only [putT, List.set_cons_zero, List.set_cons_succ]; rfl) ?_
    | refine reg_o (oa_box (by rfl) (by first | exact hB | simpa only [List.length_set] using hB) (by exact TyIs.eq) (by rfl) (by simp only [cellsL]; rfl) (by simp only [List.all_cons, List.all_nil, flatV, Bool.and_true, Bool.true_and, Bool.and_self, Bool.false_and]; rfl) (by simp only [List.cons_append, List.nil_append]; rfl) (by simp only [List.length_cons, List.length_nil, Nat.reduceAdd, Nat.zero_add]; rfl)) (by simp only [putT, List.set_cons_zero, List.set_cons_succ]; rfl) ?_
    | refine reg_o (oa_load (by rfl) (by rfl) (by exact TyIs.eq) (by rfl) (by first | exact getB_N (by first | exact hB | simpa only [List.length_set] using hB) (by rfl) | exact getB_old (by first | assumption | exact getB_S (by assumption))) (by simp only [List.getElem?_cons_succ, List.getElem?_cons_zero]; rfl)) (by simp only [putT, List.set_cons_zero, List.set_cons_succ]; rfl) ?_
    | refine reg_o (oa_loadA (by rfl) (by rfl) (by exact TyIs.eq) (by rfl) (by first | exact getB_N (by first | exact hB | simpa only [List.length_set] using hB) (by rfl) | exact getB_old (by first | assumption | exact getB_S (by assumption))) (Nat.le_of_ble_eq_true (by rfl)) (by simp only [List.drop_zero, List.drop_succ_cons, List.take_succ_cons, List.take_zero]; rfl)) (by simp only [putT, List.set_cons_zero, List.set_cons_succ]; rfl) ?_
    | refine reg_o (oa_fieldAddr (by rfl) (by rfl) (by exact TyIs.eq) (by rfl) (by rfl) (by exact TyIs.eq) (by decide) (by (try simp only [Nat.reduceAdd, Nat.zero_add, Nat.add_zero]); rfl)) (by simp only [putT, List.set_cons_zero, List.set_cons_succ]; rfl) ?_
    | refine reg_o (oa_store (by rfl) (by first | exact hB | simpa only [List.length_set] using hB) (by rfl) (by rfl) (by exact TyIs.eq) (by simp only [cellsL]; rfl) (by rfl) (by rfl) (by rfl) (Nat.le_of_ble_eq_true (by rfl)) (by rfl) (fun _ => by rfl) (by simp only [splice, List.take_succ_cons, List.take_zero, List.drop_succ_cons, List.drop_zero, List.cons_append, List.nil_append, List.length_cons, List.length_nil, Nat.reduceAdd, Nat.zero_add]; rfl) (by simp only [List.set_cons_zero, List.set_cons_succ]; rfl)) (by simp only [putT, List.set_cons_zero, List.set_cons_succ]; rfl) ?_
    | refine reg_o (oa_storeO (by rfl) (by rfl) (by rfl) (by exact TyIs.eq) (by simp only [cellsL]; rfl) (by rfl) (by first | assumption | exact getB_S (by assumption)) (by rfl) (Nat.le_of_ble_eq_true (by rfl)) (by rfl) (by rfl) (by simp only [splice, List.take_succ_cons, List.take_zero, List.drop_succ_cons, List.drop_zero, List.cons_append, List.nil_append, List.length_cons, List.length_nil, Nat.reduceAdd, Nat.zero_add]; rfl)) (by simp only [putT, List.set_cons_zero, List.set_cons_succ]; rfl) ?_
    | refine reg_o (oa_convInt (by rfl) (by rfl) (by exact TyIs.eq) (by exact TyIs.eq) (by rfl)) (by simp only [putT, List.set_cons_zero, List.set_cons_succ]; rfl) ?_
    | refine reg_o (oa_lenS (by rfl) (by rfl) (by rfl) (by exact TyIs.eq) (by rfl)) (by simp only [putT, List.set_cons_zero, List.set_cons_succ]; rfl) ?_
    | refine reg_o (oa_lenStr (by rfl) (by rfl) (by rfl) (by exact TyIs.eq) (by rfl)) (by simp only [putT, List.set_cons_zero, List.set_cons_succ]; rfl) ?_
    | refine reg_o (oa_build (by rfl) (by rfl) (by exact TyIs.eq) (by rfl) (by simp only [offsL, TyIs.eq]; rfl) (by simp [fillL, cellsL, splice]; rfl)) (by simp only [putT, List.set_cons_zero, List.set_cons_succ]; rfl) ?_
    | refine reg_o (oa_field (by rfl) (by rfl) (by exact TyIs.eq) (by rfl) (by rfl) (by exact TyIs.eq) (by rfl) (by rfl)) (by simp only [putT, List.set_cons_zero, List.set_cons_succ]; rfl) ?_
    | refine reg_o (by rfl) (by simp only [putT, List.set_cons_zero, List.set_cons_succ]; rfl) ?_
    | (refine reg_g (by rfl) ?_; first
      | with_reducible refine GS_tt ?_
      | with_reducible refine GS_ff ?_
      | with_reducible refine GS_tf (reg_u (by with_unfolding_all (simp only [putT, List.set_cons_zero, List.set_cons_succ]; rfl)) ?_)
      | with_reducible refine GS_ft (reg_u (by with_unfolding_all (simp only [putT, List.set_cons_zero, List.set_cons_succ]; rfl)) ?_)
      | ((with_reducible refine GS_bt (fun h => ?_) (fun h => reg_u (by with_unfolding_all (simp only [putT, List.set_cons_zero, List.set_cons_succ]; rfl)) ?_)) <;> (try rw [h]))
      | ((with_reducible refine GS_bf (fun h => ?_) (fun h => reg_u (by with_unfolding_all (simp only [putT, List.set_cons_zero, List.set_cons_succ]; rfl)) ?_)) <;> (try rw [h])))
    | refine reg_gn (by rfl) (reg_u (by simp only [putT, List.set_cons_zero, List.set_cons_succ]; rfl) ?_)
    | refine reg_nil ?_
    | (refine Ex_cond (by rfl) ?_; first
      | with_reducible refine Ex_t ?_
      | with_reducible refine Ex_f ?_
      | with_reducible refine Ex_b (fun h => ?_) (fun h => ?_))
    | refine Ex_block ?_
    | refine Ex_skip ?_
    | refine Ex_ret ?_
    | refine Ex_exit ?_
  all_goals (refine ret_k (by first | exact .inr rfl | exact .inl rfl) ?_; (repeat (first | refine rk_nil ?_ | refine rk_tmp (by rfl) ?_ | refine rk_cell (by rfl) (by exact TyIs.eq) (by rfl) (by first | exact getB_N (by first | exact hB | simpa only [List.length_set] using hB) (by rfl) | exact getB_old (by first | assumption | exact getB_S (by assumption))) (by simp only [List.getElem?_cons_succ, List.getElem?_cons_zero]; rfl) ?_ | refine rk_cellA (by rfl) (by exact TyIs.eq) (by rfl) (by first | exact getB_N (by first | exact hB | simpa only [List.length_set] using hB) (by rfl) | exact getB_old (by first | assumption | exact getB_S (by assumption))) (Nat.le_of_ble_eq_true (by rfl)) (by simp only [List.drop_zero, List.drop_succ_cons, List.take_succ_cons, List.take_zero]; rfl) ?_)); refine retx_drop (by first | exact hB | simpa only [List.length_set] using hB) (by simp only [packR]; rfl) (by first | exact Lt.flat (by rfl) | exact Lt.aggF (by rfl) | exact Lt.tupleF (by rfl)) ?_)
  all_goals exact ⟨rfl, rfl⟩
theorem szReader_runs (H : Heap) (s : ByteArray) (x y : Int) (c : Bool) (n : Int) : Runs Try.prog 10 [.agg ⟨rdr s x y c⟩, .int .i64 n] H (fun v H' => v = .int .i64 (if IntKind.i64.wrap (n - s.size) < 0 then -1 else IntKind.i64.wrap (n - s.size)) ∧ H' = H) := by
  unfold rdr
  refine fun_h 13 (fn := Try.f10) (by rfl) (by rfl) (by rfl) (by rfl) (by simp only [Try.f10]; rfl) (by simp only [List.length_cons, List.length_nil, Nat.reduceAdd, Nat.reduceSub, List.reduceReplicate, List.cons_append, List.nil_append]; rfl) ?_
  intro B hB
  repeat' first
    | refine Ex_seq ?_
    | refine Ex_region ?_
    | refine reg_plain ?_
    | refine reg_o (oa_alloc (by rfl) (by first | exact hB | simpa only [List.length_set] using hB) (by exact TyIs.eq) (by simp only [List.cons_append, List.nil_append]; rfl) (by simp only [List.length_cons, List.length_nil, Nat.reduceAdd, Nat.zero_add]; rfl)) (by simp only [putT, List.set_cons_zero, List.set_cons_succ]; rfl) ?_
    | refine reg_o (oa_box (by rfl) (by first | exact hB | simpa only [List.length_set] using hB) (by exact TyIs.eq) (by rfl) (by simp only [cellsL]; rfl) (by simp only [List.all_cons, List.all_nil, flatV, Bool.and_true, Bool.true_and, Bool.and_self, Bool.false_and]; rfl) (by simp only [List.cons_append, List.nil_append]; rfl) (by simp only [List.length_cons, List.length_nil, Nat.reduceAdd, Nat.zero_add]; rfl)) (by simp only [putT, List.set_cons_zero, List.set_cons_succ]; rfl) ?_
    | refine reg_o (oa_load (by rfl) (by rfl) (by exact TyIs.eq) (by rfl) (by first | exact getB_N (by first | exact hB | simpa only [List.length_set] using hB) (by rfl) | exact getB_old (by first | assumption | exact getB_S (by assumption))) (by simp only [List.getElem?_cons_succ, List.getElem?_cons_zero]; rfl)) (by simp only [putT, List.set_cons_zero, List.set_cons_succ]; rfl) ?_
    | refine reg_o (oa_loadA (by rfl) (by rfl) (by exact TyIs.eq) (by rfl) (by first | exact getB_N (by first | exact hB | simpa only [List.length_set] using hB) (by rfl) | exact getB_old (by first | assumption | exact getB_S (by assumption))) (Nat.le_of_ble_eq_true (by rfl)) (by simp only [List.drop_zero, List.drop_succ_cons, List.take_succ_cons, List.take_zero]; rfl)) (by simp only [putT, List.set_cons_zero, List.set_cons_succ]; rfl) ?_
    | refine reg_o (oa_fieldAddr (by rfl) (by rfl) (by exact TyIs.eq) (by rfl) (by rfl) (by exact TyIs.eq) (by decide) (by (try simp only [Nat.reduceAdd, Nat.zero_add, Nat.add_zero]); rfl)) (by simp only [putT, List.set_cons_zero, List.set_cons_succ]; rfl) ?_
    | refine reg_o (oa_store (by rfl) (by first | exact hB | simpa only [List.length_set] using hB) (by rfl) (by rfl) (by exact TyIs.eq) (by simp only [cellsL]; rfl) (by rfl) (by rfl) (by rfl) (Nat.le_of_ble_eq_true (by rfl)) (by rfl) (fun _ => by rfl) (by simp only [splice, List.take_succ_cons, List.take_zero, List.drop_succ_cons, List.drop_zero, List.cons_append, List.nil_append, List.length_cons, List.length_nil, Nat.reduceAdd, Nat.zero_add]; rfl) (by simp only [List.set_cons_zero, List.set_cons_succ]; rfl)) (by simp only [putT, List.set_cons_zero, List.set_cons_succ]; rfl) ?_
    | refine reg_o (oa_storeO (by rfl) (by rfl) (by rfl) (by exact TyIs.eq) (by simp only [cellsL]; rfl) (by rfl) (by first | assumption | exact getB_S (by assumption)) (by rfl) (Nat.le_of_ble_eq_true (by rfl)) (by rfl) (by rfl) (by simp only [splice, List.take_succ_cons, List.take_zero, List.drop_succ_cons, List.drop_zero, List.cons_append, List.nil_append, List.length_cons, List.length_nil, Nat.reduceAdd, Nat.zero_add]; rfl)) (by simp only [putT, List.set_cons_zero, List.set_cons_succ]; rfl) ?_
    | refine reg_o (oa_convInt (by rfl) (by rfl) (by exact TyIs.eq) (by exact TyIs.eq) (by rfl)) (by simp only [putT, List.set_cons_zero, List.set_cons_succ]; rfl) ?_
    | refine reg_o (oa_lenS (by rfl) (by rfl) (by rfl) (by exact TyIs.eq) (by rfl)) (by simp only [putT, List.set_cons_zero, List.set_cons_succ]; rfl) ?_
    | refine reg_o (oa_lenStr (by rfl) (by rfl) (by rfl) (by exact TyIs.eq) (by rfl)) (by simp only [putT, List.set_cons_zero, List.set_cons_succ]; rfl) ?_
    | refine reg_o (oa_build (by rfl) (by rfl) (by exact TyIs.eq) (by rfl) (by simp only [offsL, TyIs.eq]; rfl) (by simp [fillL, cellsL, splice]; rfl)) (by simp only [putT, List.set_cons_zero, List.set_cons_succ]; rfl) ?_
    | refine reg_o (oa_field (by rfl) (by rfl) (by exact TyIs.eq) (by rfl) (by rfl) (by exact TyIs.eq) (by rfl) (by rfl)) (by simp only [putT, List.set_cons_zero, List.set_cons_succ]; rfl) ?_
    | refine reg_o (by rfl) (by simp only [putT, List.set_cons_zero, List.set_cons_succ]; rfl) ?_
    | (refine reg_g (by rfl) ?_; first
      | with_reducible refine GS_tt ?_
      | with_reducible refine GS_ff ?_
      | with_reducible refine GS_tf (reg_u (by with_unfolding_all (simp only [putT, List.set_cons_zero, List.set_cons_succ]; rfl)) ?_)
      | with_reducible refine GS_ft (reg_u (by with_unfolding_all (simp only [putT, List.set_cons_zero, List.set_cons_succ]; rfl)) ?_)
      | ((with_reducible refine GS_bt (fun h => ?_) (fun h => reg_u (by with_unfolding_all (simp only [putT, List.set_cons_zero, List.set_cons_succ]; rfl)) ?_)) <;> (try rw [h]))
      | ((with_reducible refine GS_bf (fun h => ?_) (fun h => reg_u (by with_unfolding_all (simp only [putT, List.set_cons_zero, List.set_cons_succ]; rfl)) ?_)) <;> (try rw [h])))
    | refine reg_gn (by rfl) (reg_u (by simp only [putT, List.set_cons_zero, List.set_cons_succ]; rfl) ?_)
    | refine reg_nil ?_
    | (refine Ex_cond (by rfl) ?_; first
      | with_reducible refine Ex_t ?_
      | with_reducible refine Ex_f ?_
      | with_reducible refine Ex_b (fun h => ?_) (fun h => ?_))
    | refine Ex_block ?_
    | refine Ex_skip ?_
    | refine Ex_ret ?_
    | refine Ex_exit ?_
  all_goals (refine ret_k (by first | exact .inr rfl | exact .inl rfl) ?_; (repeat (first | refine rk_nil ?_ | refine rk_tmp (by rfl) ?_ | refine rk_cell (by rfl) (by exact TyIs.eq) (by rfl) (by first | exact getB_N (by first | exact hB | simpa only [List.length_set] using hB) (by rfl) | exact getB_old (by first | assumption | exact getB_S (by assumption))) (by simp only [List.getElem?_cons_succ, List.getElem?_cons_zero]; rfl) ?_ | refine rk_cellA (by rfl) (by exact TyIs.eq) (by rfl) (by first | exact getB_N (by first | exact hB | simpa only [List.length_set] using hB) (by rfl) | exact getB_old (by first | assumption | exact getB_S (by assumption))) (Nat.le_of_ble_eq_true (by rfl)) (by simp only [List.drop_zero, List.drop_succ_cons, List.take_succ_cons, List.take_zero]; rfl) ?_)); refine retx_drop (by first | exact hB | simpa only [List.length_set] using hB) (by simp only [packR]; rfl) (by first | exact Lt.flat (by rfl) | exact Lt.aggF (by rfl) | exact Lt.tupleF (by rfl)) ?_)
  all_goals (simp_all <;> (try omega))
end Go.Proofs.Ytlnkffnabifedaa.Eng
