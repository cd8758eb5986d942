/- A text of this claim (F1): lemmas for the proof, no conditions of their own. -/
import Derived.Test.YtlnkffnabifedaaTy
set_option linter.unusedVariables false
set_option linter.unusedSimpArgs false
namespace Go.Proofs.Ytlnkffnabifedaa.Eng
open Go Go.RowKit
set_option maxRecDepth 100000
/-- A reader's cells. -/
def rdr (s : ByteArray) (x y : Int) (c : Bool) : List Value := [.string s, .int .i16 x, .int .i16 y, .bool c]
def gss (x y : Int) (c : Bool) : List Value := [.int .i16 x, .int .i16 y, .bool c]
theorem habit_runs (H : Heap) (s : ByteArray) (x y : Int) (c : Bool) : Runs Try.prog 34 [.agg ⟨rdr s x y c⟩] H (fun v H' => v = .agg ⟨gss x y c⟩ ∧ H' = H) := by
  unfold rdr gss
  refine fun_h 10 (fn := Try.f34) (by rfl) (by rfl) (by rfl) (by rfl) (by simp only [Try.f34]; rfl) (by simp only [List.length_cons, List.length_nil, Nat.reduceAdd, Nat.reduceSub, List.reduceReplicate, List.cons_append, List.nil_append]; rfl) ?_
  intro B hB
  repeat' first
    | refine Ex_seq ?_
    | refine Ex_region ?_
    | refine reg_plain ?_
    | refine reg_o (oa_alloc (by rfl) (by first | exact hB | simpa only [List.length_set] using hB) (by exact TyIs.eq) (by simp only [List.cons_append, List.nil_append]; rfl) (by simp only [List.length_cons, List.length_nil, Nat.reduceAdd, Nat.zero_add]; rfl)) (by simp only [putT, List.set_cons_zero, List.set_cons_succ]; rfl) ?_
    | refine reg_o (oa_box (by rfl) (by first | exact hB | simpa only [List.length_set] using hB) (by exact TyIs.eq) (by rfl) (by simp only [cellsL]; rfl) (by simp only [List.all_cons, List.all_nil, flatV, Bool.and_true, Bool.true_and, Bool.and_self, Bool.false_and]; rfl) (by simp only [List.cons_append, List.nil_append]; rfl) (by simp only [List.length_cons, List.length_nil, Nat.reduceAdd, Nat.zero_add]; rfl)) (by simp only [putT, List.set_cons_zero, List.set_cons_succ]; rfl) ?_
    | refine reg_o (oa_load (by rfl) (by rfl) (by exact TyIs.eq) (by rfl) (by first | exact getB_N (by first | exact hB | simpa only [List.length_set] using hB) (by rfl) | exact getB_old (by first | assumption | exact getB_S (by assumption))) (by simp only [List.getElem?_cons_succ, List.getElem?_cons_zero]; rfl)) (by simp only [putT, List.set_cons_zero, List.set_cons_succ]; rfl) ?_
    | refine reg_o (oa_loadA (by rfl) (by rfl) (by exact TyIs.eq) (by rfl) (by first | exact getB_N (by first | exact hB | simpa only [List.length_set] using hB) (by rfl) | exact getB_old (by first | assumption | exact getB_S (by assumption))) (Nat.le_of_ble_eq_true (by rfl)) (by simp only [List.drop_zero, List.drop_succ_cons, List.take_succ_cons, List.take_zero]; rfl)) (by simp only [putT, List.set_cons_zero, List.set_cons_succ]; rfl) ?_
    | refine reg_o (oa_fieldAddr (by rfl) (by rfl) (by exact TyIs.eq) (by rfl) (by rfl) (by exact TyIs.eq) (by decide) (by (try simp only [Nat.reduceAdd, Nat.zero_add, Nat.add_zero]); rfl)) (by simp only [putT, List.set_cons_zero, List.set_cons_succ]; rfl) ?_
    | refine reg_o (oa_store (by rfl) (by first | exact hB | simpa only [List.length_set] using hB) (by rfl) (by rfl) (by exact TyIs.eq) (by simp only [cellsL]; rfl) (by rfl) (by rfl) (by rfl) (Nat.le_of_ble_eq_true (by rfl)) (by rfl) (fun _ => by rfl) (by simp only [splice, List.take_succ_cons, List.take_zero, List.drop_succ_cons, List.drop_zero, List.cons_append, List.nil_append, List.length_cons, List.length_nil, Nat.reduceAdd, Nat.zero_add]; rfl) (by simp only [List.set_cons_zero, List.set_cons_succ]; rfl)) (by simp only [putT, List.set_cons_zero, List.set_cons_succ]; rfl) ?_
    | refine reg_o (oa_storeO (by rfl) (by rfl) (by rfl) (by exact TyIs.eq) (by simp only [cellsL]; rfl) (by rfl) (by first | assumption | exact getB_S (by assumption)) (by rfl) (Nat.le_of_ble_eq_true (by rfl)) (by rfl) (by rfl) (by simp only [splice, List.take_succ_cons, List.take_zero, List.drop_succ_cons, List.drop_zero, List.cons_append, List.nil_append, List.length_cons, List.length_nil, Nat.reduceAdd, Nat.zero_add]; rfl)) (by simp only [putT, List.set_cons_zero, List.set_cons_succ]; rfl) ?_
    | refine reg_o (oa_convInt (by rfl) (by rfl) (by exact TyIs.eq) (by exact TyIs.eq) (by rfl)) (by simp only [putT, List.set_cons_zero, List.set_cons_succ]; rfl) ?_
    | refine reg_o (oa_lenS (by rfl) (by rfl) (by rfl) (by exact TyIs.eq) (by rfl)) (by simp only [putT, List.set_cons_zero, List.set_cons_succ]; rfl) ?_
    | refine reg_o (oa_lenStr (by rfl) (by rfl) (by rfl) (by exact TyIs.eq) (by rfl)) (by simp only [putT, List.set_cons_zero, List.set_cons_succ]; rfl) ?_
    | refine reg_o (oa_build (by rfl) (by rfl) (by exact TyIs.eq) (by rfl) (by simp only [offsL, TyIs.eq]; rfl) (by simp [fillL, cellsL, splice]; rfl)) (by simp only [putT, List.set_cons_zero, List.set_cons_succ]; rfl) ?_
    | refine reg_o (oa_field (by rfl) (by rfl) (by exact TyIs.eq) (by rfl) (by rfl) (by exact TyIs.eq) (by rfl) (by rfl)) (by simp only [putT, List.set_cons_zero, List.set_cons_succ]; rfl) ?_
    | refine reg_o (by rfl) (by simp only [putT, List.set_cons_zero, List.set_cons_succ]; rfl) ?_
    | (refine reg_g (by rfl) ?_; first
      | with_reducible refine GS_tt ?_
      | with_reducible refine GS_ff ?_
      | with_reducible refine GS_tf (reg_u (by with_unfolding_all (simp only [putT, List.set_cons_zero, List.set_cons_succ]; rfl)) ?_)
      | with_reducible refine GS_ft (reg_u (by with_unfolding_all (simp only [putT, List.set_cons_zero, List.set_cons_succ]; rfl)) ?_)
      | ((with_reducible refine GS_bt (fun h => ?_) (fun h => reg_u (by with_unfolding_all (simp only [putT, List.set_cons_zero, List.set_cons_succ]; rfl)) ?_)) <;> (try rw [h]))
      | ((with_reducible refine GS_bf (fun h => ?_) (fun h => reg_u (by with_unfolding_all (simp only [putT, List.set_cons_zero, List.set_cons_succ]; rfl)) ?_)) <;> (try rw [h])))
    | refine reg_gn (by rfl) (reg_u (by simp only [putT, List.set_cons_zero, List.set_cons_succ]; rfl) ?_)
    | refine reg_nil ?_
    | (refine Ex_cond (by rfl) ?_; first
      | with_reducible refine Ex_t ?_
      | with_reducible refine Ex_f ?_
      | with_reducible refine Ex_b (fun h => ?_) (fun h => ?_))
    | refine Ex_block ?_
    | refine Ex_skip ?_
    | refine Ex_ret ?_
    | refine Ex_exit ?_
  all_goals (refine ret_k (by first | exact .inr rfl | exact .inl rfl) ?_; (repeat (first | refine rk_nil ?_ | refine rk_tmp (by rfl) ?_ | refine rk_cell (by rfl) (by exact TyIs.eq) (by rfl) (by first | exact getB_N (by first | exact hB | simpa only [List.length_set] using hB) (by rfl) | exact getB_old (by first | assumption | exact getB_S (by assumption))) (by simp only [List.getElem?_cons_succ, List.getElem?_cons_zero]; rfl) ?_ | refine rk_cellA (by rfl) (by exact TyIs.eq) (by rfl) (by first | exact getB_N (by first | exact hB | simpa only [List.length_set] using hB) (by rfl) | exact getB_old (by first | assumption | exact getB_S (by assumption))) (Nat.le_of_ble_eq_true (by rfl)) (by simp only [List.drop_zero, List.drop_succ_cons, List.take_succ_cons, List.take_zero]; rfl) ?_)); refine retx_drop (by first | exact hB | simpa only [List.length_set] using hB) (by simp only [packR]; rfl) (by first | exact Lt.flat (by rfl) | exact Lt.aggF (by rfl) | exact Lt.tupleF (by rfl)) ?_)
  all_goals exact ⟨rfl, rfl⟩
theorem l06Habit_runs (H : Heap) (p : Nat) (s : ByteArray) (x y : Int) (c : Bool) (hb : getB H p = some ⟨rdr s x y c, 0, true, true⟩) : Runs Try.prog 48 [.pointer (some ⟨p, 0, none⟩)] H (fun v H' => v = .agg ⟨gss x y c⟩ ∧ H' = H) := by
  unfold rdr at hb; unfold gss
  refine fun_h 16 (fn := Try.f48) (by rfl) (by rfl) (by rfl) (by rfl) (by simp only [Try.f48]; rfl) (by simp only [List.length_cons, List.length_nil, Nat.reduceAdd, Nat.reduceSub, List.reduceReplicate, List.cons_append, List.nil_append]; rfl) ?_
  intro B hB
  repeat' first
    | refine Ex_seq ?_
    | refine Ex_region ?_
    | refine reg_plain ?_
    | refine reg_o (oa_alloc (by rfl) (by first | exact hB | simpa only [List.length_set] using hB) (by exact TyIs.eq) (by simp only [List.cons_append, List.nil_append]; rfl) (by simp only [List.length_cons, List.length_nil, Nat.reduceAdd, Nat.zero_add]; rfl)) (by simp only [putT, List.set_cons_zero, List.set_cons_succ]; rfl) ?_
    | refine reg_o (oa_box (by rfl) (by first | exact hB | simpa only [List.length_set] using hB) (by exact TyIs.eq) (by rfl) (by simp only [cellsL]; rfl) (by simp only [List.all_cons, List.all_nil, flatV, Bool.and_true, Bool.true_and, Bool.and_self, Bool.false_and]; rfl) (by simp only [List.cons_append, List.nil_append]; rfl) (by simp only [List.length_cons, List.length_nil, Nat.reduceAdd, Nat.zero_add]; rfl)) (by simp only [putT, List.set_cons_zero, List.set_cons_succ]; rfl) ?_
    | refine reg_o (oa_load (by rfl) (by rfl) (by exact TyIs.eq) (by rfl) (by first | exact getB_N (by first | exact hB | simpa only [List.length_set] using hB) (by rfl) | exact getB_old (by first | assumption | exact getB_S (by assumption))) (by simp only [List.getElem?_cons_succ, List.getElem?_cons_zero]; rfl)) (by simp only [putT, List.set_cons_zero, List.set_cons_succ]; rfl) ?_
    | refine reg_o (oa_loadA (by rfl) (by rfl) (by exact TyIs.eq) (by rfl) (by first | exact getB_N (by first | exact hB | simpa only [List.length_set] using hB) (by rfl) | exact getB_old (by first | assumption | exact getB_S (by assumption))) (Nat.le_of_ble_eq_true (by rfl)) (by simp only [List.drop_zero, List.drop_succ_cons, List.take_succ_cons, List.take_zero]; rfl)) (by simp only [putT, List.set_cons_zero, List.set_cons_succ]; rfl) ?_
    | refine reg_o (oa_fieldAddr (by rfl) (by rfl) (by exact TyIs.eq) (by rfl) (by rfl) (by exact TyIs.eq) (by decide) (by (try simp only [Nat.reduceAdd, Nat.zero_add, Nat.add_zero]); rfl)) (by simp only [putT, List.set_cons_zero, List.set_cons_succ]; rfl) ?_
    | refine reg_o (oa_store (by rfl) (by first | exact hB | simpa only [List.length_set] using hB) (by rfl) (by rfl) (by exact TyIs.eq) (by simp only [cellsL]; rfl) (by rfl) (by rfl) (by rfl) (Nat.le_of_ble_eq_true (by rfl)) (by rfl) (fun _ => by rfl) (by simp only [splice, List.take_succ_cons, List.take_zero, List.drop_succ_cons, List.drop_zero, List.cons_append, List.nil_append, List.length_cons, List.length_nil, Nat.reduceAdd, Nat.zero_add]; rfl) (by simp only [List.set_cons_zero, List.set_cons_succ]; rfl)) (by simp only [putT, List.set_cons_zero, List.set_cons_succ]; rfl) ?_
    | refine reg_o (oa_storeO (by rfl) (by rfl) (by rfl) (by exact TyIs.eq) (by simp only [cellsL]; rfl) (by rfl) (by first | assumption | exact getB_S (by assumption)) (by rfl) (Nat.le_of_ble_eq_true (by rfl)) (by rfl) (by rfl) (by simp only [splice, List.take_succ_cons, List.take_zero, List.drop_succ_cons, List.drop_zero, List.cons_append, List.nil_append, List.length_cons, List.length_nil, Nat.reduceAdd, Nat.zero_add]; rfl)) (by simp only [putT, List.set_cons_zero, List.set_cons_succ]; rfl) ?_
    | refine reg_o (oa_convInt (by rfl) (by rfl) (by exact TyIs.eq) (by exact TyIs.eq) (by rfl)) (by simp only [putT, List.set_cons_zero, List.set_cons_succ]; rfl) ?_
    | refine reg_o (oa_lenS (by rfl) (by rfl) (by rfl) (by exact TyIs.eq) (by rfl)) (by simp only [putT, List.set_cons_zero, List.set_cons_succ]; rfl) ?_
    | refine reg_o (oa_lenStr (by rfl) (by rfl) (by rfl) (by exact TyIs.eq) (by rfl)) (by simp only [putT, List.set_cons_zero, List.set_cons_succ]; rfl) ?_
    | refine reg_o (oa_build (by rfl) (by rfl) (by exact TyIs.eq) (by rfl) (by simp only [offsL, TyIs.eq]; rfl) (by simp [fillL, cellsL, splice]; rfl)) (by simp only [putT, List.set_cons_zero, List.set_cons_succ]; rfl) ?_
    | refine reg_o (oa_field (by rfl) (by rfl) (by exact TyIs.eq) (by rfl) (by rfl) (by exact TyIs.eq) (by rfl) (by rfl)) (by simp only [putT, List.set_cons_zero, List.set_cons_succ]; rfl) ?_
    | refine reg_o (by rfl) (by simp only [putT, List.set_cons_zero, List.set_cons_succ]; rfl) ?_
    | (refine reg_g (by rfl) ?_; first
      | with_reducible refine GS_tt ?_
      | with_reducible refine GS_ff ?_
      | with_reducible refine GS_tf (reg_u (by with_unfolding_all (simp only [putT, List.set_cons_zero, List.set_cons_succ]; rfl)) ?_)
      | with_reducible refine GS_ft (reg_u (by with_unfolding_all (simp only [putT, List.set_cons_zero, List.set_cons_succ]; rfl)) ?_)
      | ((with_reducible refine GS_bt (fun h => ?_) (fun h => reg_u (by with_unfolding_all (simp only [putT, List.set_cons_zero, List.set_cons_succ]; rfl)) ?_)) <;> (try rw [h]))
      | ((with_reducible refine GS_bf (fun h => ?_) (fun h => reg_u (by with_unfolding_all (simp only [putT, List.set_cons_zero, List.set_cons_succ]; rfl)) ?_)) <;> (try rw [h])))
    | refine reg_gn (by rfl) (reg_u (by simp only [putT, List.set_cons_zero, List.set_cons_succ]; rfl) ?_)
    | refine reg_nil ?_
    | (refine Ex_cond (by rfl) ?_; first
      | with_reducible refine Ex_t ?_
      | with_reducible refine Ex_f ?_
      | with_reducible refine Ex_b (fun h => ?_) (fun h => ?_))
    | refine Ex_block ?_
    | refine Ex_skip ?_
    | refine Ex_ret ?_
    | refine Ex_exit ?_
    | (refine Ex_dr0 [] (by decide +kernel) (by decide +kernel) (by decide +kernel) (by decide +kernel) ?_; repeat first
      | refine dc_nil ⟨rc_nil, ?_⟩
      | refine dc_skip (by rfl) (by rfl) (by rfl) (by simp only [putT, List.set_cons_zero, List.set_cons_succ]; rfl) ?_
      | refine dc_skipH (by rfl) (by rfl) (by simp only [putT, List.set_cons_zero, List.set_cons_succ]; rfl) ?_
      | refine dc_alloc (by rfl) (by rfl) (by exact TyIs.eq) (by simp only [Nat.add_assoc, Nat.reduceAdd]; rfl) (by exact getB_N (by first | exact hB | simpa only [List.length_set] using hB) (by rfl)) (by simp only [putT, List.set_cons_zero, List.set_cons_succ]; rfl) ?_
      | refine dc_read (by rfl) (by rfl) (by rfl) (oa_load (by rfl) (by rfl) (by exact TyIs.eq) (by rfl) (by first | exact getB_N (by first | exact hB | simpa only [List.length_set] using hB) (by rfl) | exact getB_old (by first | assumption | exact getB_S (by assumption))) (by simp only [List.getElem?_cons_succ, List.getElem?_cons_zero]; rfl)) (by simp only [putT, List.set_cons_zero, List.set_cons_succ]; rfl) ?_
        | refine dc_read (by rfl) (by rfl) (by rfl) (oa_loadA (by rfl) (by rfl) (by exact TyIs.eq) (by rfl) (by first | exact getB_N (by first | exact hB | simpa only [List.length_set] using hB) (by rfl) | exact getB_old (by first | assumption | exact getB_S (by assumption))) (Nat.le_of_ble_eq_true (by rfl)) (by simp only [List.drop_zero, List.drop_succ_cons, List.take_succ_cons, List.take_zero]; rfl)) (by simp only [putT, List.set_cons_zero, List.set_cons_succ]; rfl) ?_
        | refine dc_read (by rfl) (by rfl) (by rfl) (oa_fieldAddr (by rfl) (by rfl) (by exact TyIs.eq) (by rfl) (by rfl) (by exact TyIs.eq) (by decide) (by (try simp only [Nat.reduceAdd, Nat.zero_add, Nat.add_zero]); rfl)) (by simp only [putT, List.set_cons_zero, List.set_cons_succ]; rfl) ?_
        | refine dc_read (by rfl) (by rfl) (by rfl) (oa_convInt (by rfl) (by rfl) (by exact TyIs.eq) (by exact TyIs.eq) (by rfl)) (by simp only [putT, List.set_cons_zero, List.set_cons_succ]; rfl) ?_
        | refine dc_read (by rfl) (by rfl) (by rfl) (oa_lenS (by rfl) (by rfl) (by rfl) (by exact TyIs.eq) (by rfl)) (by simp only [putT, List.set_cons_zero, List.set_cons_succ]; rfl) ?_
        | refine dc_read (by rfl) (by rfl) (by rfl) (oa_lenStr (by rfl) (by rfl) (by rfl) (by exact TyIs.eq) (by rfl)) (by simp only [putT, List.set_cons_zero, List.set_cons_succ]; rfl) ?_
        | refine dc_read (by rfl) (by rfl) (by rfl) (oa_build (by rfl) (by rfl) (by exact TyIs.eq) (by rfl) (by simp only [offsL, TyIs.eq]; rfl) (by simp [fillL, cellsL, splice]; rfl)) (by simp only [putT, List.set_cons_zero, List.set_cons_succ]; rfl) ?_
        | refine dc_read (by rfl) (by rfl) (by rfl) (oa_field (by rfl) (by rfl) (by exact TyIs.eq) (by rfl) (by rfl) (by exact TyIs.eq) (by rfl) (by rfl)) (by simp only [putT, List.set_cons_zero, List.set_cons_succ]; rfl) ?_
      | refine dc_heap (by rfl) (by rfl) (does_op (oa_box (by rfl) (by first | exact hB | simpa only [List.length_set] using hB) (by exact TyIs.eq) (by rfl) (by simp only [cellsL]; rfl) (by simp only [List.all_cons, List.all_nil, flatV, Bool.and_true, Bool.true_and, Bool.and_self, Bool.false_and]; rfl) (by simp only [List.cons_append, List.nil_append]; rfl) (by simp only [List.length_cons, List.length_nil, Nat.reduceAdd, Nat.zero_add]; rfl))) (by simp only [putT, List.set_cons_zero, List.set_cons_succ]; rfl) ?_
        | refine dc_heap (by rfl) (by rfl) (does_op (oa_store (by rfl) (by first | exact hB | simpa only [List.length_set] using hB) (by rfl) (by rfl) (by exact TyIs.eq) (by simp only [cellsL]; rfl) (by rfl) (by rfl) (by rfl) (Nat.le_of_ble_eq_true (by rfl)) (by rfl) (fun _ => by rfl) (by simp only [splice, List.take_succ_cons, List.take_zero, List.drop_succ_cons, List.drop_zero, List.cons_append, List.nil_append, List.length_cons, List.length_nil, Nat.reduceAdd, Nat.zero_add]; rfl) (by simp only [List.set_cons_zero, List.set_cons_succ]; rfl))) (by simp only [putT, List.set_cons_zero, List.set_cons_succ]; rfl) ?_
        | refine dc_heap (by rfl) (by rfl) (does_op (oa_storeO (by rfl) (by rfl) (by rfl) (by exact TyIs.eq) (by simp only [cellsL]; rfl) (by rfl) (by first | assumption | exact getB_S (by assumption)) (by rfl) (Nat.le_of_ble_eq_true (by rfl)) (by rfl) (by rfl) (by simp only [splice, List.take_succ_cons, List.take_zero, List.drop_succ_cons, List.drop_zero, List.cons_append, List.nil_append, List.length_cons, List.length_nil, Nat.reduceAdd, Nat.zero_add]; rfl))) (by simp only [putT, List.set_cons_zero, List.set_cons_succ]; rfl) ?_
      | refine dc_read (by rfl) (by rfl) (by rfl) (by rfl) (by simp only [putT, List.set_cons_zero, List.set_cons_succ]; rfl) ?_)
  all_goals (refine ret_k (by first | exact .inr rfl | exact .inl rfl) ?_; (repeat (first | refine rk_nil ?_ | refine rk_tmp (by rfl) ?_ | refine rk_cell (by rfl) (by exact TyIs.eq) (by rfl) (by first | exact getB_N (by first | exact hB | simpa only [List.length_set] using hB) (by rfl) | exact getB_old (by first | assumption | exact getB_S (by assumption))) (by simp only [List.getElem?_cons_succ, List.getElem?_cons_zero]; rfl) ?_ | refine rk_cellA (by rfl) (by exact TyIs.eq) (by rfl) (by first | exact getB_N (by first | exact hB | simpa only [List.length_set] using hB) (by rfl) | exact getB_old (by first | assumption | exact getB_S (by assumption))) (Nat.le_of_ble_eq_true (by rfl)) (by simp only [List.drop_zero, List.drop_succ_cons, List.take_succ_cons, List.take_zero]; rfl) ?_)); refine retx_drop (by first | exact hB | simpa only [List.length_set] using hB) (by simp only [packR]; rfl) (by first | exact Lt.flat (by rfl) | exact Lt.aggF (by rfl) | exact Lt.tupleF (by rfl)) ?_)
  all_goals exact ⟨rfl, rfl⟩
theorem l00In_runs (H : Heap) (n a b : Int) : Runs Try.prog 69 [.int .i64 n, .int .i64 a, .int .i64 b] H (fun v H' => v = .bool (decide (a ≤ n) && decide (n ≤ b)) ∧ H' = H) := by
  refine fun_h 15 (fn := Try.f69) (by rfl) (by rfl) (by rfl) (by rfl) (by simp only [Try.f69]; rfl) (by simp only [List.length_cons, List.length_nil, Nat.reduceAdd, Nat.reduceSub, List.reduceReplicate, List.cons_append, List.nil_append]; rfl) ?_
  intro B hB
  repeat' first
    | refine Ex_seq ?_
    | refine Ex_region ?_
    | refine reg_plain ?_
    | refine reg_o (oa_alloc (by rfl) (by first | exact hB | simpa only [List.length_set] using hB) (by exact TyIs.eq) (by simp only [List.cons_append, List.nil_append]; rfl) (by simp only [List.length_cons, List.length_nil, Nat.reduceAdd, Nat.zero_add]; rfl)) (by simp only [putT, List.set_cons_zero, List.set_cons_succ]; rfl) ?_
    | refine reg_o (oa_box (by rfl) (by first | exact hB | simpa only [List.length_set] using hB) (by exact TyIs.eq) (by rfl) (by simp only [cellsL]; rfl) (by simp only [List.all_cons, List.all_nil, flatV, Bool.and_true, Bool.true_and, Bool.and_self, Bool.false_and]; rfl) (by simp only [List.cons_append, List.nil_append]; rfl) (by simp only [List.length_cons, List.length_nil, Nat.reduceAdd, Nat.zero_add]; rfl)) (by simp only [putT, List.set_cons_zero, List.set_cons_succ]; rfl) ?_
    | refine reg_o (oa_load (by rfl) (by rfl) (by exact TyIs.eq) (by rfl) (by first | exact getB_N (by first | exact hB | simpa only [List.length_set] using hB) (by rfl) | exact getB_old (by first | assumption | exact getB_S (by assumption))) (by simp only [List.getElem?_cons_succ, List.getElem?_cons_zero]; rfl)) (by simp only [putT, List.set_cons_zero, List.set_cons_succ]; rfl) ?_
    | refine reg_o (oa_loadA (by rfl) (by rfl) (by exact TyIs.eq) (by rfl) (by first | exact getB_N (by first | exact hB | simpa only [List.length_set] using hB) (by rfl) | exact getB_old (by first | assumption | exact getB_S (by assumption))) (Nat.le_of_ble_eq_true (by rfl)) (by simp only [List.drop_zero, List.drop_succ_cons, List.take_succ_cons, List.take_zero]; rfl)) (by simp only [putT, List.set_cons_zero, List.set_cons_succ]; rfl) ?_
    | refine reg_o (oa_fieldAddr (by rfl) (by rfl) (by exact TyIs.eq) (by rfl) (by rfl) (by exact TyIs.eq) (by decide) (by (try simp only [Nat.reduceAdd, Nat.zero_add, Nat.add_zero]); rfl)) (by simp only [putT, List.set_cons_zero, List.set_cons_succ]; rfl) ?_
    | refine reg_o (oa_store (by rfl) (by first | exact hB | simpa only [List.length_set] using hB) (by rfl) (by rfl) (by exact TyIs.eq) (by simp only [cellsL]; rfl) (by rfl) (by rfl) (by rfl) (Nat.le_of_ble_eq_true (by rfl)) (by rfl) (fun _ => by rfl) (by simp only [splice, List.take_succ_cons, List.take_zero, List.drop_succ_cons, List.drop_zero, List.cons_append, List.nil_append, List.length_cons, List.length_nil, Nat.reduceAdd, Nat.zero_add]; rfl) (by simp only [List.set_cons_zero, List.set_cons_succ]; rfl)) (by simp only [putT, List.set_cons_zero, List.set_cons_succ]; rfl) ?_
    | refine reg_o (oa_storeO (by rfl) (by rfl) (by rfl) (by exact TyIs.eq) (by simp only [cellsL]; rfl) (by rfl) (by first | assumption | exact getB_S (by assumption)) (by rfl) (Nat.le_of_ble_eq_true (by rfl)) (by rfl) (by rfl) (by simp only [splice, List.take_succ_cons, List.take_zero, List.drop_succ_cons, List.drop_zero, List.cons_append, List.nil_append, List.length_cons, List.length_nil, Nat.reduceAdd, Nat.zero_add]; rfl)) (by simp only [putT, List.set_cons_zero, List.set_cons_succ]; rfl) ?_
    | refine reg_o (oa_convInt (by rfl) (by rfl) (by exact TyIs.eq) (by exact TyIs.eq) (by rfl)) (by simp only [putT, List.set_cons_zero, List.set_cons_succ]; rfl) ?_
    | refine reg_o (oa_lenS (by rfl) (by rfl) (by rfl) (by exact TyIs.eq) (by rfl)) (by simp only [putT, List.set_cons_zero, List.set_cons_succ]; rfl) ?_
    | refine reg_o (oa_lenStr (by rfl) (by rfl) (by rfl) (by exact TyIs.eq) (by rfl)) (by simp only [putT, List.set_cons_zero, List.set_cons_succ]; rfl) ?_
    | refine reg_o (oa_build (by rfl) (by rfl) (by exact TyIs.eq) (by rfl) (by simp only [offsL, TyIs.eq]; rfl) (by simp [fillL, cellsL, splice]; rfl)) (by simp only [putT, List.set_cons_zero, List.set_cons_succ]; rfl) ?_
    | refine reg_o (oa_field (by rfl) (by rfl) (by exact TyIs.eq) (by rfl) (by rfl) (by exact TyIs.eq) (by rfl) (by rfl)) (by simp only [putT, List.set_cons_zero, List.set_cons_succ]; rfl) ?_
    | refine reg_o (by rfl) (by simp only [putT, List.set_cons_zero, List.set_cons_succ]; rfl) ?_
    | (refine reg_g (by rfl) ?_; first
      | with_reducible refine GS_tt ?_
      | with_reducible refine GS_ff ?_
      | with_reducible refine GS_tf (reg_u (by with_unfolding_all (simp only [putT, List.set_cons_zero, List.set_cons_succ]; rfl)) ?_)
      | with_reducible refine GS_ft (reg_u (by with_unfolding_all (simp only [putT, List.set_cons_zero, List.set_cons_succ]; rfl)) ?_)
      | ((with_reducible refine GS_bt (fun h => ?_) (fun h => reg_u (by with_unfolding_all (simp only [putT, List.set_cons_zero, List.set_cons_succ]; rfl)) ?_)) <;> (try rw [h]))
      | ((with_reducible refine GS_bf (fun h => ?_) (fun h => reg_u (by with_unfolding_all (simp only [putT, List.set_cons_zero, List.set_cons_succ]; rfl)) ?_)) <;> (try rw [h])))
    | refine reg_gn (by rfl) (reg_u (by simp only [putT, List.set_cons_zero, List.set_cons_succ]; rfl) ?_)
    | refine reg_nil ?_
    | (refine Ex_cond (by rfl) ?_; first
      | with_reducible refine Ex_t ?_
      | with_reducible refine Ex_f ?_
      | with_reducible refine Ex_b (fun h => ?_) (fun h => ?_))
    | refine Ex_block ?_
    | refine Ex_skip ?_
    | refine Ex_ret ?_
    | refine Ex_exit ?_
  all_goals (refine ret_k (by first | exact .inr rfl | exact .inl rfl) ?_; (repeat (first | refine rk_nil ?_ | refine rk_tmp (by rfl) ?_ | refine rk_cell (by rfl) (by exact TyIs.eq) (by rfl) (by first | exact getB_N (by first | exact hB | simpa only [List.length_set] using hB) (by rfl) | exact getB_old (by first | assumption | exact getB_S (by assumption))) (by simp only [List.getElem?_cons_succ, List.getElem?_cons_zero]; rfl) ?_ | refine rk_cellA (by rfl) (by exact TyIs.eq) (by rfl) (by first | exact getB_N (by first | exact hB | simpa only [List.length_set] using hB) (by rfl) | exact getB_old (by first | assumption | exact getB_S (by assumption))) (Nat.le_of_ble_eq_true (by rfl)) (by simp only [List.drop_zero, List.drop_succ_cons, List.take_succ_cons, List.take_zero]; rfl) ?_)); refine retx_drop (by first | exact hB | simpa only [List.length_set] using hB) (by simp only [packR]; rfl) (by first | exact Lt.flat (by rfl) | exact Lt.aggF (by rfl) | exact Lt.tupleF (by rfl)) ?_)
  all_goals simp_all
theorem within_runs (H : Heap) (n a b : Int) : Runs Try.prog 56 [.int .i64 n, .int .i64 a, .int .i64 b] H (fun v H' => v = .bool (decide (a ≤ n) && decide (n ≤ b)) ∧ H' = H) := by
  refine fun_h 15 (fn := Try.f56) (by rfl) (by rfl) (by rfl) (by rfl) (by simp only [Try.f56]; rfl) (by simp only [List.length_cons, List.length_nil, Nat.reduceAdd, Nat.reduceSub, List.reduceReplicate, List.cons_append, List.nil_append]; rfl) ?_
  intro B hB
  repeat' first
    | refine Ex_seq ?_
    | refine Ex_region ?_
    | refine reg_plain ?_
    | refine reg_o (oa_alloc (by rfl) (by first | exact hB | simpa only [List.length_set] using hB) (by exact TyIs.eq) (by simp only [List.cons_append, List.nil_append]; rfl) (by simp only [List.length_cons, List.length_nil, Nat.reduceAdd, Nat.zero_add]; rfl)) (by simp only [putT, List.set_cons_zero, List.set_cons_succ]; rfl) ?_
    | refine reg_o (oa_box (by rfl) (by first | exact hB | simpa only [List.length_set] using hB) (by exact TyIs.eq) (by rfl) (by simp only [cellsL]; rfl) (by simp only [List.all_cons, List.all_nil, flatV, Bool.and_true, Bool.true_and, Bool.and_self, Bool.false_and]; rfl) (by simp only [List.cons_append, List.nil_append]; rfl) (by simp only [List.length_cons, List.length_nil, Nat.reduceAdd, Nat.zero_add]; rfl)) (by simp only [putT, List.set_cons_zero, List.set_cons_succ]; rfl) ?_
    | refine reg_o (oa_load (by rfl) (by rfl) (by exact TyIs.eq) (by rfl) (by first | exact getB_N (by first | exact hB | simpa only [List.length_set] using hB) (by rfl) | exact getB_old (by first | assumption | exact getB_S (by assumption))) (by simp only [List.getElem?_cons_succ, List.getElem?_cons_zero]; rfl)) (by simp only [putT, List.set_cons_zero, List.set_cons_succ]; rfl) ?_
    | refine reg_o (oa_loadA (by rfl) (by rfl) (by exact TyIs.eq) (by rfl) (by first | exact getB_N (by first | exact hB | simpa only [List.length_set] using hB) (by rfl) | exact getB_old (by first | assumption | exact getB_S (by assumption))) (Nat.le_of_ble_eq_true (by rfl)) (by simp only [List.drop_zero, List.drop_succ_cons, List.take_succ_cons, List.take_zero]; rfl)) (by simp only [putT, List.set_cons_zero, List.set_cons_succ]; rfl) ?_
    | refine reg_o (oa_fieldAddr (by rfl) (by rfl) (by exact TyIs.eq) (by rfl) (by rfl) (by exact TyIs.eq) (by decide) (by (try simp only [Nat.reduceAdd, Nat.zero_add, Nat.add_zero]); rfl)) (by simp only [putT, List.set_cons_zero, List.set_cons_succ]; rfl) ?_
    | refine reg_o (oa_store (by rfl) (by first | exact hB | simpa only [List.length_set] using hB) (by rfl) (by rfl) (by exact TyIs.eq) (by simp only [cellsL]; rfl) (by rfl) (by rfl) (by rfl) (Nat.le_of_ble_eq_true (by rfl)) (by rfl) (fun _ => by rfl) (by simp only [splice, List.take_succ_cons, List.take_zero, List.drop_succ_cons, List.drop_zero, List.cons_append, List.nil_append, List.length_cons, List.length_nil, Nat.reduceAdd, Nat.zero_add]; rfl) (by simp only [List.set_cons_zero, List.set_cons_succ]; rfl)) (by simp only [putT, List.set_cons_zero, List.set_cons_succ]; rfl) ?_
    | refine reg_o (oa_storeO (by rfl) (by rfl) (by rfl) (by exact TyIs.eq) (by simp only [cellsL]; rfl) (by rfl) (by first | assumption | exact getB_S (by assumption)) (by rfl) (Nat.le_of_ble_eq_true (by rfl)) (by rfl) (by rfl) (by simp only [splice, List.take_succ_cons, List.take_zero, List.drop_succ_cons, List.drop_zero, List.cons_append, List.nil_append, List.length_cons, List.length_nil, Nat.reduceAdd, Nat.zero_add]; rfl)) (by simp only [putT, List.set_cons_zero, List.set_cons_succ]; rfl) ?_
    | refine reg_o (oa_convInt (by rfl) (by rfl) (by exact TyIs.eq) (by exact TyIs.eq) (by rfl)) (by simp only [putT, List.set_cons_zero, List.set_cons_succ]; rfl) ?_
    | refine reg_o (oa_lenS (by rfl) (by rfl) (by rfl) (by exact TyIs.eq) (by rfl)) (by simp only [putT, List.set_cons_zero, List.set_cons_succ]; rfl) ?_
    | refine reg_o (oa_lenStr (by rfl) (by rfl) (by rfl) (by exact TyIs.eq) (by rfl)) (by simp only [putT, List.set_cons_zero, List.set_cons_succ]; rfl) ?_
    | refine reg_o (oa_build (by rfl) (by rfl) (by exact TyIs.eq) (by rfl) (by simp only [offsL, TyIs.eq]; rfl) (by simp [fillL, cellsL, splice]; rfl)) (by simp only [putT, List.set_cons_zero, List.set_cons_succ]; rfl) ?_
    | refine reg_o (oa_field (by rfl) (by rfl) (by exact TyIs.eq) (by rfl) (by rfl) (by exact TyIs.eq) (by rfl) (by rfl)) (by simp only [putT, List.set_cons_zero, List.set_cons_succ]; rfl) ?_
    | refine reg_o (by rfl) (by simp only [putT, List.set_cons_zero, List.set_cons_succ]; rfl) ?_
    | (refine reg_g (by rfl) ?_; first
      | with_reducible refine GS_tt ?_
      | with_reducible refine GS_ff ?_
      | with_reducible refine GS_tf (reg_u (by with_unfolding_all (simp only [putT, List.set_cons_zero, List.set_cons_succ]; rfl)) ?_)
      | with_reducible refine GS_ft (reg_u (by with_unfolding_all (simp only [putT, List.set_cons_zero, List.set_cons_succ]; rfl)) ?_)
      | ((with_reducible refine GS_bt (fun h => ?_) (fun h => reg_u (by with_unfolding_all (simp only [putT, List.set_cons_zero, List.set_cons_succ]; rfl)) ?_)) <;> (try rw [h]))
      | ((with_reducible refine GS_bf (fun h => ?_) (fun h => reg_u (by with_unfolding_all (simp only [putT, List.set_cons_zero, List.set_cons_succ]; rfl)) ?_)) <;> (try rw [h])))
    | refine reg_gn (by rfl) (reg_u (by simp only [putT, List.set_cons_zero, List.set_cons_succ]; rfl) ?_)
    | refine reg_nil ?_
    | (refine Ex_cond (by rfl) ?_; first
      | with_reducible refine Ex_t ?_
      | with_reducible refine Ex_f ?_
      | with_reducible refine Ex_b (fun h => ?_) (fun h => ?_))
    | refine Ex_block ?_
    | refine Ex_skip ?_
    | refine Ex_ret ?_
    | refine Ex_exit ?_
  all_goals (refine ret_k (by first | exact .inr rfl | exact .inl rfl) ?_; (repeat (first | refine rk_nil ?_ | refine rk_tmp (by rfl) ?_ | refine rk_cell (by rfl) (by exact TyIs.eq) (by rfl) (by first | exact getB_N (by first | exact hB | simpa only [List.length_set] using hB) (by rfl) | exact getB_old (by first | assumption | exact getB_S (by assumption))) (by simp only [List.getElem?_cons_succ, List.getElem?_cons_zero]; rfl) ?_ | refine rk_cellA (by rfl) (by exact TyIs.eq) (by rfl) (by first | exact getB_N (by first | exact hB | simpa only [List.length_set] using hB) (by rfl) | exact getB_old (by first | assumption | exact getB_S (by assumption))) (Nat.le_of_ble_eq_true (by rfl)) (by simp only [List.drop_zero, List.drop_succ_cons, List.take_succ_cons, List.take_zero]; rfl) ?_)); refine retx_drop (by first | exact hB | simpa only [List.length_set] using hB) (by simp only [packR]; rfl) (by first | exact Lt.flat (by rfl) | exact Lt.aggF (by rfl) | exact Lt.tupleF (by rfl)) ?_)
  all_goals simp_all
end Go.Proofs.Ytlnkffnabifedaa.Eng
