/- A text of this claim (F4): lemmas for the proof, no conditions of their own. -/
import Derived.Test.YtlnkffnabifedaaF3
set_option linter.unusedVariables false
set_option linter.unusedSimpArgs false
namespace Go.Proofs.Ytlnkffnabifedaa.Eng
open Go Go.RowKit
set_option maxRecDepth 100000
theorem law_runs (H : Heap) (s : ByteArray) (x y : Int) (c : Bool) (hx : i16 x) (hy : i16 y) (hs0 : s.size < 4611686018427387904) : Runs Try.prog 3 [.agg ⟨rdr s x y c⟩] H (fun v H' => v = .bool true ∧ H' = H) := by
  have hsz : ∀ H, Runs Try.prog 10 [.agg ⟨rdr s x y c⟩, .int .i64 1048576] H (fun v H' => v = .int .i64 (if IntKind.i64.wrap (1048576 - s.size) < 0 then -1 else IntKind.i64.wrap (1048576 - s.size)) ∧ H' = H) := fun H => szReader_runs H s x y c 1048576
  have hI := fun H (hs : s.size ≤ 4611686018427387904) => validReaderI_runs H s x y c hs hx hy
  have hS := fun H (hs : s.size ≤ 4611686018427387904) => validReaderS_runs H s x y c hs hx hy
  have hR := fun H => toReader_runs H s x y c
  generalize hb : (wordB s && guessB x y) = b at hI hS
  unfold rdr at *
  refine fun_h 20 (fn := Try.f3) (by rfl) (by rfl) (by rfl) (by rfl) (by simp only [Try.f3]; rfl) (by simp only [List.length_cons, List.length_nil, Nat.reduceAdd, Nat.reduceSub, List.reduceReplicate, List.cons_append, List.nil_append]; rfl) ?_
  intro B hB
  repeat' first
    | refine Ex_seq ?_
    | refine Ex_region ?_
    | refine reg_plain ?_
    | refine op_call (by rfl) (by rfl) (by rfl) (by rfl) (hsz _) (reg_k (by simp only [putT, List.set_cons_zero, List.set_cons_succ]; rfl) ?_)
    | refine op_call (by rfl) (by rfl) (by rfl) (by rfl) (hR _) (reg_k (by simp only [putT, List.set_cons_zero, List.set_cons_succ]; rfl) ?_)
    | refine op_call (by rfl) (by rfl) (by rfl) (by rfl) (hI _ (by omega)) (reg_k (by simp only [putT, List.set_cons_zero, List.set_cons_succ]; rfl) ?_)
    | refine op_call (by rfl) (by rfl) (by rfl) (by rfl) (hS _ (by omega)) (reg_k (by simp only [putT, List.set_cons_zero, List.set_cons_succ]; rfl) ?_)
    | refine reg_o (oa_alloc (by rfl) (by first | exact hB | simpa only [List.length_set] using hB) (by exact TyIs.eq) (by simp only [List.cons_append, List.nil_append]; rfl) (by simp only [List.length_cons, List.length_nil, Nat.reduceAdd, Nat.zero_add]; rfl)) (by simp only [putT, List.set_cons_zero, List.set_cons_succ]; rfl) ?_
    | refine reg_o (oa_box (by rfl) (by first | exact hB | simpa only [List.length_set] using hB) (by exact TyIs.eq) (by rfl) (by simp only [cellsL]; rfl) (by simp only [List.all_cons, List.all_nil, flatV, Bool.and_true, Bool.true_and, Bool.and_self, Bool.false_and]; rfl) (by simp only [List.cons_append, List.nil_append]; rfl) (by simp only [List.length_cons, List.length_nil, Nat.reduceAdd, Nat.zero_add]; rfl)) (by simp only [putT, List.set_cons_zero, List.set_cons_succ]; rfl) ?_
    | refine reg_o (oa_load (by rfl) (by rfl) (by exact TyIs.eq) (by rfl) (by first | exact getB_N (by first | exact hB | simpa only [List.length_set] using hB) (by rfl) | exact getB_old (by first | assumption | exact getB_S (by assumption))) (by simp only [List.getElem?_cons_succ, List.getElem?_cons_zero]; rfl)) (by simp only [putT, List.set_cons_zero, List.set_cons_succ]; rfl) ?_
    | refine reg_o (oa_loadA (by rfl) (by rfl) (by exact TyIs.eq) (by rfl) (by first | exact getB_N (by first | exact hB | simpa only [List.length_set] using hB) (by rfl) | exact getB_old (by first | assumption | exact getB_S (by assumption))) (Nat.le_of_ble_eq_true (by rfl)) (by simp only [List.drop_zero, List.drop_succ_cons, List.take_succ_cons, List.take_zero]; rfl)) (by simp only [putT, List.set_cons_zero, List.set_cons_succ]; rfl) ?_
    | refine reg_o (oa_fieldAddr (by rfl) (by rfl) (by exact TyIs.eq) (by rfl) (by rfl) (by exact TyIs.eq) (by decide) (by (try simp only [Nat.reduceAdd, Nat.zero_add, Nat.add_zero]); rfl)) (by simp only [putT, List.set_cons_zero, List.set_cons_succ]; rfl) ?_
    | refine reg_o (oa_store (by rfl) (by first | exact hB | simpa only [List.length_set] using hB) (by rfl) (by rfl) (by exact TyIs.eq) (by simp only [cellsL]; rfl) (by rfl) (by rfl) (by rfl) (Nat.le_of_ble_eq_true (by rfl)) (by rfl) (fun _ => by rfl) (by simp only [splice, List.take_succ_cons, List.take_zero, List.drop_succ_cons, List.drop_zero, List.cons_append, List.nil_append, List.length_cons, List.length_nil, Nat.reduceAdd, Nat.zero_add]; rfl) (by simp only [List.set_cons_zero, List.set_cons_succ]; rfl)) (by simp only [putT, List.set_cons_zero, List.set_cons_succ]; rfl) ?_
    | refine reg_o (oa_storeO (by rfl) (by rfl) (by rfl) (by exact TyIs.eq) (by simp only [cellsL]; rfl) (by rfl) (by first | assumption | exact getB_S (by assumption)) (by rfl) (Nat.le_of_ble_eq_true (by rfl)) (by rfl) (by rfl) (by simp only [splice, List.take_succ_cons, List.take_zero, List.drop_succ_cons, List.drop_zero, List.cons_append, List.nil_append, List.length_cons, List.length_nil, Nat.reduceAdd, Nat.zero_add]; rfl)) (by simp only [putT, List.set_cons_zero, List.set_cons_succ]; rfl) ?_
    | refine reg_o (oa_convInt (by rfl) (by rfl) (by exact TyIs.eq) (by exact TyIs.eq) (by rfl)) (by simp only [putT, List.set_cons_zero, List.set_cons_succ]; rfl) ?_
    | refine reg_o (oa_lenS (by rfl) (by rfl) (by rfl) (by exact TyIs.eq) (by rfl)) (by simp only [putT, List.set_cons_zero, List.set_cons_succ]; rfl) ?_
    | refine reg_o (oa_lenStr (by rfl) (by rfl) (by rfl) (by exact TyIs.eq) (by rfl)) (by simp only [putT, List.set_cons_zero, List.set_cons_succ]; rfl) ?_
    | refine reg_o (oa_build (by rfl) (by rfl) (by exact TyIs.eq) (by rfl) (by simp only [offsL, TyIs.eq]; rfl) (by simp [fillL, cellsL, splice]; rfl)) (by simp only [putT, List.set_cons_zero, List.set_cons_succ]; rfl) ?_
    | refine reg_o (oa_field (by rfl) (by rfl) (by exact TyIs.eq) (by rfl) (by rfl) (by exact TyIs.eq) (by rfl) (by rfl)) (by simp only [putT, List.set_cons_zero, List.set_cons_succ]; rfl) ?_
    | refine reg_o (by rfl) (by simp only [putT, List.set_cons_zero, List.set_cons_succ]; rfl) ?_
    | (refine reg_g (by rfl) ?_; first
      | with_reducible refine GS_tt ?_
      | with_reducible refine GS_ff ?_
      | with_reducible refine GS_tf (reg_u (by with_unfolding_all (simp only [putT, List.set_cons_zero, List.set_cons_succ]; rfl)) ?_)
      | with_reducible refine GS_ft (reg_u (by with_unfolding_all (simp only [putT, List.set_cons_zero, List.set_cons_succ]; rfl)) ?_)
      | ((with_reducible refine GS_bt (fun h => ?_) (fun h => reg_u (by with_unfolding_all (simp only [putT, List.set_cons_zero, List.set_cons_succ]; rfl)) ?_)) <;> (try rw [h]))
      | ((with_reducible refine GS_bf (fun h => ?_) (fun h => reg_u (by with_unfolding_all (simp only [putT, List.set_cons_zero, List.set_cons_succ]; rfl)) ?_)) <;> (try rw [h])))
    | refine reg_gn (by rfl) (reg_u (by simp only [putT, List.set_cons_zero, List.set_cons_succ]; rfl) ?_)
    | refine reg_nil ?_
    | (refine Ex_cond (by rfl) ?_; first
      | with_reducible refine Ex_t ?_
      | with_reducible refine Ex_f ?_
      | with_reducible refine Ex_b (fun h => ?_) (fun h => ?_))
    | refine Ex_block ?_
    | refine Ex_skip ?_
    | refine Ex_ret ?_
    | refine Ex_exit ?_
  all_goals first
    | ((refine ret_k (by first | exact .inr rfl | exact .inl rfl) ?_; (repeat (first | refine rk_nil ?_ | refine rk_tmp (by rfl) ?_ | refine rk_cell (by rfl) (by exact TyIs.eq) (by rfl) (by first | exact getB_N (by first | exact hB | simpa only [List.length_set] using hB) (by rfl) | exact getB_old (by first | assumption | exact getB_S (by assumption))) (by simp only [List.getElem?_cons_succ, List.getElem?_cons_zero]; rfl) ?_ | refine rk_cellA (by rfl) (by exact TyIs.eq) (by rfl) (by first | exact getB_N (by first | exact hB | simpa only [List.length_set] using hB) (by rfl) | exact getB_old (by first | assumption | exact getB_S (by assumption))) (Nat.le_of_ble_eq_true (by rfl)) (by simp only [List.drop_zero, List.drop_succ_cons, List.take_succ_cons, List.take_zero]; rfl) ?_)); refine retx_drop (by first | exact hB | simpa only [List.length_set] using hB) (by simp only [packR]; rfl) (by first | exact Lt.flat (by rfl) | exact Lt.aggF (by rfl) | exact Lt.tupleF (by rfl)) ?_)
       exact ⟨rfl, rfl⟩)
    | (simp at h; done)
    | trace_state
theorem law_big (H : Heap) (s : ByteArray) (x y : Int) (c : Bool) (hb : 1048576 < s.size) (hs0 : (s.size : Int) ≤ 9223372036854775807) : Runs Try.prog 3 [.agg ⟨rdr s x y c⟩] H (fun v H' => v = .bool true ∧ H' = H) := by
  have hsz : ∀ H, Runs Try.prog 10 [.agg ⟨rdr s x y c⟩, .int .i64 1048576] H (fun v H' => v = .int .i64 (-1) ∧ H' = H) := fun H => (szReader_runs H s x y c 1048576).mono fun v H' ⟨h1, h2⟩ => ⟨by rw [h1, wrap64_id (by omega), if_pos (by omega)], h2⟩
  unfold rdr at *
  refine fun_h 20 (fn := Try.f3) (by rfl) (by rfl) (by rfl) (by rfl) (by simp only [Try.f3]; rfl) (by simp only [List.length_cons, List.length_nil, Nat.reduceAdd, Nat.reduceSub, List.reduceReplicate, List.cons_append, List.nil_append]; rfl) ?_
  intro B hB
  repeat' first
    | refine Ex_seq ?_
    | refine Ex_region ?_
    | refine reg_plain ?_
    | refine op_call (by rfl) (by rfl) (by rfl) (by rfl) (hsz _) (reg_k (by simp only [putT, List.set_cons_zero, List.set_cons_succ]; rfl) ?_)
    | refine reg_o (oa_alloc (by rfl) (by first | exact hB | simpa only [List.length_set] using hB) (by exact TyIs.eq) (by simp only [List.cons_append, List.nil_append]; rfl) (by simp only [List.length_cons, List.length_nil, Nat.reduceAdd, Nat.zero_add]; rfl)) (by simp only [putT, List.set_cons_zero, List.set_cons_succ]; rfl) ?_
    | refine reg_o (oa_box (by rfl) (by first | exact hB | simpa only [List.length_set] using hB) (by exact TyIs.eq) (by rfl) (by simp only [cellsL]; rfl) (by simp only [List.all_cons, List.all_nil, flatV, Bool.and_true, Bool.true_and, Bool.and_self, Bool.false_and]; rfl) (by simp only [List.cons_append, List.nil_append]; rfl) (by simp only [List.length_cons, List.length_nil, Nat.reduceAdd, Nat.zero_add]; rfl)) (by simp only [putT, List.set_cons_zero, List.set_cons_succ]; rfl) ?_
    | refine reg_o (oa_load (by rfl) (by rfl) (by exact TyIs.eq) (by rfl) (by first | exact getB_N (by first | exact hB | simpa only [List.length_set] using hB) (by rfl) | exact getB_old (by first | assumption | exact getB_S (by assumption))) (by simp only [List.getElem?_cons_succ, List.getElem?_cons_zero]; rfl)) (by simp only [putT, List.set_cons_zero, List.set_cons_succ]; rfl) ?_
    | refine reg_o (oa_loadA (by rfl) (by rfl) (by exact TyIs.eq) (by rfl) (by first | exact getB_N (by first | exact hB | simpa only [List.length_set] using hB) (by rfl) | exact getB_old (by first | assumption | exact getB_S (by assumption))) (Nat.le_of_ble_eq_true (by rfl)) (by simp only [List.drop_zero, List.drop_succ_cons, List.take_succ_cons, List.take_zero]; rfl)) (by simp only [putT, List.set_cons_zero, List.set_cons_succ]; rfl) ?_
    | refine reg_o (oa_fieldAddr (by rfl) (by rfl) (by exact TyIs.eq) (by rfl) (by rfl) (by exact TyIs.eq) (by decide) (by (try simp only [Nat.reduceAdd, Nat.zero_add, Nat.add_zero]); rfl)) (by simp only [putT, List.set_cons_zero, List.set_cons_succ]; rfl) ?_
    | refine reg_o (oa_store (by rfl) (by first | exact hB | simpa only [List.length_set] using hB) (by rfl) (by rfl) (by exact TyIs.eq) (by simp only [cellsL]; rfl) (by rfl) (by rfl) (by rfl) (Nat.le_of_ble_eq_true (by rfl)) (by rfl) (fun _ => by rfl) (by simp only [splice, List.take_succ_cons, List.take_zero, List.drop_succ_cons, List.drop_zero, List.cons_append, List.nil_append, List.length_cons, List.length_nil, Nat.reduceAdd, Nat.zero_add]; rfl) (by simp only [List.set_cons_zero, List.set_cons_succ]; rfl)) (by simp only [putT, List.set_cons_zero, List.set_cons_succ]; rfl) ?_
    | refine reg_o (oa_storeO (by rfl) (by rfl) (by rfl) (by exact TyIs.eq) (by simp only [cellsL]; rfl) (by rfl) (by first | assumption | exact getB_S (by assumption)) (by rfl) (Nat.le_of_ble_eq_true (by rfl)) (by rfl) (by rfl) (by simp only [splice, List.take_succ_cons, List.take_zero, List.drop_succ_cons, List.drop_zero, List.cons_append, List.nil_append, List.length_cons, List.length_nil, Nat.reduceAdd, Nat.zero_add]; rfl)) (by simp only [putT, List.set_cons_zero, List.set_cons_succ]; rfl) ?_
    | refine reg_o (oa_convInt (by rfl) (by rfl) (by exact TyIs.eq) (by exact TyIs.eq) (by rfl)) (by simp only [putT, List.set_cons_zero, List.set_cons_succ]; rfl) ?_
    | refine reg_o (oa_lenS (by rfl) (by rfl) (by rfl) (by exact TyIs.eq) (by rfl)) (by simp only [putT, List.set_cons_zero, List.set_cons_succ]; rfl) ?_
    | refine reg_o (oa_lenStr (by rfl) (by rfl) (by rfl) (by exact TyIs.eq) (by rfl)) (by simp only [putT, List.set_cons_zero, List.set_cons_succ]; rfl) ?_
    | refine reg_o (oa_build (by rfl) (by rfl) (by exact TyIs.eq) (by rfl) (by simp only [offsL, TyIs.eq]; rfl) (by simp [fillL, cellsL, splice]; rfl)) (by simp only [putT, List.set_cons_zero, List.set_cons_succ]; rfl) ?_
    | refine reg_o (oa_field (by rfl) (by rfl) (by exact TyIs.eq) (by rfl) (by rfl) (by exact TyIs.eq) (by rfl) (by rfl)) (by simp only [putT, List.set_cons_zero, List.set_cons_succ]; rfl) ?_
    | refine reg_o (by rfl) (by simp only [putT, List.set_cons_zero, List.set_cons_succ]; rfl) ?_
    | (refine reg_g (by rfl) ?_; first
      | with_reducible refine GS_tt ?_
      | with_reducible refine GS_ff ?_
      | with_reducible refine GS_tf (reg_u (by with_unfolding_all (simp only [putT, List.set_cons_zero, List.set_cons_succ]; rfl)) ?_)
      | with_reducible refine GS_ft (reg_u (by with_unfolding_all (simp only [putT, List.set_cons_zero, List.set_cons_succ]; rfl)) ?_)
      | ((with_reducible refine GS_bt (fun h => ?_) (fun h => reg_u (by with_unfolding_all (simp only [putT, List.set_cons_zero, List.set_cons_succ]; rfl)) ?_)) <;> (try rw [h]))
      | ((with_reducible refine GS_bf (fun h => ?_) (fun h => reg_u (by with_unfolding_all (simp only [putT, List.set_cons_zero, List.set_cons_succ]; rfl)) ?_)) <;> (try rw [h])))
    | refine reg_gn (by rfl) (reg_u (by simp only [putT, List.set_cons_zero, List.set_cons_succ]; rfl) ?_)
    | refine reg_nil ?_
    | (refine Ex_cond (by rfl) ?_; first
      | with_reducible refine Ex_t ?_
      | with_reducible refine Ex_f ?_
      | with_reducible refine Ex_b (fun h => ?_) (fun h => ?_))
    | refine Ex_block ?_
    | refine Ex_skip ?_
    | refine Ex_ret ?_
    | refine Ex_exit ?_
  all_goals first
    | ((refine ret_k (by first | exact .inr rfl | exact .inl rfl) ?_; (repeat (first | refine rk_nil ?_ | refine rk_tmp (by rfl) ?_ | refine rk_cell (by rfl) (by exact TyIs.eq) (by rfl) (by first | exact getB_N (by first | exact hB | simpa only [List.length_set] using hB) (by rfl) | exact getB_old (by first | assumption | exact getB_S (by assumption))) (by simp only [List.getElem?_cons_succ, List.getElem?_cons_zero]; rfl) ?_ | refine rk_cellA (by rfl) (by exact TyIs.eq) (by rfl) (by first | exact getB_N (by first | exact hB | simpa only [List.length_set] using hB) (by rfl) | exact getB_old (by first | assumption | exact getB_S (by assumption))) (Nat.le_of_ble_eq_true (by rfl)) (by simp only [List.drop_zero, List.drop_succ_cons, List.take_succ_cons, List.take_zero]; rfl) ?_)); refine retx_drop (by first | exact hB | simpa only [List.length_set] using hB) (by simp only [packR]; rfl) (by first | exact Lt.flat (by rfl) | exact Lt.aggF (by rfl) | exact Lt.tupleF (by rfl)) ?_)
       exact ⟨rfl, rfl⟩)
    | (simp at h; done)
    | trace_state
theorem law_all (H : Heap) (s : ByteArray) (x y : Int) (c : Bool) (hx : i16 x) (hy : i16 y) (hs0 : (s.size : Int) ≤ 9223372036854775807) : Runs Try.prog 3 [.agg ⟨rdr s x y c⟩] H (fun v H' => v = .bool true ∧ H' = H) := by
  by_cases hb : s.size ≤ 1048576
  · exact law_runs H s x y c hx hy (by omega)
  · exact law_big H s x y c (by omega) hs0
end Go.Proofs.Ytlnkffnabifedaa.Eng
