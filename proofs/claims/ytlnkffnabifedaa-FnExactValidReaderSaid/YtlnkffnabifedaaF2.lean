/- A text of this claim (F2): lemmas for the proof, no conditions of their own. -/
import Derived.Test.YtlnkffnabifedaaF1
set_option linter.unusedVariables false
set_option linter.unusedSimpArgs false
namespace Go.Proofs.Ytlnkffnabifedaa.Eng
open Go Go.RowKit
set_option maxRecDepth 100000
def letter (c : UInt8) : Bool := !(decide ((c.toNat : Int) < 97)) && !(decide ((122 : Int) < c.toNat))
theorem all_not {l : List UInt8} {i : Nat} {c : UInt8} (h : l[i]? = some c) (hc : letter c = false) : l.all letter = false := by
  rw [List.all_eq_false]
  exact ⟨c, List.mem_of_getElem? h, by simp [hc]⟩
theorem all_yes {l : List UInt8} (h : ∀ j c, j < l.length → l[j]? = some c → letter c = true) : l.all letter = true := by
  rw [List.all_eq_true]
  intro c hc
  obtain ⟨j, hj⟩ := List.mem_iff_getElem?.1 hc
  exact h j c (List.getElem?_eq_some_iff.1 hj).1 hj
theorem isWord_runs (H : Heap) (s : ByteArray) (hs : s.size ≤ 4611686018427387904) : Runs Try.prog 32 [.string s] H (fun v H' => v = .bool (s.data.toList.all letter && (decide (1 ≤ (s.size : Int)) && decide ((s.size : Int) ≤ 12))) ∧ H' = H) := by
  refine fun_h 23 (fn := Try.f32) (by rfl) (by rfl) (by rfl) (by rfl) (by simp only [Try.f32]; rfl) (by simp only [List.length_cons, List.length_nil, Nat.reduceAdd, Nat.reduceSub, List.reduceReplicate, List.cons_append, List.nil_append]; rfl) ?_
  intro B hB
  repeat' first
    | refine Ex_seq ?_
    | refine Ex_region ?_
    | refine reg_plain ?_
    | refine reg_o (oa_alloc (by rfl) (by first | exact hB | simpa only [List.length_set] using hB) (by exact TyIs.eq) (by simp only [List.cons_append, List.nil_append]; rfl) (by simp only [List.length_cons, List.length_nil, Nat.reduceAdd, Nat.zero_add]; rfl)) (by simp only [putT, List.set_cons_zero, List.set_cons_succ]; rfl) ?_
    | refine reg_o (oa_box (by rfl) (by first | exact hB | simpa only [List.length_set] using hB) (by exact TyIs.eq) (by rfl) (by simp only [cellsL]; rfl) (by simp only [List.all_cons, List.all_nil, flatV, Bool.and_true, Bool.true_and, Bool.and_self, Bool.false_and]; rfl) (by simp only [List.cons_append, List.nil_append]; rfl) (by simp only [List.length_cons, List.length_nil, Nat.reduceAdd, Nat.zero_add]; rfl)) (by simp only [putT, List.set_cons_zero, List.set_cons_succ]; rfl) ?_
    | refine reg_o (oa_load (by rfl) (by rfl) (by exact TyIs.eq) (by rfl) (by first | exact getB_N (by first | exact hB | simpa only [List.length_set] using hB) (by rfl) | exact getB_old (by first | assumption | exact getB_S (by assumption))) (by simp only [List.getElem?_cons_succ, List.getElem?_cons_zero]; rfl)) (by simp only [putT, List.set_cons_zero, List.set_cons_succ]; rfl) ?_
    | refine reg_o (oa_loadA (by rfl) (by rfl) (by exact TyIs.eq) (by rfl) (by first | exact getB_N (by first | exact hB | simpa only [List.length_set] using hB) (by rfl) | exact getB_old (by first | assumption | exact getB_S (by assumption))) (Nat.le_of_ble_eq_true (by rfl)) (by simp only [List.drop_zero, List.drop_succ_cons, List.take_succ_cons, List.take_zero]; rfl)) (by simp only [putT, List.set_cons_zero, List.set_cons_succ]; rfl) ?_
    | refine reg_o (oa_fieldAddr (by rfl) (by rfl) (by exact TyIs.eq) (by rfl) (by rfl) (by exact TyIs.eq) (by decide) (by (try simp only [Nat.reduceAdd, Nat.zero_add, Nat.add_zero]); rfl)) (by simp only [putT, List.set_cons_zero, List.set_cons_succ]; rfl) ?_
    | refine reg_o (oa_store (by rfl) (by first | exact hB | simpa only [List.length_set] using hB) (by rfl) (by rfl) (by exact TyIs.eq) (by simp only [cellsL]; rfl) (by rfl) (by rfl) (by rfl) (Nat.le_of_ble_eq_true (by rfl)) (by rfl) (fun _ => by rfl) (by simp only [splice, List.take_succ_cons, List.take_zero, List.drop_succ_cons, List.drop_zero, List.cons_append, List.nil_append, List.length_cons, List.length_nil, Nat.reduceAdd, Nat.zero_add]; rfl) (by simp only [List.set_cons_zero, List.set_cons_succ]; rfl)) (by simp only [putT, List.set_cons_zero, List.set_cons_succ]; rfl) ?_
    | refine reg_o (oa_storeO (by rfl) (by rfl) (by rfl) (by exact TyIs.eq) (by simp only [cellsL]; rfl) (by rfl) (by first | assumption | exact getB_S (by assumption)) (by rfl) (Nat.le_of_ble_eq_true (by rfl)) (by rfl) (by rfl) (by simp only [splice, List.take_succ_cons, List.take_zero, List.drop_succ_cons, List.drop_zero, List.cons_append, List.nil_append, List.length_cons, List.length_nil, Nat.reduceAdd, Nat.zero_add]; rfl)) (by simp only [putT, List.set_cons_zero, List.set_cons_succ]; rfl) ?_
    | refine reg_o (oa_convInt (by rfl) (by rfl) (by exact TyIs.eq) (by exact TyIs.eq) (by rfl)) (by simp only [putT, List.set_cons_zero, List.set_cons_succ]; rfl) ?_
    | refine reg_o (oa_lenS (by rfl) (by rfl) (by rfl) (by exact TyIs.eq) (by rfl)) (by simp only [putT, List.set_cons_zero, List.set_cons_succ]; rfl) ?_
    | refine reg_o (oa_lenStr (by rfl) (by rfl) (by rfl) (by exact TyIs.eq) (by rfl)) (by simp only [putT, List.set_cons_zero, List.set_cons_succ]; rfl) ?_
    | refine reg_o (oa_build (by rfl) (by rfl) (by exact TyIs.eq) (by rfl) (by simp only [offsL, TyIs.eq]; rfl) (by simp [fillL, cellsL, splice]; rfl)) (by simp only [putT, List.set_cons_zero, List.set_cons_succ]; rfl) ?_
    | refine reg_o (oa_field (by rfl) (by rfl) (by exact TyIs.eq) (by rfl) (by rfl) (by exact TyIs.eq) (by rfl) (by rfl)) (by simp only [putT, List.set_cons_zero, List.set_cons_succ]; rfl) ?_
    | refine reg_o (by rfl) (by simp only [putT, List.set_cons_zero, List.set_cons_succ]; rfl) ?_
    | (refine reg_g (by rfl) ?_; first
      | with_reducible refine GS_tt ?_
      | with_reducible refine GS_ff ?_
      | with_reducible refine GS_tf (reg_u (by with_unfolding_all (simp only [putT, List.set_cons_zero, List.set_cons_succ]; rfl)) ?_)
      | with_reducible refine GS_ft (reg_u (by with_unfolding_all (simp only [putT, List.set_cons_zero, List.set_cons_succ]; rfl)) ?_)
      | ((with_reducible refine GS_bt (fun h => ?_) (fun h => reg_u (by with_unfolding_all (simp only [putT, List.set_cons_zero, List.set_cons_succ]; rfl)) ?_)) <;> (try rw [h]))
      | ((with_reducible refine GS_bf (fun h => ?_) (fun h => reg_u (by with_unfolding_all (simp only [putT, List.set_cons_zero, List.set_cons_succ]; rfl)) ?_)) <;> (try rw [h])))
    | refine reg_gn (by rfl) (reg_u (by simp only [putT, List.set_cons_zero, List.set_cons_succ]; rfl) ?_)
    | refine reg_nil ?_
    | (refine Ex_cond (by rfl) ?_; first
      | with_reducible refine Ex_t ?_
      | with_reducible refine Ex_f ?_
      | with_reducible refine Ex_b (fun h => ?_) (fun h => ?_))
    | refine Ex_block ?_
    | refine Ex_skip ?_
    | refine Ex_ret ?_
    | refine Ex_exit ?_
  have hsz : s.data.toList.length = s.size := rfl
  refine Ex_loopK [0, 5, 6] (fun i : Nat => [.string s, dead, dead, dead, dead, .int .i64 s.size, .int .i64 (i : Int), dead, dead, dead, dead, dead, dead, dead, dead, dead, dead, dead, dead, dead, dead, dead, dead]) (fun _ => H ++ []) (fun i => s.size - i) (fun i => i ≤ s.size ∧ ∀ j c, j < i → s.data.toList[j]? = some c → letter c = true) 0 (by rfl) rfl ⟨by omega, fun j c hj => by omega⟩ ?_
  rintro i ⟨hi, hl⟩
  by_cases hlt : i < s.size
  · have hget : s.data.toList[((i : Nat) : Int).toNat]? = some s.data.toList[i] := by simp
    generalize s.data.toList[i] = c at hget
    have hget' : s.data.toList[i]? = some c := by simpa using hget
    have e : IntKind.i64.wrap ((i : Int) + 1) = ((i + 1 : Nat) : Int) := by rw [wrap64_id (by omega)]; omega
    repeat' first
      | refine Ex_seq ?_
      | refine Ex_region ?_
      | refine reg_plain ?_
      | refine reg_o (oa_indexStr (by rfl) (by rfl) (by rfl) (by exact TyIs.eq) (by rfl) (by omega) hget) (by simp only [putT, List.set_cons_zero, List.set_cons_succ]; rfl) ?_
      | refine reg_o (oa_alloc (by rfl) (by first | exact hB | simpa only [List.length_set] using hB) (by exact TyIs.eq) (by simp only [List.cons_append, List.nil_append]; rfl) (by simp only [List.length_cons, List.length_nil, Nat.reduceAdd, Nat.zero_add]; rfl)) (by simp only [putT, List.set_cons_zero, List.set_cons_succ]; rfl) ?_
      | refine reg_o (oa_box (by rfl) (by first | exact hB | simpa only [List.length_set] using hB) (by exact TyIs.eq) (by rfl) (by simp only [cellsL]; rfl) (by simp only [List.all_cons, List.all_nil, flatV, Bool.and_true, Bool.true_and, Bool.and_self, Bool.false_and]; rfl) (by simp only [List.cons_append, List.nil_append]; rfl) (by simp only [List.length_cons, List.length_nil, Nat.reduceAdd, Nat.zero_add]; rfl)) (by simp only [putT, List.set_cons_zero, List.set_cons_succ]; rfl) ?_
      | refine reg_o (oa_load (by rfl) (by rfl) (by exact TyIs.eq) (by rfl) (by first | exact getB_N (by first | exact hB | simpa only [List.length_set] using hB) (by rfl) | exact getB_old (by first | assumption | exact getB_S (by assumption))) (by simp only [List.getElem?_cons_succ, List.getElem?_cons_zero]; rfl)) (by simp only [putT, List.set_cons_zero, List.set_cons_succ]; rfl) ?_
      | refine reg_o (oa_loadA (by rfl) (by rfl) (by exact TyIs.eq) (by rfl) (by first | exact getB_N (by first | exact hB | simpa only [List.length_set] using hB) (by rfl) | exact getB_old (by first | assumption | exact getB_S (by assumption))) (Nat.le_of_ble_eq_true (by rfl)) (by simp only [List.drop_zero, List.drop_succ_cons, List.take_succ_cons, List.take_zero]; rfl)) (by simp only [putT, List.set_cons_zero, List.set_cons_succ]; rfl) ?_
      | refine reg_o (oa_fieldAddr (by rfl) (by rfl) (by exact TyIs.eq) (by rfl) (by rfl) (by exact TyIs.eq) (by decide) (by (try simp only [Nat.reduceAdd, Nat.zero_add, Nat.add_zero]); rfl)) (by simp only [putT, List.set_cons_zero, List.set_cons_succ]; rfl) ?_
      | refine reg_o (oa_store (by rfl) (by first | exact hB | simpa only [List.length_set] using hB) (by rfl) (by rfl) (by exact TyIs.eq) (by simp only [cellsL]; rfl) (by rfl) (by rfl) (by rfl) (Nat.le_of_ble_eq_true (by rfl)) (by rfl) (fun _ => by rfl) (by simp only [splice, List.take_succ_cons, List.take_zero, List.drop_succ_cons, List.drop_zero, List.cons_append, List.nil_append, List.length_cons, List.length_nil, Nat.reduceAdd, Nat.zero_add]; rfl) (by simp only [List.set_cons_zero, List.set_cons_succ]; rfl)) (by simp only [putT, List.set_cons_zero, List.set_cons_succ]; rfl) ?_
      | refine reg_o (oa_storeO (by rfl) (by rfl) (by rfl) (by exact TyIs.eq) (by simp only [cellsL]; rfl) (by rfl) (by first | assumption | exact getB_S (by assumption)) (by rfl) (Nat.le_of_ble_eq_true (by rfl)) (by rfl) (by rfl) (by simp only [splice, List.take_succ_cons, List.take_zero, List.drop_succ_cons, List.drop_zero, List.cons_append, List.nil_append, List.length_cons, List.length_nil, Nat.reduceAdd, Nat.zero_add]; rfl)) (by simp only [putT, List.set_cons_zero, List.set_cons_succ]; rfl) ?_
      | refine reg_o (oa_convInt (by rfl) (by rfl) (by exact TyIs.eq) (by exact TyIs.eq) (by rfl)) (by simp only [putT, List.set_cons_zero, List.set_cons_succ]; rfl) ?_
      | refine reg_o (oa_lenS (by rfl) (by rfl) (by rfl) (by exact TyIs.eq) (by rfl)) (by simp only [putT, List.set_cons_zero, List.set_cons_succ]; rfl) ?_
      | refine reg_o (oa_lenStr (by rfl) (by rfl) (by rfl) (by exact TyIs.eq) (by rfl)) (by simp only [putT, List.set_cons_zero, List.set_cons_succ]; rfl) ?_
      | refine reg_o (oa_build (by rfl) (by rfl) (by exact TyIs.eq) (by rfl) (by simp only [offsL, TyIs.eq]; rfl) (by simp [fillL, cellsL, splice]; rfl)) (by simp only [putT, List.set_cons_zero, List.set_cons_succ]; rfl) ?_
      | refine reg_o (oa_field (by rfl) (by rfl) (by exact TyIs.eq) (by rfl) (by rfl) (by exact TyIs.eq) (by rfl) (by rfl)) (by simp only [putT, List.set_cons_zero, List.set_cons_succ]; rfl) ?_
      | refine reg_o (by rfl) (by simp only [putT, List.set_cons_zero, List.set_cons_succ]; rfl) ?_
      | (refine reg_g (by rfl) ?_; first
        | with_reducible refine GS_tt ?_
        | with_reducible refine GS_ff ?_
        | with_reducible refine GS_tf (reg_u (by with_unfolding_all (simp only [putT, List.set_cons_zero, List.set_cons_succ]; rfl)) ?_)
        | with_reducible refine GS_ft (reg_u (by with_unfolding_all (simp only [putT, List.set_cons_zero, List.set_cons_succ]; rfl)) ?_)
        | ((with_reducible refine GS_bt (fun h => ?_) (fun h => reg_u (by with_unfolding_all (simp only [putT, List.set_cons_zero, List.set_cons_succ]; rfl)) ?_)) <;> (try rw [h]))
        | ((with_reducible refine GS_bf (fun h => ?_) (fun h => reg_u (by with_unfolding_all (simp only [putT, List.set_cons_zero, List.set_cons_succ]; rfl)) ?_)) <;> (try rw [h])))
      | refine reg_gn (by rfl) (reg_u (by simp only [putT, List.set_cons_zero, List.set_cons_succ]; rfl) ?_)
      | refine reg_nil ?_
      | (refine Ex_cond (by rfl) ?_; first
        | with_reducible refine Ex_t ?_
        | with_reducible refine Ex_f ?_
        | with_reducible refine Ex_b (fun h => ?_) (fun h => ?_))
      | refine Ex_block ?_
      | refine Ex_skip ?_
      | refine Ex_ret ?_
      | refine Ex_exit ?_
    · rename_i h1 h2
      (refine ret_k (by first | exact .inr rfl | exact .inl rfl) ?_; (repeat (first | refine rk_nil ?_ | refine rk_tmp (by rfl) ?_ | refine rk_cell (by rfl) (by exact TyIs.eq) (by rfl) (by first | exact getB_N (by first | exact hB | simpa only [List.length_set] using hB) (by rfl) | exact getB_old (by first | assumption | exact getB_S (by assumption))) (by simp only [List.getElem?_cons_succ, List.getElem?_cons_zero]; rfl) ?_ | refine rk_cellA (by rfl) (by exact TyIs.eq) (by rfl) (by first | exact getB_N (by first | exact hB | simpa only [List.length_set] using hB) (by rfl) | exact getB_old (by first | assumption | exact getB_S (by assumption))) (Nat.le_of_ble_eq_true (by rfl)) (by simp only [List.drop_zero, List.drop_succ_cons, List.take_succ_cons, List.take_zero]; rfl) ?_)); refine retx_drop (by first | exact hB | simpa only [List.length_set] using hB) (by simp only [packR]; rfl) (by first | exact Lt.flat (by rfl) | exact Lt.aggF (by rfl) | exact Lt.tupleF (by rfl)) ?_)
      exact ⟨by rw [all_not hget' (by simp [letter]; simp at h; omega)]; rfl, rfl⟩
    · rename_i h1 h2
      refine ⟨i + 1, by omega, ⟨by omega, fun j c' hj hc' => ?_⟩, by rw [e]; rfl, rfl⟩
      by_cases hji : j < i
      · exact hl j c' hji hc'
      · have : j = i := by omega
        subst this; rw [hget'] at hc'; obtain rfl := Option.some.inj hc'
        simp at h2 h; simp [letter]; omega
    · (refine ret_k (by first | exact .inr rfl | exact .inl rfl) ?_; (repeat (first | refine rk_nil ?_ | refine rk_tmp (by rfl) ?_ | refine rk_cell (by rfl) (by exact TyIs.eq) (by rfl) (by first | exact getB_N (by first | exact hB | simpa only [List.length_set] using hB) (by rfl) | exact getB_old (by first | assumption | exact getB_S (by assumption))) (by simp only [List.getElem?_cons_succ, List.getElem?_cons_zero]; rfl) ?_ | refine rk_cellA (by rfl) (by exact TyIs.eq) (by rfl) (by first | exact getB_N (by first | exact hB | simpa only [List.length_set] using hB) (by rfl) | exact getB_old (by first | assumption | exact getB_S (by assumption))) (Nat.le_of_ble_eq_true (by rfl)) (by simp only [List.drop_zero, List.drop_succ_cons, List.take_succ_cons, List.take_zero]; rfl) ?_)); refine retx_drop (by first | exact hB | simpa only [List.length_set] using hB) (by simp only [packR]; rfl) (by first | exact Lt.flat (by rfl) | exact Lt.aggF (by rfl) | exact Lt.tupleF (by rfl)) ?_)
      exact ⟨by rw [all_not hget' (by simp [letter]; simp at h; omega)]; rfl, rfl⟩
    · simp at h; omega
  · repeat' first
      | refine Ex_seq ?_
      | refine Ex_region ?_
      | refine reg_plain ?_
      | refine op_call (by rfl) (by rfl) (by rfl) (by rfl) (within_runs _ _ _ _) (reg_k (by simp only [putT, List.set_cons_zero, List.set_cons_succ]; rfl) ?_)
      | refine reg_o (oa_alloc (by rfl) (by first | exact hB | simpa only [List.length_set] using hB) (by exact TyIs.eq) (by simp only [List.cons_append, List.nil_append]; rfl) (by simp only [List.length_cons, List.length_nil, Nat.reduceAdd, Nat.zero_add]; rfl)) (by simp only [putT, List.set_cons_zero, List.set_cons_succ]; rfl) ?_
      | refine reg_o (oa_box (by rfl) (by first | exact hB | simpa only [List.length_set] using hB) (by exact TyIs.eq) (by rfl) (by simp only [cellsL]; rfl) (by simp only [List.all_cons, List.all_nil, flatV, Bool.and_true, Bool.true_and, Bool.and_self, Bool.false_and]; rfl) (by simp only [List.cons_append, List.nil_append]; rfl) (by simp only [List.length_cons, List.length_nil, Nat.reduceAdd, Nat.zero_add]; rfl)) (by simp only [putT, List.set_cons_zero, List.set_cons_succ]; rfl) ?_
      | refine reg_o (oa_load (by rfl) (by rfl) (by exact TyIs.eq) (by rfl) (by first | exact getB_N (by first | exact hB | simpa only [List.length_set] using hB) (by rfl) | exact getB_old (by first | assumption | exact getB_S (by assumption))) (by simp only [List.getElem?_cons_succ, List.getElem?_cons_zero]; rfl)) (by simp only [putT, List.set_cons_zero, List.set_cons_succ]; rfl) ?_
      | refine reg_o (oa_loadA (by rfl) (by rfl) (by exact TyIs.eq) (by rfl) (by first | exact getB_N (by first | exact hB | simpa only [List.length_set] using hB) (by rfl) | exact getB_old (by first | assumption | exact getB_S (by assumption))) (Nat.le_of_ble_eq_true (by rfl)) (by simp only [List.drop_zero, List.drop_succ_cons, List.take_succ_cons, List.take_zero]; rfl)) (by simp only [putT, List.set_cons_zero, List.set_cons_succ]; rfl) ?_
      | refine reg_o (oa_fieldAddr (by rfl) (by rfl) (by exact TyIs.eq) (by rfl) (by rfl) (by exact TyIs.eq) (by decide) (by (try simp only [Nat.reduceAdd, Nat.zero_add, Nat.add_zero]); rfl)) (by simp only [putT, List.set_cons_zero, List.set_cons_succ]; rfl) ?_
      | refine reg_o (oa_store (by rfl) (by first | exact hB | simpa only [List.length_set] using hB) (by rfl) (by rfl) (by exact TyIs.eq) (by simp only [cellsL]; rfl) (by rfl) (by rfl) (by rfl) (Nat.le_of_ble_eq_true (by rfl)) (by rfl) (fun _ => by rfl) (by simp only [splice, List.take_succ_cons, List.take_zero, List.drop_succ_cons, List.drop_zero, List.cons_append, List.nil_append, List.length_cons, List.length_nil, Nat.reduceAdd, Nat.zero_add]; rfl) (by simp only [List.set_cons_zero, List.set_cons_succ]; rfl)) (by simp only [putT, List.set_cons_zero, List.set_cons_succ]; rfl) ?_
      | refine reg_o (oa_storeO (by rfl) (by rfl) (by rfl) (by exact TyIs.eq) (by simp only [cellsL]; rfl) (by rfl) (by first | assumption | exact getB_S (by assumption)) (by rfl) (Nat.le_of_ble_eq_true (by rfl)) (by rfl) (by rfl) (by simp only [splice, List.take_succ_cons, List.take_zero, List.drop_succ_cons, List.drop_zero, List.cons_append, List.nil_append, List.length_cons, List.length_nil, Nat.reduceAdd, Nat.zero_add]; rfl)) (by simp only [putT, List.set_cons_zero, List.set_cons_succ]; rfl) ?_
      | refine reg_o (oa_convInt (by rfl) (by rfl) (by exact TyIs.eq) (by exact TyIs.eq) (by rfl)) (by simp only [putT, List.set_cons_zero, List.set_cons_succ]; rfl) ?_
      | refine reg_o (oa_lenS (by rfl) (by rfl) (by rfl) (by exact TyIs.eq) (by rfl)) (by simp only [putT, List.set_cons_zero, List.set_cons_succ]; rfl) ?_
      | refine reg_o (oa_lenStr (by rfl) (by rfl) (by rfl) (by exact TyIs.eq) (by rfl)) (by simp only [putT, List.set_cons_zero, List.set_cons_succ]; rfl) ?_
      | refine reg_o (oa_build (by rfl) (by rfl) (by exact TyIs.eq) (by rfl) (by simp only [offsL, TyIs.eq]; rfl) (by simp [fillL, cellsL, splice]; rfl)) (by simp only [putT, List.set_cons_zero, List.set_cons_succ]; rfl) ?_
      | refine reg_o (oa_field (by rfl) (by rfl) (by exact TyIs.eq) (by rfl) (by rfl) (by exact TyIs.eq) (by rfl) (by rfl)) (by simp only [putT, List.set_cons_zero, List.set_cons_succ]; rfl) ?_
      | refine reg_o (by rfl) (by simp only [putT, List.set_cons_zero, List.set_cons_succ]; rfl) ?_
      | (refine reg_g (by rfl) ?_; first
        | with_reducible refine GS_tt ?_
        | with_reducible refine GS_ff ?_
        | with_reducible refine GS_tf (reg_u (by with_unfolding_all (simp only [putT, List.set_cons_zero, List.set_cons_succ]; rfl)) ?_)
        | with_reducible refine GS_ft (reg_u (by with_unfolding_all (simp only [putT, List.set_cons_zero, List.set_cons_succ]; rfl)) ?_)
        | ((with_reducible refine GS_bt (fun h => ?_) (fun h => reg_u (by with_unfolding_all (simp only [putT, List.set_cons_zero, List.set_cons_succ]; rfl)) ?_)) <;> (try rw [h]))
        | ((with_reducible refine GS_bf (fun h => ?_) (fun h => reg_u (by with_unfolding_all (simp only [putT, List.set_cons_zero, List.set_cons_succ]; rfl)) ?_)) <;> (try rw [h])))
      | refine reg_gn (by rfl) (reg_u (by simp only [putT, List.set_cons_zero, List.set_cons_succ]; rfl) ?_)
      | refine reg_nil ?_
      | (refine Ex_cond (by rfl) ?_; first
        | with_reducible refine Ex_t ?_
        | with_reducible refine Ex_f ?_
        | with_reducible refine Ex_b (fun h => ?_) (fun h => ?_))
      | refine Ex_block ?_
      | refine Ex_skip ?_
      | refine Ex_ret ?_
      | refine Ex_exit ?_
    · simp at h; omega
    · (refine ret_k (by first | exact .inr rfl | exact .inl rfl) ?_; (repeat (first | refine rk_nil ?_ | refine rk_tmp (by rfl) ?_ | refine rk_cell (by rfl) (by exact TyIs.eq) (by rfl) (by first | exact getB_N (by first | exact hB | simpa only [List.length_set] using hB) (by rfl) | exact getB_old (by first | assumption | exact getB_S (by assumption))) (by simp only [List.getElem?_cons_succ, List.getElem?_cons_zero]; rfl) ?_ | refine rk_cellA (by rfl) (by exact TyIs.eq) (by rfl) (by first | exact getB_N (by first | exact hB | simpa only [List.length_set] using hB) (by rfl) | exact getB_old (by first | assumption | exact getB_S (by assumption))) (Nat.le_of_ble_eq_true (by rfl)) (by simp only [List.drop_zero, List.drop_succ_cons, List.take_succ_cons, List.take_zero]; rfl) ?_)); refine retx_drop (by first | exact hB | simpa only [List.length_set] using hB) (by simp only [packR]; rfl) (by first | exact Lt.flat (by rfl) | exact Lt.aggF (by rfl) | exact Lt.tupleF (by rfl)) ?_)
      exact ⟨by rw [all_yes fun j c hj hc => hl j c (by omega) hc]; rfl, rfl⟩
theorem l05Name_runs (H : Heap) (s : ByteArray) (hs : s.size ≤ 4611686018427387904) : Runs Try.prog 54 [.string s] H (fun v H' => v = .bool (s.data.toList.all letter && (decide (1 ≤ (s.size : Int)) && decide ((s.size : Int) ≤ 12))) ∧ H' = H) := by
  refine fun_h 28 (fn := Try.f54) (by rfl) (by rfl) (by rfl) (by rfl) (by simp only [Try.f54]; rfl) (by simp only [List.length_cons, List.length_nil, Nat.reduceAdd, Nat.reduceSub, List.reduceReplicate, List.cons_append, List.nil_append]; rfl) ?_
  intro B hB
  repeat' first
    | refine Ex_seq ?_
    | refine Ex_region ?_
    | refine reg_plain ?_
    | refine reg_o (oa_alloc (by rfl) (by first | exact hB | simpa only [List.length_set] using hB) (by exact TyIs.eq) (by simp only [List.cons_append, List.nil_append]; rfl) (by simp only [List.length_cons, List.length_nil, Nat.reduceAdd, Nat.zero_add]; rfl)) (by simp only [putT, List.set_cons_zero, List.set_cons_succ]; rfl) ?_
    | refine reg_o (oa_box (by rfl) (by first | exact hB | simpa only [List.length_set] using hB) (by exact TyIs.eq) (by rfl) (by simp only [cellsL]; rfl) (by simp only [List.all_cons, List.all_nil, flatV, Bool.and_true, Bool.true_and, Bool.and_self, Bool.false_and]; rfl) (by simp only [List.cons_append, List.nil_append]; rfl) (by simp only [List.length_cons, List.length_nil, Nat.reduceAdd, Nat.zero_add]; rfl)) (by simp only [putT, List.set_cons_zero, List.set_cons_succ]; rfl) ?_
    | refine reg_o (oa_load (by rfl) (by rfl) (by exact TyIs.eq) (by rfl) (by first | exact getB_N (by first | exact hB | simpa only [List.length_set] using hB) (by rfl) | exact getB_old (by first | assumption | exact getB_S (by assumption))) (by simp only [List.getElem?_cons_succ, List.getElem?_cons_zero]; rfl)) (by simp only [putT, List.set_cons_zero, List.set_cons_succ]; rfl) ?_
    | refine reg_o (oa_loadA (by rfl) (by rfl) (by exact TyIs.eq) (by rfl) (by first | exact getB_N (by first | exact hB | simpa only [List.length_set] using hB) (by rfl) | exact getB_old (by first | assumption | exact getB_S (by assumption))) (Nat.le_of_ble_eq_true (by rfl)) (by simp only [List.drop_zero, List.drop_succ_cons, List.take_succ_cons, List.take_zero]; rfl)) (by simp only [putT, List.set_cons_zero, List.set_cons_succ]; rfl) ?_
    | refine reg_o (oa_fieldAddr (by rfl) (by rfl) (by exact TyIs.eq) (by rfl) (by rfl) (by exact TyIs.eq) (by decide) (by (try simp only [Nat.reduceAdd, Nat.zero_add, Nat.add_zero]); rfl)) (by simp only [putT, List.set_cons_zero, List.set_cons_succ]; rfl) ?_
    | refine reg_o (oa_store (by rfl) (by first | exact hB | simpa only [List.length_set] using hB) (by rfl) (by rfl) (by exact TyIs.eq) (by simp only [cellsL]; rfl) (by rfl) (by rfl) (by rfl) (Nat.le_of_ble_eq_true (by rfl)) (by rfl) (fun _ => by rfl) (by simp only [splice, List.take_succ_cons, List.take_zero, List.drop_succ_cons, List.drop_zero, List.cons_append, List.nil_append, List.length_cons, List.length_nil, Nat.reduceAdd, Nat.zero_add]; rfl) (by simp only [List.set_cons_zero, List.set_cons_succ]; rfl)) (by simp only [putT, List.set_cons_zero, List.set_cons_succ]; rfl) ?_
    | refine reg_o (oa_storeO (by rfl) (by rfl) (by rfl) (by exact TyIs.eq) (by simp only [cellsL]; rfl) (by rfl) (by first | assumption | exact getB_S (by assumption)) (by rfl) (Nat.le_of_ble_eq_true (by rfl)) (by rfl) (by rfl) (by simp only [splice, List.take_succ_cons, List.take_zero, List.drop_succ_cons, List.drop_zero, List.cons_append, List.nil_append, List.length_cons, List.length_nil, Nat.reduceAdd, Nat.zero_add]; rfl)) (by simp only [putT, List.set_cons_zero, List.set_cons_succ]; rfl) ?_
    | refine reg_o (oa_convInt (by rfl) (by rfl) (by exact TyIs.eq) (by exact TyIs.eq) (by rfl)) (by simp only [putT, List.set_cons_zero, List.set_cons_succ]; rfl) ?_
    | refine reg_o (oa_lenS (by rfl) (by rfl) (by rfl) (by exact TyIs.eq) (by rfl)) (by simp only [putT, List.set_cons_zero, List.set_cons_succ]; rfl) ?_
    | refine reg_o (oa_lenStr (by rfl) (by rfl) (by rfl) (by exact TyIs.eq) (by rfl)) (by simp only [putT, List.set_cons_zero, List.set_cons_succ]; rfl) ?_
    | refine reg_o (oa_build (by rfl) (by rfl) (by exact TyIs.eq) (by rfl) (by simp only [offsL, TyIs.eq]; rfl) (by simp [fillL, cellsL, splice]; rfl)) (by simp only [putT, List.set_cons_zero, List.set_cons_succ]; rfl) ?_
    | refine reg_o (oa_field (by rfl) (by rfl) (by exact TyIs.eq) (by rfl) (by rfl) (by exact TyIs.eq) (by rfl) (by rfl)) (by simp only [putT, List.set_cons_zero, List.set_cons_succ]; rfl) ?_
    | refine reg_o (by rfl) (by simp only [putT, List.set_cons_zero, List.set_cons_succ]; rfl) ?_
    | (refine reg_g (by rfl) ?_; first
      | with_reducible refine GS_tt ?_
      | with_reducible refine GS_ff ?_
      | with_reducible refine GS_tf (reg_u (by with_unfolding_all (simp only [putT, List.set_cons_zero, List.set_cons_succ]; rfl)) ?_)
      | with_reducible refine GS_ft (reg_u (by with_unfolding_all (simp only [putT, List.set_cons_zero, List.set_cons_succ]; rfl)) ?_)
      | ((with_reducible refine GS_bt (fun h => ?_) (fun h => reg_u (by with_unfolding_all (simp only [putT, List.set_cons_zero, List.set_cons_succ]; rfl)) ?_)) <;> (try rw [h]))
      | ((with_reducible refine GS_bf (fun h => ?_) (fun h => reg_u (by with_unfolding_all (simp only [putT, List.set_cons_zero, List.set_cons_succ]; rfl)) ?_)) <;> (try rw [h])))
    | refine reg_gn (by rfl) (reg_u (by simp only [putT, List.set_cons_zero, List.set_cons_succ]; rfl) ?_)
    | refine reg_nil ?_
    | (refine Ex_cond (by rfl) ?_; first
      | with_reducible refine Ex_t ?_
      | with_reducible refine Ex_f ?_
      | with_reducible refine Ex_b (fun h => ?_) (fun h => ?_))
    | refine Ex_block ?_
    | refine Ex_skip ?_
    | refine Ex_ret ?_
    | refine Ex_exit ?_
  · (refine ret_k (by first | exact .inr rfl | exact .inl rfl) ?_; (repeat (first | refine rk_nil ?_ | refine rk_tmp (by rfl) ?_ | refine rk_cell (by rfl) (by exact TyIs.eq) (by rfl) (by first | exact getB_N (by first | exact hB | simpa only [List.length_set] using hB) (by rfl) | exact getB_old (by first | assumption | exact getB_S (by assumption))) (by simp only [List.getElem?_cons_succ, List.getElem?_cons_zero]; rfl) ?_ | refine rk_cellA (by rfl) (by exact TyIs.eq) (by rfl) (by first | exact getB_N (by first | exact hB | simpa only [List.length_set] using hB) (by rfl) | exact getB_old (by first | assumption | exact getB_S (by assumption))) (Nat.le_of_ble_eq_true (by rfl)) (by simp only [List.drop_zero, List.drop_succ_cons, List.take_succ_cons, List.take_zero]; rfl) ?_)); refine retx_drop (by first | exact hB | simpa only [List.length_set] using hB) (by simp only [packR]; rfl) (by first | exact Lt.flat (by rfl) | exact Lt.aggF (by rfl) | exact Lt.tupleF (by rfl)) ?_)
    simp at h; exact ⟨by simp; intro _ _; omega, rfl⟩
  · rename_i h1
    have hsz : s.data.toList.length = s.size := rfl
    refine Ex_loopK [0, 3] (fun i : Nat => [.string s, dead, dead, .int .i64 (i : Int), dead, dead, dead, dead, dead, dead, dead, dead, dead, dead, dead, dead, dead, dead, dead, dead, dead, dead, dead, dead, dead, dead, dead, dead]) (fun _ => H ++ []) (fun i => s.size - i) (fun i => i ≤ s.size ∧ ∀ j c, j < i → s.data.toList[j]? = some c → letter c = true) 0 (by rfl) rfl ⟨by omega, fun j c hj => by omega⟩ ?_
    rintro i ⟨hi, hl⟩
    by_cases hlt : i < s.size
    · have hget : s.data.toList[((i : Nat) : Int).toNat]? = some s.data.toList[i] := by simp
      generalize s.data.toList[i] = c at hget
      have hget' : s.data.toList[i]? = some c := by simpa using hget
      have e : IntKind.i64.wrap ((i : Int) + 1) = ((i + 1 : Nat) : Int) := by rw [wrap64_id (by omega)]; omega
      repeat' first
        | refine Ex_seq ?_
        | refine Ex_region ?_
        | refine reg_plain ?_
        | refine reg_o (oa_indexStr (by rfl) (by rfl) (by rfl) (by exact TyIs.eq) (by rfl) (by omega) hget) (by simp only [putT, List.set_cons_zero, List.set_cons_succ]; rfl) ?_
        | refine reg_o (oa_alloc (by rfl) (by first | exact hB | simpa only [List.length_set] using hB) (by exact TyIs.eq) (by simp only [List.cons_append, List.nil_append]; rfl) (by simp only [List.length_cons, List.length_nil, Nat.reduceAdd, Nat.zero_add]; rfl)) (by simp only [putT, List.set_cons_zero, List.set_cons_succ]; rfl) ?_
        | refine reg_o (oa_box (by rfl) (by first | exact hB | simpa only [List.length_set] using hB) (by exact TyIs.eq) (by rfl) (by simp only [cellsL]; rfl) (by simp only [List.all_cons, List.all_nil, flatV, Bool.and_true, Bool.true_and, Bool.and_self, Bool.false_and]; rfl) (by simp only [List.cons_append, List.nil_append]; rfl) (by simp only [List.length_cons, List.length_nil, Nat.reduceAdd, Nat.zero_add]; rfl)) (by simp only [putT, List.set_cons_zero, List.set_cons_succ]; rfl) ?_
        | refine reg_o (oa_load (by rfl) (by rfl) (by exact TyIs.eq) (by rfl) (by first | exact getB_N (by first | exact hB | simpa only [List.length_set] using hB) (by rfl) | exact getB_old (by first | assumption | exact getB_S (by assumption))) (by simp only [List.getElem?_cons_succ, List.getElem?_cons_zero]; rfl)) (by simp only [putT, List.set_cons_zero, List.set_cons_succ]; rfl) ?_
        | refine reg_o (oa_loadA (by rfl) (by rfl) (by exact TyIs.eq) (by rfl) (by first | exact getB_N (by first | exact hB | simpa only [List.length_set] using hB) (by rfl) | exact getB_old (by first | assumption | exact getB_S (by assumption))) (Nat.le_of_ble_eq_true (by rfl)) (by simp only [List.drop_zero, List.drop_succ_cons, List.take_succ_cons, List.take_zero]; rfl)) (by simp only [putT, List.set_cons_zero, List.set_cons_succ]; rfl) ?_
        | refine reg_o (oa_fieldAddr (by rfl) (by rfl) (by exact TyIs.eq) (by rfl) (by rfl) (by exact TyIs.eq) (by decide) (by (try simp only [Nat.reduceAdd, Nat.zero_add, Nat.add_zero]); rfl)) (by simp only [putT, List.set_cons_zero, List.set_cons_succ]; rfl) ?_
        | refine reg_o (oa_store (by rfl) (by first | exact hB | simpa only [List.length_set] using hB) (by rfl) (by rfl) (by exact TyIs.eq) (by simp only [cellsL]; rfl) (by rfl) (by rfl) (by rfl) (Nat.le_of_ble_eq_true (by rfl)) (by rfl) (fun _ => by rfl) (by simp only [splice, List.take_succ_cons, List.take_zero, List.drop_succ_cons, List.drop_zero, List.cons_append, List.nil_append, List.length_cons, List.length_nil, Nat.reduceAdd, Nat.zero_add]; rfl) (by simp only [List.set_cons_zero, List.set_cons_succ]; rfl)) (by simp only [putT, List.set_cons_zero, List.set_cons_succ]; rfl) ?_
        | refine reg_o (oa_storeO (by rfl) (by rfl) (by rfl) (by exact TyIs.eq) (by simp only [cellsL]; rfl) (by rfl) (by first | assumption | exact getB_S (by assumption)) (by rfl) (Nat.le_of_ble_eq_true (by rfl)) (by rfl) (by rfl) (by simp only [splice, List.take_succ_cons, List.take_zero, List.drop_succ_cons, List.drop_zero, List.cons_append, List.nil_append, List.length_cons, List.length_nil, Nat.reduceAdd, Nat.zero_add]; rfl)) (by simp only [putT, List.set_cons_zero, List.set_cons_succ]; rfl) ?_
        | refine reg_o (oa_convInt (by rfl) (by rfl) (by exact TyIs.eq) (by exact TyIs.eq) (by rfl)) (by simp only [putT, List.set_cons_zero, List.set_cons_succ]; rfl) ?_
        | refine reg_o (oa_lenS (by rfl) (by rfl) (by rfl) (by exact TyIs.eq) (by rfl)) (by simp only [putT, List.set_cons_zero, List.set_cons_succ]; rfl) ?_
        | refine reg_o (oa_lenStr (by rfl) (by rfl) (by rfl) (by exact TyIs.eq) (by rfl)) (by simp only [putT, List.set_cons_zero, List.set_cons_succ]; rfl) ?_
        | refine reg_o (oa_build (by rfl) (by rfl) (by exact TyIs.eq) (by rfl) (by simp only [offsL, TyIs.eq]; rfl) (by simp [fillL, cellsL, splice]; rfl)) (by simp only [putT, List.set_cons_zero, List.set_cons_succ]; rfl) ?_
        | refine reg_o (oa_field (by rfl) (by rfl) (by exact TyIs.eq) (by rfl) (by rfl) (by exact TyIs.eq) (by rfl) (by rfl)) (by simp only [putT, List.set_cons_zero, List.set_cons_succ]; rfl) ?_
        | refine reg_o (by rfl) (by simp only [putT, List.set_cons_zero, List.set_cons_succ]; rfl) ?_
        | (refine reg_g (by rfl) ?_; first
          | with_reducible refine GS_tt ?_
          | with_reducible refine GS_ff ?_
          | with_reducible refine GS_tf (reg_u (by with_unfolding_all (simp only [putT, List.set_cons_zero, List.set_cons_succ]; rfl)) ?_)
          | with_reducible refine GS_ft (reg_u (by with_unfolding_all (simp only [putT, List.set_cons_zero, List.set_cons_succ]; rfl)) ?_)
          | ((with_reducible refine GS_bt (fun h => ?_) (fun h => reg_u (by with_unfolding_all (simp only [putT, List.set_cons_zero, List.set_cons_succ]; rfl)) ?_)) <;> (try rw [h]))
          | ((with_reducible refine GS_bf (fun h => ?_) (fun h => reg_u (by with_unfolding_all (simp only [putT, List.set_cons_zero, List.set_cons_succ]; rfl)) ?_)) <;> (try rw [h])))
        | refine reg_gn (by rfl) (reg_u (by simp only [putT, List.set_cons_zero, List.set_cons_succ]; rfl) ?_)
        | refine reg_nil ?_
        | (refine Ex_cond (by rfl) ?_; first
          | with_reducible refine Ex_t ?_
          | with_reducible refine Ex_f ?_
          | with_reducible refine Ex_b (fun h => ?_) (fun h => ?_))
        | refine Ex_block ?_
        | refine Ex_skip ?_
        | refine Ex_ret ?_
        | refine Ex_exit ?_
      · rename_i h2 h3
        (refine ret_k (by first | exact .inr rfl | exact .inl rfl) ?_; (repeat (first | refine rk_nil ?_ | refine rk_tmp (by rfl) ?_ | refine rk_cell (by rfl) (by exact TyIs.eq) (by rfl) (by first | exact getB_N (by first | exact hB | simpa only [List.length_set] using hB) (by rfl) | exact getB_old (by first | assumption | exact getB_S (by assumption))) (by simp only [List.getElem?_cons_succ, List.getElem?_cons_zero]; rfl) ?_ | refine rk_cellA (by rfl) (by exact TyIs.eq) (by rfl) (by first | exact getB_N (by first | exact hB | simpa only [List.length_set] using hB) (by rfl) | exact getB_old (by first | assumption | exact getB_S (by assumption))) (Nat.le_of_ble_eq_true (by rfl)) (by simp only [List.drop_zero, List.drop_succ_cons, List.take_succ_cons, List.take_zero]; rfl) ?_)); refine retx_drop (by first | exact hB | simpa only [List.length_set] using hB) (by simp only [packR]; rfl) (by first | exact Lt.flat (by rfl) | exact Lt.aggF (by rfl) | exact Lt.tupleF (by rfl)) ?_)
        exact ⟨by rw [all_not hget' (by simp [letter]; simp at h; omega)]; rfl, rfl⟩
      · rename_i h2 h3
        refine ⟨i + 1, by omega, ⟨by omega, fun j c' hj hc' => ?_⟩, by rw [e]; rfl, rfl⟩
        by_cases hji : j < i
        · exact hl j c' hji hc'
        · have : j = i := by omega
          subst this; rw [hget'] at hc'; obtain rfl := Option.some.inj hc'
          simp at h3 h; simp [letter]; omega
      · (refine ret_k (by first | exact .inr rfl | exact .inl rfl) ?_; (repeat (first | refine rk_nil ?_ | refine rk_tmp (by rfl) ?_ | refine rk_cell (by rfl) (by exact TyIs.eq) (by rfl) (by first | exact getB_N (by first | exact hB | simpa only [List.length_set] using hB) (by rfl) | exact getB_old (by first | assumption | exact getB_S (by assumption))) (by simp only [List.getElem?_cons_succ, List.getElem?_cons_zero]; rfl) ?_ | refine rk_cellA (by rfl) (by exact TyIs.eq) (by rfl) (by first | exact getB_N (by first | exact hB | simpa only [List.length_set] using hB) (by rfl) | exact getB_old (by first | assumption | exact getB_S (by assumption))) (Nat.le_of_ble_eq_true (by rfl)) (by simp only [List.drop_zero, List.drop_succ_cons, List.take_succ_cons, List.take_zero]; rfl) ?_)); refine retx_drop (by first | exact hB | simpa only [List.length_set] using hB) (by simp only [packR]; rfl) (by first | exact Lt.flat (by rfl) | exact Lt.aggF (by rfl) | exact Lt.tupleF (by rfl)) ?_)
        exact ⟨by rw [all_not hget' (by simp [letter]; simp at h; omega)]; rfl, rfl⟩
      · simp at h; omega
    · repeat' first
        | refine Ex_seq ?_
        | refine Ex_region ?_
        | refine reg_plain ?_
        | refine reg_o (oa_alloc (by rfl) (by first | exact hB | simpa only [List.length_set] using hB) (by exact TyIs.eq) (by simp only [List.cons_append, List.nil_append]; rfl) (by simp only [List.length_cons, List.length_nil, Nat.reduceAdd, Nat.zero_add]; rfl)) (by simp only [putT, List.set_cons_zero, List.set_cons_succ]; rfl) ?_
        | refine reg_o (oa_box (by rfl) (by first | exact hB | simpa only [List.length_set] using hB) (by exact TyIs.eq) (by rfl) (by simp only [cellsL]; rfl) (by simp only [List.all_cons, List.all_nil, flatV, Bool.and_true, Bool.true_and, Bool.and_self, Bool.false_and]; rfl) (by simp only [List.cons_append, List.nil_append]; rfl) (by simp only [List.length_cons, List.length_nil, Nat.reduceAdd, Nat.zero_add]; rfl)) (by simp only [putT, List.set_cons_zero, List.set_cons_succ]; rfl) ?_
        | refine reg_o (oa_load (by rfl) (by rfl) (by exact TyIs.eq) (by rfl) (by first | exact getB_N (by first | exact hB | simpa only [List.length_set] using hB) (by rfl) | exact getB_old (by first | assumption | exact getB_S (by assumption))) (by simp only [List.getElem?_cons_succ, List.getElem?_cons_zero]; rfl)) (by simp only [putT, List.set_cons_zero, List.set_cons_succ]; rfl) ?_
        | refine reg_o (oa_loadA (by rfl) (by rfl) (by exact TyIs.eq) (by rfl) (by first | exact getB_N (by first | exact hB | simpa only [List.length_set] using hB) (by rfl) | exact getB_old (by first | assumption | exact getB_S (by assumption))) (Nat.le_of_ble_eq_true (by rfl)) (by simp only [List.drop_zero, List.drop_succ_cons, List.take_succ_cons, List.take_zero]; rfl)) (by simp only [putT, List.set_cons_zero, List.set_cons_succ]; rfl) ?_
        | refine reg_o (oa_fieldAddr (by rfl) (by rfl) (by exact TyIs.eq) (by rfl) (by rfl) (by exact TyIs.eq) (by decide) (by (try simp only [Nat.reduceAdd, Nat.zero_add, Nat.add_zero]); rfl)) (by simp only [putT, List.set_cons_zero, List.set_cons_succ]; rfl) ?_
        | refine reg_o (oa_store (by rfl) (by first | exact hB | simpa only [List.length_set] using hB) (by rfl) (by rfl) (by exact TyIs.eq) (by simp only [cellsL]; rfl) (by rfl) (by rfl) (by rfl) (Nat.le_of_ble_eq_true (by rfl)) (by rfl) (fun _ => by rfl) (by simp only [splice, List.take_succ_cons, List.take_zero, List.drop_succ_cons, List.drop_zero, List.cons_append, List.nil_append, List.length_cons, List.length_nil, Nat.reduceAdd, Nat.zero_add]; rfl) (by simp only [List.set_cons_zero, List.set_cons_succ]; rfl)) (by simp only [putT, List.set_cons_zero, List.set_cons_succ]; rfl) ?_
        | refine reg_o (oa_storeO (by rfl) (by rfl) (by rfl) (by exact TyIs.eq) (by simp only [cellsL]; rfl) (by rfl) (by first | assumption | exact getB_S (by assumption)) (by rfl) (Nat.le_of_ble_eq_true (by rfl)) (by rfl) (by rfl) (by simp only [splice, List.take_succ_cons, List.take_zero, List.drop_succ_cons, List.drop_zero, List.cons_append, List.nil_append, List.length_cons, List.length_nil, Nat.reduceAdd, Nat.zero_add]; rfl)) (by simp only [putT, List.set_cons_zero, List.set_cons_succ]; rfl) ?_
        | refine reg_o (oa_convInt (by rfl) (by rfl) (by exact TyIs.eq) (by exact TyIs.eq) (by rfl)) (by simp only [putT, List.set_cons_zero, List.set_cons_succ]; rfl) ?_
        | refine reg_o (oa_lenS (by rfl) (by rfl) (by rfl) (by exact TyIs.eq) (by rfl)) (by simp only [putT, List.set_cons_zero, List.set_cons_succ]; rfl) ?_
        | refine reg_o (oa_lenStr (by rfl) (by rfl) (by rfl) (by exact TyIs.eq) (by rfl)) (by simp only [putT, List.set_cons_zero, List.set_cons_succ]; rfl) ?_
        | refine reg_o (oa_build (by rfl) (by rfl) (by exact TyIs.eq) (by rfl) (by simp only [offsL, TyIs.eq]; rfl) (by simp [fillL, cellsL, splice]; rfl)) (by simp only [putT, List.set_cons_zero, List.set_cons_succ]; rfl) ?_
        | refine reg_o (oa_field (by rfl) (by rfl) (by exact TyIs.eq) (by rfl) (by rfl) (by exact TyIs.eq) (by rfl) (by rfl)) (by simp only [putT, List.set_cons_zero, List.set_cons_succ]; rfl) ?_
        | refine reg_o (by rfl) (by simp only [putT, List.set_cons_zero, List.set_cons_succ]; rfl) ?_
        | (refine reg_g (by rfl) ?_; first
          | with_reducible refine GS_tt ?_
          | with_reducible refine GS_ff ?_
          | with_reducible refine GS_tf (reg_u (by with_unfolding_all (simp only [putT, List.set_cons_zero, List.set_cons_succ]; rfl)) ?_)
          | with_reducible refine GS_ft (reg_u (by with_unfolding_all (simp only [putT, List.set_cons_zero, List.set_cons_succ]; rfl)) ?_)
          | ((with_reducible refine GS_bt (fun h => ?_) (fun h => reg_u (by with_unfolding_all (simp only [putT, List.set_cons_zero, List.set_cons_succ]; rfl)) ?_)) <;> (try rw [h]))
          | ((with_reducible refine GS_bf (fun h => ?_) (fun h => reg_u (by with_unfolding_all (simp only [putT, List.set_cons_zero, List.set_cons_succ]; rfl)) ?_)) <;> (try rw [h])))
        | refine reg_gn (by rfl) (reg_u (by simp only [putT, List.set_cons_zero, List.set_cons_succ]; rfl) ?_)
        | refine reg_nil ?_
        | (refine Ex_cond (by rfl) ?_; first
          | with_reducible refine Ex_t ?_
          | with_reducible refine Ex_f ?_
          | with_reducible refine Ex_b (fun h => ?_) (fun h => ?_))
        | refine Ex_block ?_
        | refine Ex_skip ?_
        | refine Ex_ret ?_
        | refine Ex_exit ?_
      · simp at h; omega
      · rename_i h2
        (refine ret_k (by first | exact .inr rfl | exact .inl rfl) ?_; (repeat (first | refine rk_nil ?_ | refine rk_tmp (by rfl) ?_ | refine rk_cell (by rfl) (by exact TyIs.eq) (by rfl) (by first | exact getB_N (by first | exact hB | simpa only [List.length_set] using hB) (by rfl) | exact getB_old (by first | assumption | exact getB_S (by assumption))) (by simp only [List.getElem?_cons_succ, List.getElem?_cons_zero]; rfl) ?_ | refine rk_cellA (by rfl) (by exact TyIs.eq) (by rfl) (by first | exact getB_N (by first | exact hB | simpa only [List.length_set] using hB) (by rfl) | exact getB_old (by first | assumption | exact getB_S (by assumption))) (Nat.le_of_ble_eq_true (by rfl)) (by simp only [List.drop_zero, List.drop_succ_cons, List.take_succ_cons, List.take_zero]; rfl) ?_)); refine retx_drop (by first | exact hB | simpa only [List.length_set] using hB) (by simp only [packR]; rfl) (by first | exact Lt.flat (by rfl) | exact Lt.aggF (by rfl) | exact Lt.tupleF (by rfl)) ?_)
        refine ⟨?_, rfl⟩
        rw [all_yes fun j c hj hc => hl j c (by omega) hc]
        simp at h1 h2 ⊢; omega
  · (refine ret_k (by first | exact .inr rfl | exact .inl rfl) ?_; (repeat (first | refine rk_nil ?_ | refine rk_tmp (by rfl) ?_ | refine rk_cell (by rfl) (by exact TyIs.eq) (by rfl) (by first | exact getB_N (by first | exact hB | simpa only [List.length_set] using hB) (by rfl) | exact getB_old (by first | assumption | exact getB_S (by assumption))) (by simp only [List.getElem?_cons_succ, List.getElem?_cons_zero]; rfl) ?_ | refine rk_cellA (by rfl) (by exact TyIs.eq) (by rfl) (by first | exact getB_N (by first | exact hB | simpa only [List.length_set] using hB) (by rfl) | exact getB_old (by first | assumption | exact getB_S (by assumption))) (Nat.le_of_ble_eq_true (by rfl)) (by simp only [List.drop_zero, List.drop_succ_cons, List.take_succ_cons, List.take_zero]; rfl) ?_)); refine retx_drop (by first | exact hB | simpa only [List.length_set] using hB) (by simp only [packR]; rfl) (by first | exact Lt.flat (by rfl) | exact Lt.aggF (by rfl) | exact Lt.tupleF (by rfl)) ?_)
    simp at h; exact ⟨by simp; intro _; omega, rfl⟩
end Go.Proofs.Ytlnkffnabifedaa.Eng
