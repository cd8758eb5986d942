/- A text of this claim (E21): lemmas for the proof, no conditions of their own. -/
import Derived.Test.YtabmmdfhhpajgaaE20
set_option linter.unusedVariables false
set_option linter.unusedSimpArgs false
namespace Go.Proofs.Ytabmmdfhhpajgaa.Eng
open Go Go.RowKit

section
variable {P : Program} {B : Nat} {t : List Value} {H : Heap} {Q : AQ} {ops : Array Oper} {base : Nat}

/-- The walk through a region in the text's order; what it yields is told in lists. -/
def DX (P : Program) (B : Nat) (ops : Array Oper) (base : Nat) : Nat → List Oper → List Value → Heap → List (Bool × Value) → List Heap → List Value → Heap → Prop
  | _, [], t, H, xs, hs, tf, Hf => xs = [] ∧ hs = [H] ∧ t = tf ∧ H = Hf
  | nal, o :: r, t, H, xs, hs, tf, Hf => ∃ (q : Bool) (v : Value) (xs' : List (Bool × Value)), xs = (q, v) :: xs' ∧ wantedA ops o t = some q ∧ (q = false → v = undef) ∧
    if isHeapO o = true then ∃ (H' : Heap) (hs' : List Heap), hs = H :: hs' ∧ (if q = true then DoesP P B o t H v H' else H' = H) ∧ DX P B ops base nal r (putT t o.dst v) H' xs' hs' tf Hf
    else (q = true → ReadP P B o t H v (base + nal)) ∧ DX P B ops base (nal + if isAllocO o = true then 1 else 0) r (putT t o.dst v) H xs' hs tf Hf
def cl (p : Oper → Bool) : List Oper → Nat → Nat
  | [], _ => 0
  | _ :: _, 0 => 0
  | o :: l, k + 1 => (if p o = true then 1 else 0) + cl p l k
theorem cl_zero (p : Oper → Bool) (l : List Oper) : cl p l 0 = 0 := by cases l <;> rfl
theorem cl_cntB (p : Oper → Bool) (f : Nat → Bool) : ∀ (l : List Oper) (k : Nat), k ≤ l.length → (∀ i o, l[i]? = some o → f i = p o) → cl p l k = cntB f k := by
  have key : ∀ (l : List Oper) (k : Nat) (f : Nat → Bool), k ≤ l.length → (∀ i o, l[i]? = some o → f i = p o) → cl p l k = cntB f k := by
    intro l
    induction l with
    | nil => intro k f hk _; have : k = 0 := by simpa using hk
             subst this; rfl
    | cons o l ih =>
      intro k f hk h
      cases k with
      | zero => rfl
      | succ k =>
        simp only [cl]
        rw [ih k (fun i => f (i + 1)) (by simpa using hk) (fun i o' ho => h (i + 1) o' (by simpa using ho))]
        have h0 := h 0 o rfl
        have sh : ∀ k, cntB f (k + 1) = (if f 0 = true then 1 else 0) + cntB (fun i => f (i + 1)) k := by
          intro k
          induction k with
          | zero => simp [cntB]
          | succ k ih2 => rw [cntB, ih2, cntB]; omega
        rw [sh, h0]
  exact fun l k => key l k f
theorem putT_len (t : List Value) (d : Option Tmp) (v : Value) : (putT t d v).length = t.length := by cases d <;> simp [putT]
theorem putT_ne {t : List Value} {d : Option Tmp} {v : Value} {j : Nat} (h : d ≠ some j) : (putT t d v)[j]? = t[j]? := by
  cases d with
  | none => rfl
  | some i => simp only [putT]; rw [List.getElem?_set, if_neg (fun e => h (by rw [e]))]

theorem DX_at : ∀ (l : List Oper) (nal : Nat) (t : List Value) (H : Heap) (xs : List (Bool × Value)) (hs : List Heap) (tf : List Value) (Hf : Heap), DX P B ops base nal l t H xs hs tf Hf →
    hs[0]? = some H ∧ hs[cl isHeapO l l.length]? = some Hf ∧ t.length = tf.length ∧ (∀ j, (∀ o ∈ l, o.dst ≠ some j) → t[j]? = tf[j]?) ∧
    ∀ (k : Nat) (o : Oper), l[k]? = some o → ∃ (q : Bool) (v : Value) (tk : List Value) (Hk : Heap), xs[k]? = some (q, v) ∧ hs[cl isHeapO l k]? = some Hk ∧ (∀ j, (∀ (k' : Nat) (o' : Oper), k ≤ k' → l[k']? = some o' → o'.dst ≠ some j) → tk[j]? = tf[j]?) ∧ wantedA ops o tk = some q ∧ (q = false → v = undef) ∧
      (isHeapO o = true → ∃ H', hs[cl isHeapO l k + 1]? = some H' ∧ (if q = true then DoesP P B o tk Hk v H' else H' = Hk)) ∧
      (isHeapO o = false → q = true → ReadP P B o tk Hk v (base + (nal + cl isAllocO l k))) ∧
      (∀ d, o.dst = some d → (∀ (k' : Nat) (o' : Oper), k < k' → l[k']? = some o' → o'.dst ≠ some d) → d < tf.length → tf[d]? = some v) ∧
      (∀ j, (∀ (k' : Nat) (o' : Oper), k' < k → l[k']? = some o' → o'.dst ≠ some j) → tk[j]? = t[j]?)
  | [], nal, t, H, xs, hs, tf, Hf, h => by
    obtain ⟨rfl, rfl, rfl, rfl⟩ := h
    exact ⟨rfl, rfl, rfl, fun _ _ => rfl, fun k o h => by simp at h⟩
  | o :: l, nal, t, H, xs, hs, tf, Hf, h => by
    obtain ⟨q, v, xs', rfl, hw, hu, h⟩ := h
    by_cases hh : isHeapO o = true
    · rw [if_pos hh] at h
      obtain ⟨H', hs', rfl, hd, h⟩ := h
      obtain ⟨g1, g2, g3, g4, g5⟩ := DX_at l nal _ H' xs' hs' tf Hf h
      rw [putT_len] at g3
      refine ⟨rfl, ?_, g3, fun j hj => ?_, fun k o' hk => ?_⟩
      · simp only [List.length_cons, cl, hh, if_true]; rw [Nat.add_comm, List.getElem?_cons_succ]; exact g2
      · rw [← g4 j fun o' ho' => hj o' (by simp [ho']), putT_ne (hj o (by simp))]
      · cases k with
        | zero =>
          simp at hk; subst hk
          refine ⟨q, v, t, H, rfl, rfl, fun j hj => ?_, hw, hu, fun _ => ⟨H', by simp [cl]; exact g1, hd⟩, fun hf => by rw [hh] at hf; simp at hf, fun d hd1 hd2 hlt => ?_, ?_⟩
          · rw [← g4 j fun o' ho' => ?_, putT_ne (hj 0 o (Nat.le_refl _) rfl)]
            obtain ⟨m, hm⟩ := List.mem_iff_getElem?.1 ho'
            exact hj (m + 1) o' (by omega) (by simpa using hm)
          · rw [← g4 d fun o' ho' => ?_]
            · rw [hd1]; simp only [putT]; rw [List.getElem?_set]; simp [g3, hlt]
            · obtain ⟨m, hm⟩ := List.mem_iff_getElem?.1 ho'
              exact hd2 (m + 1) o' (by omega) (by simpa using hm)
          · intros; rfl
        | succ k =>
          obtain ⟨q2, v2, tk, Hk, r1, r2, r3, r4, r5, r6, r7, r8, r9⟩ := g5 k o' (by simpa using hk)
          refine ⟨q2, v2, tk, Hk, by simpa using r1, ?_, fun j hj => r3 j fun k' o'' hk' ho'' => hj (k' + 1) o'' (by omega) (by simpa using ho''), r4, r5, fun hf => ?_, fun hf hq => ?_, fun d hd1 hd2 hlt => r8 d hd1 (fun k' o'' hk' ho'' => hd2 (k' + 1) o'' (by omega) (by simpa using ho'')) hlt, fun j hj => by rw [r9 j fun k' o'' hk' ho'' => hj (k' + 1) o'' (by omega) (by simpa using ho''), putT_ne (hj 0 o (by omega) rfl)]⟩
          · simp only [cl, hh, if_true]; rw [Nat.add_comm, List.getElem?_cons_succ]; exact r2
          · obtain ⟨G, s1, s2⟩ := r6 hf
            refine ⟨G, ?_, s2⟩
            simp only [cl, hh, if_true]; rw [show 1 + cl isHeapO l k + 1 = (cl isHeapO l k + 1) + 1 by omega, List.getElem?_cons_succ]; exact s1
          · have ha : isAllocO o = false := by
              unfold isHeapO at hh
              cases hq2 : isAllocO o
              · rfl
              · simp [hq2] at hh
            have := r7 hf hq
            simpa [cl, ha] using this
    · rw [if_neg hh] at h
      obtain ⟨hd, h⟩ := h
      have hh' : isHeapO o = false := by simpa using hh
      obtain ⟨g1, g2, g3, g4, g5⟩ := DX_at l _ _ H xs' hs tf Hf h
      rw [putT_len] at g3
      refine ⟨g1, ?_, g3, fun j hj => ?_, fun k o' hk => ?_⟩
      · simp only [List.length_cons, cl, hh', Bool.false_eq_true, if_false, Nat.zero_add]; exact g2
      · rw [← g4 j fun o' ho' => hj o' (by simp [ho']), putT_ne (hj o (by simp))]
      · cases k with
        | zero =>
          simp at hk; subst hk
          refine ⟨q, v, t, H, rfl, by rw [cl_zero]; exact g1, fun j hj => ?_, hw, hu, fun hf => by rw [hh'] at hf; simp at hf, fun _ hq => by simpa [cl] using hd hq, fun d hd1 hd2 hlt => ?_, ?_⟩
          · rw [← g4 j fun o' ho' => ?_, putT_ne (hj 0 o (Nat.le_refl _) rfl)]
            obtain ⟨m, hm⟩ := List.mem_iff_getElem?.1 ho'
            exact hj (m + 1) o' (by omega) (by simpa using hm)
          · rw [← g4 d fun o' ho' => ?_]
            · rw [hd1]; simp only [putT]; rw [List.getElem?_set]; simp [g3, hlt]
            · obtain ⟨m, hm⟩ := List.mem_iff_getElem?.1 ho'
              exact hd2 (m + 1) o' (by omega) (by simpa using hm)
          · intros; rfl
        | succ k =>
          obtain ⟨q2, v2, tk, Hk, r1, r2, r3, r4, r5, r6, r7, r8, r9⟩ := g5 k o' (by simpa using hk)
          refine ⟨q2, v2, tk, Hk, by simpa using r1, ?_, fun j hj => r3 j fun k' o'' hk' ho'' => hj (k' + 1) o'' (by omega) (by simpa using ho''), r4, r5, fun hf => ?_, fun hf hq => ?_, fun d hd1 hd2 hlt => r8 d hd1 (fun k' o'' hk' ho'' => hd2 (k' + 1) o'' (by omega) (by simpa using ho'')) hlt, fun j hj => by rw [r9 j fun k' o'' hk' ho'' => hj (k' + 1) o'' (by omega) (by simpa using ho''), putT_ne (hj 0 o (by omega) rfl)]⟩
          · simp only [cl, hh', Bool.false_eq_true, if_false, Nat.zero_add]; exact r2
          · obtain ⟨G, s1, s2⟩ := r6 hf
            refine ⟨G, ?_, s2⟩
            simp only [cl, hh', Bool.false_eq_true, if_false, Nat.zero_add]; exact s1
          · have := r7 hf hq
            simp only [cl]
            rw [← Nat.add_assoc nal]; exact this

def rcOk (ops : Array Oper) (rl : List (Nat × Nat)) : Bool := (List.range ops.size).all fun i => match ops[i]? with
  | some o => isHeapO o || isPure o || (List.range (cntB (heapAt ops) ops.size + 1)).all fun k => !mayAt ops i k || k == cntB (heapAt ops) i || (rl.contains (i, k) && (List.range ops.size).all fun j => match ops[j]? with
    | some oj => decide (j < i) || (match oj.dst with | some d => !(o.looksAt ops).contains d | none => true)
    | none => true)
  | none => true
/-- What has to be read again. -/
def RC (P : Program) (B : Nat) (ops : Array Oper) (base : Nat) (xs : List (Bool × Value)) (hs : List Heap) (tf : List Value) : List (Nat × Nat) → Prop
  | [] => True
  | (i, k) :: r => (∃ (o : Oper) (q : Bool) (v : Value) (Hk : Heap), ops[i]? = some o ∧ xs[i]? = some (q, v) ∧ hs[k]? = some Hk ∧ (q = true → ReadP P B o tf Hk v (base + cl isAllocO ops.toList i))) ∧ RC P B ops base xs hs tf r
theorem RC_at {xs : List (Bool × Value)} {hs : List Heap} {tf : List Value} : ∀ {rl : List (Nat × Nat)} {i k : Nat}, RC P B ops base xs hs tf rl → (i, k) ∈ rl → ∃ (o : Oper) (q : Bool) (v : Value) (Hk : Heap), ops[i]? = some o ∧ xs[i]? = some (q, v) ∧ hs[k]? = some Hk ∧ (q = true → ReadP P B o tf Hk v (base + cl isAllocO ops.toList i))
  | [], _, _, _, h => by simp at h
  | (i', k') :: r, i, k, h, hm => by
    rcases List.mem_cons.1 hm with e | hm
    · obtain ⟨rfl, rfl⟩ := Prod.mk.inj e; exact h.1
    · exact RC_at h.2 hm
theorem ReadP.congr {o : Oper} {t t' : List Value} {v : Value} {id : Nat} (h : ∀ x ∈ o.op.operands, ev t' x = ev t x) (hr : ReadP P B o t H v id) : ReadP P B o t' H v id := by
  unfold ReadP at hr ⊢
  split at hr
  · exact hr
  · rw [opA_congr h]; exact hr

/-- A region that draws its order, walked through in the text's order. -/
theorem Ex_dr (hm : P.follows .mixedOrders = true) {id : Nat} {pre : List (Option Blk)} {xs : List (Bool × Value)} {hs : List Heap} {tf : List Value} {H1 Hf : Heap} (rl : List (Nat × Nat)) (hok : drawOk ops = true) (hrl : rcOk ops rl = true)
    (hp : pre.length = cl isAllocO ops.toList ops.toList.length) (hpf : pre.all (fun b => match b with | some b => b.cells.all flatV | none => true) = true) (hH : H ++ pre = H1)
    (hw : DX P B ops H.length 0 ops.toList t H1 xs hs tf Hf) (hrc : RC P B ops H.length xs hs tf rl) (k : Q .normal tf Hf) : Ex P B (.region id ops true) t H Q := by
  subst hH
  obtain ⟨g1, g2, g3, g4, g5⟩ := DX_at _ _ _ _ _ _ _ _ hw
  have cH : ∀ i, i ≤ ops.size → cl isHeapO ops.toList i = cntB (heapAt ops) i := fun i hi => cl_cntB isHeapO (heapAt ops) ops.toList i (by simpa using hi) fun j o hj => by
    rw [Array.getElem?_toList] at hj; simp [heapAt, hj]
  have cA : ∀ i, i ≤ ops.size → cl isAllocO ops.toList i = cntB (allocAt ops) i := fun i hi => cl_cntB isAllocO (allocAt ops) ops.toList i (by simpa using hi) fun j o hj => by
    rw [Array.getElem?_toList] at hj; simp [allocAt, hj]
  have hsz : ops.toList.length = ops.size := by simp
  rw [hsz, cH _ (Nat.le_refl _)] at g2
  rw [hsz, cA _ (Nat.le_refl _)] at hp
  let W : Nat → Bool := fun i => ((xs[i]?).getD (false, undef)).1
  let V : Nat → Value := fun i => ((xs[i]?).getD (false, undef)).2
  let Hs : Nat → Heap := fun k => (hs[k]?).getD []
  have at' : ∀ (i : Nat), ∃ tk : List Value, ∀ (o : Oper), ops[i]? = some o → ∃ (Hk : Heap), hs[cntB (heapAt ops) i]? = some Hk ∧ xs[i]? = some (W i, V i) ∧ wantedA ops o tk = some (W i) ∧ (W i = false → V i = undef) ∧
      (isHeapO o = true → ∃ H', hs[cntB (heapAt ops) i + 1]? = some H' ∧ (if W i = true then DoesP P B o tk Hk (V i) H' else H' = Hk)) ∧
      (isHeapO o = false → W i = true → ReadP P B o tk Hk (V i) (H.length + cntB (allocAt ops) i)) ∧ (∀ d v, o.dst = some d → tf[d]? = some v → v = V i) ∧
      (∀ j, (∀ (k' : Nat) (o' : Oper), i ≤ k' → ops[k']? = some o' → o'.dst ≠ some j) → tk[j]? = tf[j]?) ∧
      (∀ j, (∀ (k' : Nat) (o' : Oper), k' < i → ops[k']? = some o' → o'.dst ≠ some j) → tk[j]? = t[j]?) := by
    intro i
    cases ho0 : ops[i]? with
    | none => exact ⟨[], fun o ho => by simp at ho⟩
    | some o0 =>
    have hn : i < ops.size := (Array.getElem?_eq_some_iff.1 ho0).1
    obtain ⟨q, v, tk, Hk, r1, r2, r3, r4, r5, r6, r7, r8, r9⟩ := g5 i o0 (by rw [Array.getElem?_toList]; exact ho0)
    refine ⟨tk, fun o ho => ?_⟩
    obtain rfl := Option.some.inj ho
    have hW : W i = q := by simp [W, r1]
    have hV : V i = v := by simp [V, r1]
    rw [cH i (by omega)] at r2 r6
    rw [cA i (by omega), Nat.zero_add] at r7
    refine ⟨Hk, r2, by rw [hW, hV]; exact r1, by rw [hW]; exact r4, by rw [hW, hV]; exact r5, by rw [hW, hV]; exact r6, by rw [hW, hV]; exact r7, fun d u hd hu => ?_, fun j hj => r3 j fun k' o' hk' ho' => hj k' o' hk' (by rw [← Array.getElem?_toList]; exact ho'), fun j hj => r9 j fun k' o' hk' ho' => hj k' o' hk' (by rw [← Array.getElem?_toList]; exact ho')⟩
    have hlt : d < tf.length := (List.getElem?_eq_some_iff.1 hu).1
    have := r8 d hd (fun k' o' hk' ho' hd' => by
      rw [Array.getElem?_toList] at ho'
      have hp := (drawOk_at hok ho0).2 k' o' ho'
      simp only [pairOk, hd', Bool.and_eq_true, Bool.or_eq_true, beq_iff_eq, bne_iff_ne] at hp
      rcases hp.1.2 with e | e
      · omega
      · exact e hd) hlt
    rw [hV]; rw [this] at hu; exact (Option.some.inj hu).symm
  obtain ⟨Tf, at'⟩ := Classical.axiomOfChoice at'
  have F : Facts P B ops H.length t tf Tf W V Hs := by
    refine ⟨hok, fun i o ho => ?_, fun i o ho hq => ?_, fun i o ho hh => ?_, fun i o k ho hh hq hk hkm => ?_, fun i o x ho hx hj => ?_, fun i o x ho hx hj => ?_, g3, fun i o d v ho hd hv => ?_⟩
    · obtain ⟨Hk, _, _, r, _⟩ := at' i o ho; exact r
    · obtain ⟨Hk, _, _, _, r, _⟩ := at' i o ho; exact r hq
    · obtain ⟨Hk, r1, _, _, _, r6, _⟩ := at' i o ho
      obtain ⟨H', s1, s2⟩ := r6 hh
      have e1 : Hs (cntB (heapAt ops) i) = Hk := by simp [Hs, r1]
      have e2 : Hs (cntB (heapAt ops) i + 1) = H' := by simp [Hs, s1]
      rw [e1, e2]
      exact s2
    · obtain ⟨Hk, r1, r2, _, _, _, hr, _, hE, _⟩ := at' i o ho
      have hn : i < ops.size := (Array.getElem?_eq_some_iff.1 ho).1
      have hr := hr hh hq
      have e1 : Hs (cntB (heapAt ops) i) = Hk := by simp [Hs, r1]
      by_cases hpu : isPure o = true
      · unfold ReadP at hr ⊢
        split
        · rename_i e he; simp [isPure, he] at hpu
        · rename_i hne
          split at hr
          · rename_i e he; exact absurd he (hne e)
          · exact (opA_pure hpu hr).2 _
      · by_cases hkp : k = cntB (heapAt ops) i
        · subst hkp; rw [e1]; exact hr
        · have hall := List.all_eq_true.1 hrl i (by simpa using hn)
          rw [ho] at hall
          have hpu' : isPure o = false := by simpa using hpu
          simp only [hh, hpu', Bool.false_or] at hall
          have := List.all_eq_true.1 hall k (by simp; omega)
          have hkp' : (k == cntB (heapAt ops) i) = false := by simpa using hkp
          simp only [hk, hkp', Bool.not_true, Bool.false_or, Bool.and_eq_true] at this
          obtain ⟨hin, hlate⟩ := this
          obtain ⟨o2, q2, v2, Hk2, s1, s2, s3, s4⟩ := RC_at hrc (by simpa using hin)
          rw [ho] at s1; obtain rfl := Option.some.inj s1
          rw [r2] at s2
          obtain ⟨e3, e4⟩ := Prod.mk.inj (Option.some.inj s2)
          have e5 : Hs k = Hk2 := by simp [Hs, s3]
          rw [e5, e4, ← cA i (by omega)]
          refine (s4 (by rw [← e3]; exact hq)).congr fun x hx => ?_
          cases x with
          | tmp y =>
            simp only [ev]
            refine hE y fun k' o' hk' ho' hd => ?_
            have hk'n : k' < ops.size := (Array.getElem?_eq_some_iff.1 ho').1
            have h9 := List.all_eq_true.1 hlate k' (by simpa using hk'n)
            rw [ho'] at h9
            simp only [hd, Bool.or_eq_true, decide_eq_true_eq, Bool.not_eq_true'] at h9
            rcases h9 with h9 | h9
            · omega
            · have : (o.looksAt ops).contains y = true := by
                simp only [List.contains_iff_mem]
                unfold Oper.looksAt
                exact List.mem_append_left _ (List.mem_filterMap.2 ⟨.tmp y, by simpa using hx, rfl⟩)
              rw [h9] at this; simp at this
          | _ => rfl
    · obtain ⟨Hk, _, _, _, _, _, _, _, _, hL⟩ := at' i o ho
      obtain ⟨j, oj, hj1, hj2, hj3⟩ := hj
      refine hL x fun k' o' hk' ho' hd => ?_
      have hp := (drawOk_at hok hj1).2 k' o' ho'
      simp only [pairOk, hd, Bool.and_eq_true, Bool.or_eq_true, beq_iff_eq, bne_iff_ne] at hp
      rcases hp.1.2 with e | e
      · omega
      · exact e hj2
    · obtain ⟨Hk, _, _, _, _, _, _, _, hE, _⟩ := at' i o ho
      exact hE x fun k' o' hk' ho' hd => hj ⟨k', o', ho', hd, hk'⟩
    · obtain ⟨Hk, _, _, _, _, _, _, r, _⟩ := at' i o ho; exact r d v hd hv
  refine Ex_drawn hm (base := H.length) (pre := pre) rfl hp (fun b hb v hv => ?_) (by simp [Hs, g1]) g3 (fun j hj => g4 j fun o ho hd => ?_) F ?_
  · have := List.all_eq_true.1 hpf (some b) hb
    exact List.all_eq_true.1 this v hv
  · obtain ⟨i, hi⟩ := List.mem_iff_getElem?.1 ho
    have : unl ops (fun _ => false) j = true := unl_iff.2 ⟨i, o, by rw [← Array.getElem?_toList]; exact hi, rfl, hd⟩
    rw [hj] at this; simp at this
  · have : Hs (cntB (heapAt ops) ops.size) = Hf := by simp [Hs, g2]
    rw [this]; exact k
end
end Go.Proofs.Ytabmmdfhhpajgaa.Eng
