/- A text of this claim (E18): lemmas for the proof, no conditions of their own. -/
import Derived.Test.YtabmmdfhhpajgaaE17
set_option linter.unusedVariables false
set_option linter.unusedSimpArgs false
namespace Go.Proofs.Ytabmmdfhhpajgaa.Eng
open Go Go.RowKit

/-! ### the order of a region -/
/-- What goes before an operation, as bits. -/
def maskOf (tab : List Nat) (o : Oper) : Nat := o.after.toList.foldl (fun m e => if Region.binds .any e = true then m ||| (1 <<< e.on) ||| tab.getD e.on 0 else m) 0
def tabL : List Oper → List Nat → List Nat
  | [], tab => tab
  | o :: r, tab => tabL r (tab ++ [maskOf tab o])
def anc (ops : Array Oper) (i j : Nat) : Bool := ((tabL ops.toList []).getD i 0).testBit j
def isAllocO (o : Oper) : Bool := match o.op with | .alloc _ => true | _ => false
def isReadO (o : Oper) : Bool := match o.op with | .load _ _ => true | .slice _ _ _ _ _ => true | _ => false
def isHeapO (o : Oper) : Bool := !(isPure o || isAllocO o || isReadO o)
def heapAt (ops : Array Oper) (i : Nat) : Bool := match ops[i]? with | some o => isHeapO o | none => false
def allocAt (ops : Array Oper) (i : Nat) : Bool := match ops[i]? with | some o => isAllocO o | none => false
/-- How many of the first i operations change the heap (make a variable). -/
def cntB (p : Nat → Bool) : Nat → Nat
  | 0 => 0
  | i + 1 => cntB p i + (if p i = true then 1 else 0)
def pairOk (ops : Array Oper) (i : Nat) (o : Oper) (j : Nat) (oj : Oper) : Bool :=
  (match oj.dst with
    | some d => (!(o.looksAt ops).contains d || anc ops i j || anc ops j i) && (i == j || o.dst != some d)
    | none => true) &&
  (!(isHeapO o && isHeapO oj) || i == j || anc ops i j || anc ops j i)
def drawOk (ops : Array Oper) : Bool :=
  (List.range ops.size).all fun i => match ops[i]? with
    | none => false
    | some o => o.after.toList.all (fun e => !Region.binds .any e || decide (e.on < i)) && (List.range ops.size).all fun j => match ops[j]? with
      | none => false
      | some oj => pairOk ops i o j oj
/-- The heaps at which operation i may read. -/
def mayAt (ops : Array Oper) (i k : Nat) : Bool :=
  (List.range ops.size).all fun j => !heapAt ops j || ((!anc ops i j || decide (cntB (heapAt ops) j < k)) && (!anc ops j i || decide (k ≤ cntB (heapAt ops) j)))

section
variable {P : Program} {B : Nat} {t : List Value} {H : Heap} {Q : AQ} {ops : Array Oper}

theorem drawOk_at (h : drawOk ops = true) {i : Nat} {o : Oper} (hi : ops[i]? = some o) : (∀ e ∈ o.after.toList, Region.binds .any e = true → e.on < i) ∧ ∀ (j : Nat) (oj : Oper), ops[j]? = some oj → pairOk ops i o j oj = true := by
  have hlt : i < ops.size := (Array.getElem?_eq_some_iff.1 hi).1
  have := List.all_eq_true.1 h i (by simpa using hlt)
  rw [hi] at this
  simp only [Bool.and_eq_true] at this
  refine ⟨fun e he hb => by have := List.all_eq_true.1 this.1 e he; rw [hb] at this; simpa using this, fun j oj hj => ?_⟩
  have hjt : j < ops.size := (Array.getElem?_eq_some_iff.1 hj).1
  have h2 := List.all_eq_true.1 this.2 j (by simpa using hjt)
  rw [hj] at h2
  exact h2

theorem heapAt_some {i : Nat} (h : heapAt ops i = true) : ∃ o, ops[i]? = some o ∧ isHeapO o = true := by
  unfold heapAt at h
  split at h
  · exact ⟨_, by assumption, h⟩
  · simp at h
/-- What is listed is closed under what goes before. -/
def Closed (ops : Array Oper) (L : Nat → Bool) : Prop := ∀ (i : Nat) (o : Oper), L i = true → ops[i]? = some o → ∀ e ∈ o.after.toList, Region.binds .any e = true → L e.on = true
def ReadyAt (ops : Array Oper) (L : Nat → Bool) (i : Nat) : Prop := ∀ o, ops[i]? = some o → ∀ e ∈ o.after.toList, Region.binds .any e = true → L e.on = true
theorem mask_bit (tab : List Nat) (j : Nat) : ∀ (es : List Edge) (m : Nat), (es.foldl (fun m e => if Region.binds .any e = true then m ||| (1 <<< e.on) ||| tab.getD e.on 0 else m) m).testBit j = true →
    m.testBit j = true ∨ ∃ e ∈ es, Region.binds .any e = true ∧ (j = e.on ∨ (tab.getD e.on 0).testBit j = true)
  | [], m, h => .inl h
  | e :: es, m, h => by
    simp only [List.foldl_cons] at h
    rcases mask_bit tab j es _ h with h1 | ⟨e', he', h2⟩
    · split at h1
      · rename_i hb
        simp only [Nat.testBit_or, Bool.or_eq_true, Nat.one_shiftLeft, Nat.testBit_two_pow, decide_eq_true_eq] at h1
        rcases h1 with (h1 | h1) | h1
        · exact .inl h1
        · exact .inr ⟨e, by simp, hb, .inl h1.symm⟩
        · exact .inr ⟨e, by simp, hb, .inr h1⟩
      · exact .inl h1
    · exact .inr ⟨e', by simp [he'], h2⟩
theorem tabL_at : ∀ (r : List Oper) (tab : List Nat), (tabL r tab).length = tab.length + r.length ∧ (∀ k, k < tab.length → (tabL r tab)[k]? = tab[k]?) ∧
    ∀ (k : Nat) (o : Oper), r[k]? = some o → (tabL r tab)[tab.length + k]? = some (maskOf ((tabL r tab).take (tab.length + k)) o)
  | [], tab => ⟨by simp [tabL], fun _ _ => rfl, fun k o h => by simp at h⟩
  | o :: r, tab => by
    obtain ⟨h1, h2, h3⟩ := tabL_at r (tab ++ [maskOf tab o])
    refine ⟨by simp only [tabL, h1]; simp; omega, fun k hk => ?_, fun k o' hk => ?_⟩
    · simp only [tabL]
      rw [h2 k (by simp; omega), List.getElem?_append_left hk]
    · simp only [tabL]
      cases k with
      | zero =>
        simp at hk; subst hk
        rw [Nat.add_zero, h2 tab.length (by simp)]
        have : (tabL r (tab ++ [maskOf tab o])).take tab.length = tab := by
          apply List.ext_getElem?
          intro q
          rw [List.getElem?_take]
          by_cases hq : q < tab.length
          · rw [if_pos hq, h2 q (by simp; omega), List.getElem?_append_left hq]
          · rw [if_neg hq, List.getElem?_eq_none (by omega)]
        rw [this]; simp
      | succ k =>
        have := h3 k o' (by simpa using hk)
        simp only [List.length_append, List.length_cons, List.length_nil, Nat.zero_add] at this
        rw [show tab.length + (k + 1) = tab.length + 1 + k by omega]
        exact this
theorem anc_cases {i j : Nat} (h : anc ops i j = true) : ∃ o, ops[i]? = some o ∧ ∃ e ∈ o.after.toList, Region.binds .any e = true ∧ (j = e.on ∨ (e.on < i ∧ anc ops e.on j = true)) := by
  unfold anc at h
  obtain ⟨h1, _, h3⟩ := tabL_at ops.toList []
  have hlt : i < ops.size := by
    by_cases hi : i < ops.size
    · exact hi
    · rw [List.getD_eq_getElem?_getD, List.getElem?_eq_none (by rw [h1]; simp; omega)] at h; simp at h
  have ho : ops[i]? = some ops[i] := by simp [hlt]
  have hm := h3 i ops[i] (by rw [Array.getElem?_toList]; exact ho)
  simp only [List.length_nil, Nat.zero_add] at hm
  rw [List.getD_eq_getElem?_getD, hm] at h
  refine ⟨_, ho, ?_⟩
  rw [Option.getD_some] at h
  unfold maskOf at h
  rcases mask_bit _ j _ _ h with hz | ⟨e, he, hb, hc⟩
  · simp at hz
  · refine ⟨e, he, hb, hc.imp (fun q => q) fun hc => ?_⟩
    rw [List.getD_eq_getElem?_getD, List.getElem?_take] at hc
    split at hc
    · rename_i hl
      exact ⟨hl, by unfold anc; rw [List.getD_eq_getElem?_getD]; exact hc⟩
    · simp at hc
theorem ancs_listed {L : Nat → Bool} (hc : Closed ops L) : ∀ (i j : Nat), ReadyAt ops L i → anc ops i j = true → L j = true := by
  intro i
  induction i using Nat.strongRecOn with
  | _ i ih =>
    intro j hr h
    obtain ⟨o, ho, e, he, hb, h2⟩ := anc_cases h
    have hl := hr o ho e he hb
    rcases h2 with rfl | ⟨hlt, h2⟩
    · exact hl
    · exact ih e.on hlt j (fun o' ho' e' he' hb' => hc e.on o' hl ho' e' he' hb') h2
theorem ancs_lt (h : drawOk ops = true) : ∀ (i j : Nat), anc ops i j = true → j < i := by
  intro i
  induction i using Nat.strongRecOn with
  | _ i ih =>
    intro j h2
    obtain ⟨o, ho, e, he, hb, h3⟩ := anc_cases h2
    have hlt := (drawOk_at h ho).1 e he hb
    rcases h3 with rfl | ⟨_, h3⟩
    · exact hlt
    · exact Nat.lt_trans (ih e.on hlt j h3) hlt
theorem cntB_mono {p : Nat → Bool} {i j : Nat} (h : i ≤ j) : cntB p i ≤ cntB p j := by
  induction h with
  | refl => exact Nat.le_refl _
  | step h ih => simp only [cntB]; omega
theorem cntB_lt {p : Nat → Bool} {i j : Nat} (h : i < j) (hp : p i = true) : cntB p i < cntB p j := by
  have : cntB p (i + 1) ≤ cntB p j := cntB_mono h
  simp only [cntB, hp, if_true] at this
  omega
theorem cntB_congr {p q : Nat → Bool} : ∀ (n : Nat), (∀ i, i < n → p i = q i) → cntB p n = cntB q n
  | 0, _ => rfl
  | n + 1, h => by simp only [cntB]; rw [cntB_congr n fun i hi => h i (by omega), h n (by omega)]
theorem cntB_none {p : Nat → Bool} {m : Nat} : ∀ (n : Nat), m ≤ n → (∀ i, m ≤ i → i < n → p i = false) → cntB p n = cntB p m
  | 0, h, _ => by have : m = 0 := by omega
                  subst this; rfl
  | n + 1, h, hp => by
    by_cases e : m = n + 1
    · subst e; rfl
    · simp only [cntB, hp n (by omega) (by omega)]
      have := cntB_none n (by omega) fun i hi hj => hp i hi (by omega)
      simpa using this
/-- The heap operations that are listed are the first ones. -/
theorem heap_first (h : drawOk ops = true) {L : Nat → Bool} (hc : Closed ops L) {j : Nat} (hj : heapAt ops j = true) (hn : j < ops.size) :
    L j = true ↔ cntB (heapAt ops) j < cntB (fun i => heapAt ops i && L i) ops.size := by
  -- a listed one has all elder ones listed
  have elder : ∀ a b : Nat, a < b → heapAt ops a = true → heapAt ops b = true → L b = true → L a = true := by
    intro a b hab ha hb hlb
    obtain ⟨oa, hoa, ha⟩ := heapAt_some ha
    obtain ⟨ob, hob, hb⟩ := heapAt_some hb
    have hp := (drawOk_at h hob).2 a oa hoa
    simp only [pairOk, Bool.and_eq_true] at hp
    have h2 := hp.2
    simp only [ha, hb, Bool.and_self, Bool.not_true, Bool.false_or, Bool.or_eq_true, beq_iff_eq] at h2
    rcases h2 with (h2 | h2) | h2
    · omega
    · exact ancs_listed hc b a (fun o' ho' e' he' hb' => hc b o' hlb ho' e' he' hb') h2
    · have := ancs_lt h _ _ h2; omega
  constructor
  · intro hl
    have e1 : cntB (heapAt ops) j = cntB (fun i => heapAt ops i && L i) j := cntB_congr j fun i hi => by
      by_cases hh : heapAt ops i = true
      · simp [elder i j hi hh hj hl]
      · simp [hh]
    rw [e1]
    exact cntB_lt hn (by simp [hj, hl])
  · intro hlt
    by_cases hl : L j = true
    · exact hl
    · exfalso
      have e1 : cntB (fun i => heapAt ops i && L i) ops.size = cntB (fun i => heapAt ops i && L i) j := cntB_none ops.size (by omega) fun i hi hi2 => by
        by_cases hh : heapAt ops i = true
        · by_cases e : i = j
          · subst e; simp [hl]
          · cases hli : L i
            · simp
            · exact absurd (elder j i (by omega) hj hh hli) hl
        · simp [hh]
      have e2 : cntB (fun i => heapAt ops i && L i) j ≤ cntB (heapAt ops) j := by
        have : ∀ n, cntB (fun i => heapAt ops i && L i) n ≤ cntB (heapAt ops) n := by
          intro n
          induction n with
          | zero => exact Nat.le_refl _
          | succ n ih => simp only [cntB]; by_cases hh : heapAt ops n = true <;> by_cases hL : L n = true <;> simp [hh, hL] <;> omega
        exact this j
      omega
/-- A heap operation that is ready comes next. -/
theorem heap_next (h : drawOk ops = true) {L : Nat → Bool} (hc : Closed ops L) {j : Nat} (hj : heapAt ops j = true) (hn : j < ops.size) (hl : L j = false) (hr : ReadyAt ops L j) :
    cntB (fun i => heapAt ops i && L i) ops.size = cntB (heapAt ops) j := by
  have elder : ∀ a, a < j → heapAt ops a = true → L a = true := by
    intro a hab ha
    obtain ⟨oa, hoa, ha⟩ := heapAt_some ha
    obtain ⟨ob, hob, hj'⟩ := heapAt_some hj
    have hp := (drawOk_at h hob).2 a oa hoa
    simp only [pairOk, Bool.and_eq_true] at hp
    have h2 := hp.2
    simp only [ha, hj', Bool.and_self, Bool.not_true, Bool.false_or, Bool.or_eq_true, beq_iff_eq] at h2
    rcases h2 with (h2 | h2) | h2
    · omega
    · exact ancs_listed hc j a hr h2
    · have := ancs_lt h _ _ h2; omega
  have e1 : cntB (heapAt ops) j = cntB (fun i => heapAt ops i && L i) j := cntB_congr j fun i hi => by
    by_cases hh : heapAt ops i = true
    · simp [elder i hi hh]
    · simp [hh]
  rw [e1]
  refine cntB_none ops.size (by omega) fun i hi hi2 => ?_
  by_cases hh : heapAt ops i = true
  · by_cases e : i = j
    · subst e; simp [hl]
    · cases hli : L i
      · simp
      · have := (heap_first h hc hh hi2).1 hli
        have h3 : cntB (heapAt ops) j < cntB (heapAt ops) i := cntB_lt (by omega) hj
        have := (heap_first h hc hj hn).2 (by omega)
        rw [hl] at this; simp at this
  · simp [hh]
/-- Where an operation may stand. -/
theorem may_ok (h : drawOk ops = true) {L : Nat → Bool} (hc : Closed ops L) {i : Nat} (hl : L i = false) (hr : ReadyAt ops L i) : mayAt ops i (cntB (fun i => heapAt ops i && L i) ops.size) = true := by
  refine List.all_eq_true.2 fun j hj => ?_
  have hj' : j < ops.size := by simpa using hj
  by_cases hh : heapAt ops j = true
  · simp only [hh, Bool.not_true, Bool.false_or, Bool.and_eq_true, Bool.or_eq_true, Bool.not_eq_true', decide_eq_true_eq]
    constructor
    · by_cases hm : anc ops i j = true
      · exact .inr ((heap_first h hc hh hj').1 (ancs_listed hc _ _ hr hm))
      · exact .inl (by simpa using hm)
    · by_cases hm : anc ops j i = true
      · refine .inr (Nat.le_of_not_lt fun hlt => ?_)
        have hlj := (heap_first h hc hh hj').2 hlt
        have := ancs_listed hc j i (fun o' ho' e' he' hb' => hc j o' hlj ho' e' he' hb') hm
        rw [hl] at this; simp at this
      · exact .inl (by simpa using hm)
  · simp [hh]
end
end Go.Proofs.Ytabmmdfhhpajgaa.Eng
