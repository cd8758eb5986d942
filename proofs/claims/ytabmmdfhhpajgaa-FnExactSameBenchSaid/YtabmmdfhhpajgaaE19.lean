/- A text of this claim (E19): lemmas for the proof, no conditions of their own. -/
import Derived.Test.YtabmmdfhhpajgaaE18
set_option linter.unusedVariables false
set_option linter.unusedSimpArgs false
namespace Go.Proofs.Ytabmmdfhhpajgaa.Eng
open Go Go.RowKit

section
variable {P : Program} {B : Nat} {t : List Value} {H : Heap} {Q : AQ} {ops : Array Oper}

/-- A variable that was laid ahead is made. -/
theorem HRel.adopt {w0 w : World} {ι : Ren} (h : HRel w0 ι H w) {id : Nat} {b : Blk} {e : TypeId} (hi : ι id = none) (hb : H[id]? = some (some b)) (hf : ∀ v ∈ b.cells, flatV v = true) :
    HRel w0 (upd ι id ⟨w.heap.size, 0, b.cells.length, b.sz⟩) H (w.alloc (.cells ⟨b.cells⟩ e)) := by
  have hext : ∀ j L, ι j = some L → upd ι id ⟨w.heap.size, 0, b.cells.length, b.sz⟩ j = some L := fun j L hj => by
    by_cases e : j = id
    · subst e; rw [hi] at hj; simp at hj
    · simp [upd, e, hj]
  have updo : ∀ j, j ≠ id → upd ι id ⟨w.heap.size, 0, b.cells.length, b.sz⟩ j = ι j := fun j e => by simp [upd, e]
  have updn : upd ι id ⟨w.heap.size, 0, b.cells.length, b.sz⟩ id = some ⟨w.heap.size, 0, b.cells.length, b.sz⟩ := by simp [upd]
  have hnew := heap_alloc_new w (.cells ⟨b.cells⟩ e)
  have hold : ∀ k, k < w.heap.size → (w.alloc (.cells ⟨b.cells⟩ e)).heap[k]? = w.heap[k]? := fun k hk => heap_alloc_old w _ k hk
  refine ⟨h.below.trans ⟨rfl, rfl, rfl, ?_, fun k hk => hold k (by have := h.n0; omega)⟩, ?_, ?_, ?_, h.flat, ?_⟩
  · show w.heap.size ≤ (w.heap.push _).size; simp
  · intro j L hj
    by_cases e : j = id
    · subst e; exact (List.getElem?_eq_some_iff.1 hb).1
    · rw [updo j e] at hj; exact h.dom j L hj
  · intro j L b1 hj hbj
    by_cases e : j = id
    · subst e
      rw [updn] at hj; obtain rfl := Option.some.inj hj
      rw [hb] at hbj; obtain rfl := Option.some.inj (Option.some.inj hbj)
      refine ⟨_, _, _, hnew, by simp, Nat.le_refl _, rfl, fun k v hv => ⟨v, by simpa using hv, .flat (hf v (List.mem_of_getElem? hv))⟩, fun _ => ⟨h.n0, rfl⟩⟩
    · rw [updo j e] at hj
      obtain ⟨c, e1, fr, hc, h1, h2, h3, h4, h5⟩ := h.blk j L b1 hj hbj
      refine ⟨c, e1, fr, ?_, h1, h2, h3, fun k v hv => ?_, h5⟩
      · rw [hold _ (Array.getElem?_eq_some_iff.1 hc).1]; exact hc
      · obtain ⟨v', g1, g2⟩ := h4 k v hv; exact ⟨v', g1, g2.mono hext⟩
  · intro i j L M b1 b2 hi1 hj1 hne h1 hw h2
    by_cases e1 : i = id
    · subst e1
      rw [updn] at hi1; obtain rfl := Option.some.inj hi1
      rw [updo j (Ne.symm hne)] at hj1
      have := h.lt hj1 h2
      simp only; omega
    · rw [updo i e1] at hi1
      by_cases e2 : j = id
      · subst e2
        rw [updn] at hj1; obtain rfl := Option.some.inj hj1
        have := h.lt hi1 h1
        simp only; omega
      · rw [updo j e2] at hj1
        exact h.sep i j L M b1 b2 hi1 hj1 hne h1 hw h2
  · intro j b1 hbj
    exact (h.tot j b1 hbj).imp (fun ⟨L, hL⟩ => ⟨L, hext _ _ hL⟩) (fun q => q)

/-- Whether a variable is written by an operation that has not run. -/
def unl (ops : Array Oper) (L : Nat → Bool) (j : Nat) : Bool := (List.range ops.size).any fun i => match ops[i]? with | some o => !L i && o.dst == some j | none => false
def maskT (ops : Array Oper) (L : Nat → Bool) (t0 tf : List Value) : List Value := tf.mapIdx fun j v => if unl ops L j = true then (t0[j]?).getD dead else v
theorem mask_get (L : Nat → Bool) (t0 tf : List Value) (j : Nat) : (maskT ops L t0 tf)[j]? = tf[j]?.map fun v => if unl ops L j = true then (t0[j]?).getD dead else v := by
  simp [maskT, List.getElem?_mapIdx]
theorem unl_iff {L : Nat → Bool} {j : Nat} : unl ops L j = true ↔ ∃ i o, ops[i]? = some o ∧ L i = false ∧ o.dst = some j := by
  unfold unl
  rw [List.any_eq_true]
  constructor
  · rintro ⟨i, hi, h⟩
    split at h
    · rename_i o ho
      simp only [Bool.and_eq_true, Bool.not_eq_true', beq_iff_eq] at h
      exact ⟨i, o, ho, h.1, h.2⟩
    · simp at h
  · rintro ⟨i, o, ho, h1, h2⟩
    exact ⟨i, by simpa using (Array.getElem?_eq_some_iff.1 ho).1, by simp [ho, h1, h2]⟩

/-- What an operation that changes the heap does. -/
def DoesP (P : Program) (B : Nat) (o : Oper) (t : List Value) (H : Heap) (v : Value) (H' : Heap) : Prop :=
  opA (tyOf P) (eqOf P) B t H o = some (v, H') ∨
  ∃ (fo : Operand) (args : Array Operand) (tys : Array TypeId) (f : FuncId) (caps as : List Value), o.op = .call ⟨.value fo, args, tys⟩ ∧ evL t fo = some (.func (.func f) #[] ⟨caps⟩) ∧ evAllL t args.toList = some as ∧ Runs P f (as ++ caps) H (fun u G => u = v ∧ G = H')
theorem DoesP.congr {o : Oper} {t t' : List Value} {v : Value} {H' : Heap} (h : ∀ x ∈ o.op.operands, ev t' x = ev t x) (hd : DoesP P B o t H v H') : DoesP P B o t' H v H' := by
  have hL : ∀ x ∈ o.op.operands, evL t' x = evL t x := fun x hx => by simp only [evL, h x hx]
  rcases hd with hd | ⟨fo, args, tys, f, caps, as, e1, e2, e3, e4⟩
  · exact .inl (by rw [opA_congr h]; exact hd)
  · refine .inr ⟨fo, args, tys, f, caps, as, e1, ?_, ?_, e4⟩
    · rw [hL fo (by rw [e1]; simp [Op.operands, Call.operands])]; exact e2
    · rw [evAllL_congr args.toList fun x hx => hL x (by rw [e1]; simp [Op.operands, Call.operands]; exact .inr (by simpa using hx))]; exact e3
theorem DoesP.step {o : Oper} {t : List Value} {v : Value} {H' : Heap} (hd : DoesP P B o t H v H') : OpX P B o t H (fun u G => u = v ∧ G = H') := by
  rcases hd with hd | ⟨fo, args, tys, f, caps, as, e1, e2, e3, e4⟩
  · exact op_step hd ⟨rfl, rfl⟩
  · exact OpX_call e1 e2 e3 e4 fun u G h => h
/-- What an operation that leaves the heap alone does: a variable that is made was laid ahead. -/
def ReadP (P : Program) (B : Nat) (o : Oper) (t : List Value) (H : Heap) (v : Value) (id : Nat) : Prop :=
  match o.op with
  | .alloc e => ∃ d, tyOf P e = some d ∧ v = .pointer (some ⟨id, 0, none⟩) ∧ getB H id = some ⟨d.zero, 0, true, d.fl⟩
  | _ => opA (tyOf P) (eqOf P) B t H o = some (v, H)

structure Facts (P : Program) (B : Nat) (ops : Array Oper) (base : Nat) (t0 tf : List Value) (Tf : Nat → List Value) (W : Nat → Bool) (V : Nat → Value) (Hs : Nat → Heap) : Prop where
  ok : drawOk ops = true
  want : ∀ (i : Nat) (o : Oper), ops[i]? = some o → wantedA ops o (Tf i) = some (W i)
  skip : ∀ (i : Nat) (o : Oper), ops[i]? = some o → W i = false → V i = undef
  heap : ∀ (i : Nat) (o : Oper), ops[i]? = some o → isHeapO o = true → if W i = true then DoesP P B o (Tf i) (Hs (cntB (heapAt ops) i)) (V i) (Hs (cntB (heapAt ops) i + 1)) else Hs (cntB (heapAt ops) i + 1) = Hs (cntB (heapAt ops) i)
  read : ∀ (i : Nat) (o : Oper) (k : Nat), ops[i]? = some o → isHeapO o = false → W i = true → mayAt ops i k = true → k ≤ cntB (heapAt ops) ops.size → ReadP P B o (Tf i) (Hs k) (V i) (base + cntB (allocAt ops) i)
  frameL : ∀ (i : Nat) (o : Oper) (x : Nat), ops[i]? = some o → x ∈ o.looksAt ops → (∃ j oj, ops[j]? = some oj ∧ oj.dst = some x ∧ i ≤ j) → (Tf i)[x]? = t0[x]?
  frameE : ∀ (i : Nat) (o : Oper) (x : Nat), ops[i]? = some o → x ∈ o.looksAt ops → (¬ ∃ j oj, ops[j]? = some oj ∧ oj.dst = some x ∧ i ≤ j) → (Tf i)[x]? = tf[x]?
  len0 : t0.length = tf.length
  dst : ∀ (i : Nat) (o : Oper) (d : Nat) (v : Value), ops[i]? = some o → o.dst = some d → tf[d]? = some v → v = V i

theorem operand_known {base : Nat} {t0 tf : List Value} {Tf : Nat → List Value} {W : Nat → Bool} {V : Nat → Value} {Hs : Nat → Heap} (F : Facts P B ops base t0 tf Tf W V Hs) {L : Nat → Bool} (hc : Closed ops L) {i : Nat} {o : Oper} (hi : ops[i]? = some o) (hl : L i = false) (hr : ReadyAt ops L i) {x : Nat} (hx : x ∈ o.looksAt ops) : (maskT ops L t0 tf)[x]? = (Tf i)[x]? := by
  rw [mask_get]
  by_cases h : unl ops L x = true
  · obtain ⟨j, oj, hj, hlj, hd⟩ := unl_iff.1 h
    have hp := (drawOk_at F.ok hi).2 j oj hj
    simp only [pairOk, hd, Bool.and_eq_true, Bool.or_eq_true, Bool.not_eq_true'] at hp
    have hlt : i < j := by
      rcases hp.1.1 with (h1 | h1) | h1
      · have : (o.looksAt ops).contains x = true := by simpa using hx
        rw [h1] at this; simp at this
      · have := ancs_listed hc _ _ hr h1
        rw [hlj] at this; simp at this
      · exact ancs_lt F.ok _ _ h1
    rw [F.frameL i o x hi hx ⟨j, oj, hj, hd, by omega⟩]
    simp only [h, if_true]
    by_cases hxl : x < tf.length
    · have hxl0 : x < t0.length := by rw [F.len0]; exact hxl
      rw [List.getElem?_eq_getElem hxl, List.getElem?_eq_getElem hxl0]; rfl
    · have hl0 := F.len0
      rw [List.getElem?_eq_none (show tf.length ≤ x by omega), List.getElem?_eq_none (show t0.length ≤ x by omega)]; rfl
  · have hno : ¬ ∃ j oj, ops[j]? = some oj ∧ oj.dst = some x ∧ i ≤ j := by
      rintro ⟨j, oj, hj, hd, hij⟩
      have hlj : L j = true := by
        cases q : L j
        · exact absurd (unl_iff.2 ⟨j, oj, hj, q, hd⟩) h
        · rfl
      have hp := (drawOk_at F.ok hi).2 j oj hj
      simp only [pairOk, hd, Bool.and_eq_true, Bool.or_eq_true, Bool.not_eq_true'] at hp
      rcases hp.1.1 with (h1 | h1) | h1
      · have : (o.looksAt ops).contains x = true := by simpa using hx
        rw [h1] at this; simp at this
      · have := ancs_lt F.ok _ _ h1; omega
      · have := ancs_listed hc j i (fun o' ho' e' he' hb' => hc j o' hlj ho' e' he' hb') h1
        rw [hl] at this; simp at this
    rw [F.frameE i o x hi hx hno]
    have h' : unl ops L x = false := by simpa using h
    simp [h']
theorem ev_known {base : Nat} {t0 tf : List Value} {Tf : Nat → List Value} {W : Nat → Bool} {V : Nat → Value} {Hs : Nat → Heap} (F : Facts P B ops base t0 tf Tf W V Hs) {L : Nat → Bool} (hc : Closed ops L) {i : Nat} {o : Oper} (hi : ops[i]? = some o) (hl : L i = false) (hr : ReadyAt ops L i) : ∀ x ∈ o.op.operands, ev (maskT ops L t0 tf) x = ev (Tf i) x := by
  intro x hx
  cases x with
  | tmp y =>
    simp only [ev]
    refine operand_known F hc hi hl hr ?_
    unfold Oper.looksAt
    exact List.mem_append_left _ (List.mem_filterMap.2 ⟨.tmp y, by simpa using hx, rfl⟩)
  | _ => rfl
theorem want_known {base : Nat} {t0 tf : List Value} {Tf : Nat → List Value} {W : Nat → Bool} {V : Nat → Value} {Hs : Nat → Heap} (F : Facts P B ops base t0 tf Tf W V Hs) {L : Nat → Bool} (hc : Closed ops L) {i : Nat} {o : Oper} (hi : ops[i]? = some o) (hl : L i = false) (hr : ReadyAt ops L i) : wantedA ops o (maskT ops L t0 tf) = wantedA ops o (Tf i) := by
  unfold wantedA
  cases hg : o.guard with
  | none => rfl
  | some gw =>
    obtain ⟨g, want⟩ := gw
    simp only
    cases hd : (ops[g]?).bind (·.dst) with
    | none => rfl
    | some d =>
      simp only [Option.bind_some]
      rw [operand_known F hc hi hl hr (x := d)]
      unfold Oper.looksAt
      refine List.mem_append_right _ ?_
      simp [hg, hd]
/-- One more operation has run. -/
theorem mask_step {L : Nat → Bool} {t0 tf : List Value} {Tf : Nat → List Value} {W : Nat → Bool} {V : Nat → Value} {Hs : Nat → Heap} {base : Nat} (F : Facts P B ops base t0 tf Tf W V Hs) {i : Nat} {o : Oper} (hi : ops[i]? = some o) {ι : Ren} {a : Act} {v' : Value}
    (h : TS ι (maskT ops L t0 tf) a.tmps) (hv : TRel ι (V i) v') : TS ι (maskT ops (fun j => j == i || L j) t0 tf) (a.put o.dst v').tmps := by
  have hp := h.putT o.dst hv
  refine ⟨by rw [← hp.1]; cases o.dst <;> simp [putT, maskT], fun j v u h1 h2 => ?_⟩
  rw [mask_get] at h1
  cases htf : tf[j]? with
  | none => simp [htf] at h1
  | some w =>
    simp only [htf, Option.map_some, Option.some.injEq] at h1
    have hj : j < tf.length := (List.getElem?_eq_some_iff.1 htf).1
    by_cases hd : o.dst = some j
    · -- its own variable
      have hu : unl ops (fun j => j == i || L j) j = false := by
        cases hq : unl ops (fun j => j == i || L j) j
        · rfl
        · exfalso
          obtain ⟨k, ok, hk, hl, hdk⟩ := unl_iff.1 hq
          have hp2 := (drawOk_at F.ok hi).2 k ok hk
          simp only [pairOk, hdk, Bool.and_eq_true, Bool.or_eq_true, beq_iff_eq, bne_iff_ne] at hp2
          rcases hp2.1.2 with e | e
          · subst e; simp at hl
          · exact e hd
      simp only [hu, Bool.false_eq_true, if_false] at h1
      have hvi := F.dst i o j w hi hd htf
      refine hp.2 j v u ?_ h2
      rw [hd]
      simp only [putT]
      rw [List.getElem?_set]
      simp [maskT, hj, ← h1, hvi]
    · -- another's
      refine hp.2 j v u ?_ h2
      have : (putT (maskT ops L t0 tf) o.dst (V i))[j]? = (maskT ops L t0 tf)[j]? := by
        cases hd2 : o.dst with
        | none => rfl
        | some d => simp only [putT]; rw [List.getElem?_set, if_neg (fun e => hd (by rw [hd2, e]))]
      rw [this, mask_get, htf]
      simp only [Option.map_some, Option.some.injEq]
      rw [← h1]
      have : unl ops L j = unl ops (fun j => j == i || L j) j := by
        rw [Bool.eq_iff_iff, unl_iff, unl_iff]
        constructor
        · rintro ⟨k, ok, hk, hl, hdk⟩
          refine ⟨k, ok, hk, ?_, hdk⟩
          have : k ≠ i := fun e => by subst e; rw [hi] at hk; obtain rfl := Option.some.inj hk; exact hd hdk
          simp [this, hl]
        · rintro ⟨k, ok, hk, hl, hdk⟩
          refine ⟨k, ok, hk, ?_, hdk⟩
          simp at hl; exact hl.2
      rw [this]
end
end Go.Proofs.Ytabmmdfhhpajgaa.Eng
