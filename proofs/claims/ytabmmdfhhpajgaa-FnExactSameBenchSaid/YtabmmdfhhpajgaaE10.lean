/- A text of this claim (E10): lemmas for the proof, no conditions of their own. -/
import Derived.Test.YtabmmdfhhpajgaaE9
set_option linter.unusedVariables false
set_option linter.unusedSimpArgs false
namespace Go.Proofs.Ytabmmdfhhpajgaa.Eng
open Go Go.RowKit

section
variable {P : Program} {T : Ty} {w0 w : World} {ι : Ren} {H : Heap} {t : List Value} {a : Act} {B : Nat}

theorem optInt_rel (hs : TS ι t a.tmps) {x : Option Operand} {l : Option Int} (h : optInt t x = some l) : IsInt l (x.map a.eval) := by
  cases x with
  | none => simp [optInt] at h; subst h; trivial
  | some x =>
    simp only [optInt] at h
    split at h
    · rename_i k n hv
      obtain rfl := Option.some.inj h
      have := evL_rel hs hv
      simp only [Option.map_some]
      cases hq : a.eval x <;> rw [hq] at this <;> cases this
      rfl
    · simp at h

theorem stepVal {H' : Heap} {v : Value} {s : Sem Value} (h : StepOk w0 ι B H ((s.run P w).andThen fun u w => .ok (Next.value u) w) v H') : StepOk w0 ι B H ((do pure (Next.value (← s)) : Sem Next).run P w) v H' := by
  simpa [Sem.run_bind] using h

theorem builtinA_run (hT : TyOk P T) (hH : HRel w0 ι H w) (hB : B ≤ H.length) {b : Builtin} {tys : Array TypeId} {ty : TypeId} {cs : Array Bool} {args args' : List Value} {v : Value} {H' : Heap} (hr : LRel ι args args') (h : builtinA T B b tys.toList args H = some (v, H')) :
    StepOk w0 ι B H ((builtin b tys ty cs ⟨args'⟩).run P w) v H' := by
  unfold builtinA at h
  split at h
  · rename_i t1 r x r2 htys
    obtain ⟨x', r', rfl, hx, _⟩ := hr.inv_cons
    cases hl : lenA T t1 x with
    | none => simp [hl] at h
    | some u =>
      simp only [hl, Option.map_some, Option.some.injEq, Prod.mk.injEq] at h; obtain ⟨rfl, rfl⟩ := h
      obtain ⟨v', g1, g2⟩ := lenA_run (P := P) (w := w) (rt := ty) (args' := ⟨x' :: r'⟩) hT (by rw [← Array.getElem?_toList, htys]; rfl) rfl hx hl
      exact StepOk.pure hH (by simp [builtin, g1]) (.inr g2)
  · rename_i x r
    obtain ⟨x', r', rfl, hx, hr'⟩ := hr.inv_cons
    cases hl : maxA x r with
    | none => simp [hl] at h
    | some u =>
      simp only [hl, Option.map_some, Option.some.injEq, Prod.mk.injEq] at h; obtain ⟨rfl, rfl⟩ := h
      obtain ⟨v', g1, g2⟩ := maxA_run (P := P) (w := w) r r' x x' _ hx hr' hl
      exact StepOk.pure hH (by simp [builtin, Builtin.max_, g1]) (.inr g2)
  · rename_i x r
    obtain ⟨x', r', rfl, hx, hr'⟩ := hr.inv_cons
    cases hl : minA x r with
    | none => simp [hl] at h
    | some u =>
      simp only [hl, Option.map_some, Option.some.injEq, Prod.mk.injEq] at h; obtain ⟨rfl, rfl⟩ := h
      obtain ⟨v', g1, g2⟩ := minA_run (P := P) (w := w) r r' x x' _ hx hr' hl
      exact StepOk.pure hH (by simp [builtin, Builtin.min_, g1]) (.inr g2)
  · rename_i t1 t2 s x htys
    obtain ⟨s', r', rfl, hs, hr'⟩ := hr.inv_cons
    obtain ⟨x', r', rfl, hx, hr''⟩ := hr'.inv_cons
    have : r' = [] := List.eq_nil_of_length_eq_zero (by have := hr''.1; simpa using this.symm)
    subst this
    have e : tys = #[t1, t2] := Array.ext' (by simpa using htys)
    subst e
    exact stepVal (appendA_run (ty := ty) hT hH hB hs hx h)
  · rename_i t1 r d s htys
    obtain ⟨d', r', rfl, hd, hr'⟩ := hr.inv_cons
    obtain ⟨s', r', rfl, hs, hr''⟩ := hr'.inv_cons
    have : r' = [] := List.eq_nil_of_length_eq_zero (by have := hr''.1; simpa using this.symm)
    subst this
    exact stepVal (copyA_run (ty := ty) hT hH hB (by rw [← Array.getElem?_toList, htys]; rfl) hd hs h)
  · rename_i t1 x htys
    obtain ⟨x', r', rfl, hx, hr'⟩ := hr.inv_cons
    have : r' = [] := List.eq_nil_of_length_eq_zero (by have := hr'.1; simpa using this.symm)
    subst this
    have e : tys = #[t1] := Array.ext' (by simpa using htys)
    subst e
    exact stepVal (clearA_run (ty := ty) hT hH hB hx h)
  · simp at h

theorem eqA_rel {eqOk : Nat → Bool} : ∀ (n t : Nat) (x y x' y' : Value) (r : Bool), VRel ι x x' → VRel ι y y' → eqA T eqOk n t x y = some r → eqA T eqOk n t x' y' = some r
  | 0, _, _, _, _, _, _, _, _, h => by simp [eqA] at h
  | n + 1, t, x, y, x', y', r, hx, hy, h => by
    simp only [eqA] at h ⊢
    cases hd : T t with
    | none => simp [hd] at h
    | some d =>
      simp only [hd] at h ⊢
      split at h
      · cases hx; cases hy; simp_all
      · cases hx; cases hy; simp_all
      · cases hx; cases hy; simp_all
      · rename_i fs xs ys e1
        simp only [e1]
        cases hx with
        | agg xs1 xs2 hl1 h1 =>
        cases hy with
        | agg ys1 ys2 hl2 h2 =>
        simp only at h ⊢
        split at h
        · rename_i hok
          rw [if_pos hok]
          have : ∀ (fs : List Field) (r : Bool), eqFieldsA T (eqA T eqOk n) fs xs1 ys1 = some r → eqFieldsA T (eqA T eqOk n) fs xs2 ys2 = some r := by
            intro fs
            induction fs with
            | nil => intro r h; simpa [eqFieldsA] using h
            | cons f fs ih =>
              intro r h
              simp only [eqFieldsA] at h ⊢
              split at h
              · simp at h
              · rename_i hn
                rw [if_neg hn]
                split at h
                · rename_i p q hp hq
                  obtain ⟨p', g1, g2⟩ := partL_rel (ι := ι) (T := T) ⟨hl1, h1⟩ hp
                  obtain ⟨q', g3, g4⟩ := partL_rel (ι := ι) (T := T) ⟨hl2, h2⟩ hq
                  simp only [g1, g3]
                  split at h
                  · rename_i u v hu hv
                    rw [eqA_rel n _ _ _ _ _ _ g2 g4 hu, ih _ hv]
                    exact h
                  · simp at h
                · simp at h
          exact this fs.toList r h
        · simp at h
      · simp at h

theorem binA_rel {eqOk : Nat → Bool} {op : BinOp} {t : Nat} {x y x' y' v : Value} (hx : VRel ι x x') (hy : VRel ι y y') (h : binA T eqOk op t x y = some v) : binA T eqOk op t x' y' = some v := by
  have hcase : (flatV x = true ∧ flatV y = true) ∨ (∃ xs ys, x = .agg xs ∧ y = .agg ys) := by
    unfold binA at h
    split at h <;> first | exact .inl ⟨rfl, rfl⟩ | exact .inr ⟨_, _, rfl, rfl⟩ | simp at h
  rcases hcase with ⟨h1, h2⟩ | ⟨xs, ys, rfl, rfl⟩
  · rw [hx.flat_eq h1, hy.flat_eq h2]; exact h
  · obtain ⟨xs', rfl⟩ : ∃ xs', x' = .agg xs' := by cases hx; exact ⟨_, rfl⟩
    obtain ⟨ys', rfl⟩ : ∃ ys', y' = .agg ys' := by cases hy; exact ⟨_, rfl⟩
    cases op <;> simp only [binA] at h ⊢ <;> first | (simp at h; done) | skip
    all_goals
      cases he : eqA T eqOk 9 t (.agg xs) (.agg ys) with
      | none => simp [he] at h
      | some r => rw [eqA_rel 9 t _ _ _ _ r hx hy he]; simpa [he] using h

theorem map_some_pair {α : Type} {x : Option α} {H H' : Heap} {v : α} (h : x.map (·, H) = some (v, H')) : x = some v ∧ H' = H := by
  cases x <;> simp at h; exact ⟨by rw [h.1], h.2.symm⟩

set_option maxHeartbeats 4000000 in
theorem op_sound (hT : TyOk P T) {eqOk : Nat → Bool} (hE : EqOk P eqOk) (hH : HRel w0 ι H w) (hB : B ≤ H.length) (hs : TS ι t a.tmps) {o : Oper} {v : Value} {H' : Heap} (h : opA T eqOk B t H o = some (v, H')) :
    StepOk w0 ι B H ((execOp a.eval o).run P w) v H' := by
  obtain ⟨dst, op, ty0, pos, after, guard⟩ := o
  cases op with
  | move x =>
    simp only [opA] at h; simp only [execOp]
    obtain ⟨hv, rfl⟩ := map_some_pair h
    exact StepOk.pure hH rfl (ev_rel hs hv)
  | assign x =>
    simp only [opA] at h; simp only [execOp]
    obtain ⟨hv, rfl⟩ := map_some_pair h
    exact StepOk.pure hH rfl (ev_rel hs hv)
  | pick c x y =>
    simp only [opA] at h; simp only [execOp]
    split at h
    · rename_i q hq
      have := evL_rel hs hq
      have hc : a.eval c = .bool q := by cases hq2 : a.eval c <;> rw [hq2] at this <;> cases this; rfl
      split at h
      · rename_i hqt; subst hqt
        obtain ⟨hv, rfl⟩ := map_some_pair h
        exact StepOk.pure hH (v' := a.eval x) (by simp [hc, asBool]) (ev_rel hs hv)
      · rename_i hqf
        have hqf' : q = false := by simpa using hqf
        subst hqf'
        obtain ⟨hv, rfl⟩ := map_some_pair h
        exact StepOk.pure hH (v' := a.eval y) (by simp [hc, asBool]) (ev_rel hs hv)
    · simp at h
  | alloc e1 =>
    simp only [opA] at h; simp only [execOp]
    split at h
    · rename_i d hd
      obtain ⟨z, hz, hzc⟩ := hT.zeroValue (w := w) hd
      have hfl := (hT _ d hd).zflat
      refine stepVal ?_
      have hr : (Instr.alloc e1 true (.tuple #[])).run P w = .ok (.pointer (some ⟨w.heap.size, 0, none⟩)) (w.alloc (.cells ⟨d.zero⟩ e1)) := by
        have : z.cells = ⟨d.zero⟩ := Array.ext' hzc
        simp [Instr.alloc, hz, newVar, newRow, this]
      rw [hr]
      exact new_ok hH hB (LRel.flat fun v hv => (List.all_eq_true.1 hfl) v hv) (fun _ v hv => (List.all_eq_true.1 hfl) v hv) h
    · simp at h
  | box e1 x =>
    simp only [opA] at h; simp only [execOp]
    split at h
    · rename_i d u hd hu
      refine stepVal ?_
      have hr := evL_rel hs hu
      have hc := cells_rel hr
      have hr : (Instr.box e1 (a.eval x)).run P w = .ok (.pointer (some ⟨w.heap.size, 0, none⟩)) (w.alloc (.cells ⟨cellsL (a.eval x)⟩ e1)) := by
        have : (a.eval x).cells = ⟨cellsL (a.eval x)⟩ := Array.ext' (by rw [cellsL_eq])
        simp [Instr.box, newVar, newRow, this]
      rw [hr]
      exact new_ok hH hB hc (fun hf v hv => by
        simp only [Bool.and_eq_true] at hf
        exact (List.all_eq_true.1 hf.2) v hv) h
    · simp at h
  | build ty parts =>
    simp only [opA] at h; simp only [execOp]
    split at h
    · rename_i l hl
      obtain ⟨hv, rfl⟩ := map_some_pair h
      obtain ⟨e1, e2⟩ := evParts_rel hs _ _ hl
      obtain ⟨v', g1, g2⟩ := buildA_run (P := P) (w := w) (parts' := parts.map fun (i, x) => (i, a.eval x)) hT (by simpa using e1) (by simpa using e2) hv
      refine stepVal (StepOk.pure hH (v' := v') ?_ (.inr g2))
      rw [g1]; rfl
    · simp at h
  | buildSlice ty len parts =>
    simp only [opA] at h; simp only [execOp]
    split at h
    · rename_i l hl
      obtain ⟨e1, e2⟩ := evParts_rel hs _ _ hl
      refine stepVal ?_
      generalize hp : (parts.map fun (i, x) => (i, a.eval x)) = pa
      have hpl : pa.toList = parts.toList.map fun p => (p.1, a.eval p.2) := by rw [← hp]; simp
      exact buildSliceA_run hT hH hB (by rw [hpl]; simpa using e1) (by rw [hpl]; simpa using e2) h
    · simp at h
  | load ty x =>
    simp only [opA] at h; simp only [execOp]
    split at h
    · rename_i u hu
      obtain ⟨hv, rfl⟩ := map_some_pair h
      obtain ⟨v', g1, g2⟩ := loadVarA_run (P := P) hT hH (evL_rel hs hu) hv
      exact stepVal (StepOk.pure hH (v' := v') (by rw [g1]; rfl) (.inr g2))
    · simp at h
  | store ty x y =>
    simp only [opA] at h; simp only [execOp]
    split at h
    · rename_i u1 u2 hu1 hu2
      cases hst : storeVarA T B ty u1 u2 H with
      | none => simp [hst] at h
      | some H2 =>
        simp only [hst, Option.map_some, Option.some.injEq, Prod.mk.injEq] at h; obtain ⟨rfl, rfl⟩ := h
        obtain ⟨w', g1, g2, g3, g4⟩ := storeVarA_run (P := P) hT hH (evL_rel hs hu1) (evL_rel hs hu2) hst
        exact ⟨.skip, undef, w', ι, by simp [g1], .inr ⟨rfl, rfl⟩, g2, .inr (.tuple _ _ rfl (fun i v v' h => by simp at h)), .refl _ _, g3, by omega⟩
    · simp at h
  | nilCheck x =>
    simp only [opA] at h; simp only [execOp]
    split at h
    · rename_i ad hu
      simp only [Option.some.injEq, Prod.mk.injEq] at h; obtain ⟨rfl, rfl⟩ := h
      have hr := evL_rel hs hu
      cases hq : a.eval x <;> rw [hq] at hr <;> cases hr
      exact StepOk.pure hH (by simp only [hq]; rfl) (.inr (.ptr _ _ _ (by assumption)))
    · rename_i f fs cs hu
      simp only [Option.some.injEq, Prod.mk.injEq] at h; obtain ⟨rfl, rfl⟩ := h
      have hr := evL_rel hs hu
      cases hq : a.eval x <;> rw [hq] at hr <;> cases hr
      exact StepOk.pure hH (by simp only [hq]; rfl) (.inr (.func _ _ _ (by assumption) (by assumption)))
    · simp at h
  | binOp op ty x y c =>
    simp only [opA] at h; simp only [execOp]
    split at h
    · rename_i u1 u2 hu1 hu2
      obtain ⟨hv, rfl⟩ := map_some_pair h
      have h1 := evL_rel hs hu1
      have h2 := evL_rel hs hu2
      have hb := binA_rel h1 h2 hv
      obtain ⟨g1, g2⟩ := binA_run (P := P) (w := w) (ox := x) (oy := y) hT hE hb
      exact stepVal (StepOk.pure hH (v' := v) (by rw [g1]; rfl) (.inr (.flat g2)))
    · simp at h
  | unOp op ty x =>
    simp only [opA] at h; simp only [execOp]
    split at h
    · rename_i u1 hu1
      obtain ⟨hv, rfl⟩ := map_some_pair h
      have h1 := evL_rel hs hu1
      have hf : flatV u1 = true := by
        unfold unA at hv
        split at hv <;> first | rfl | simp at hv
      have h1' := h1.flat_eq hf
      obtain ⟨g1, g2⟩ := unA_run (P := P) (w := w) hv
      exact stepVal (StepOk.pure hH (v' := v) (by rw [h1', g1]; rfl) (.inr (.flat g2)))
    · simp at h
  | convert s d x =>
    simp only [opA] at h; simp only [execOp]
    split at h
    · rename_i u1 hu1
      obtain ⟨hv, rfl⟩ := map_some_pair h
      obtain ⟨v', g1, g2⟩ := convA_run (P := P) (w := w) hT (evL_rel hs hu1) hv
      exact stepVal (StepOk.pure hH (v' := v') (by rw [g1]; rfl) (.inr g2))
    · simp at h
  | makeFunc fn first caps =>
    cases fn with
    | func f =>
      simp only [opA] at h; simp only [execOp]
      split at h
      · rename_i hf0
        cases hl : evAllL t caps.toList with
        | none => simp [hl] at h
        | some l =>
          simp only [hl, Option.map_some, Option.some.injEq, Prod.mk.injEq] at h; obtain ⟨rfl, rfl⟩ := h
          have hr := evAllL_rel hs _ _ hl
          have hfe : first = #[] := Array.eq_empty_of_size_eq_zero hf0
          subst hfe
          have hc : caps.map a.eval = ⟨caps.toList.map a.eval⟩ := Array.ext' (by simp)
          exact stepVal (StepOk.pure hH (v' := .func (.func f) #[] ⟨caps.toList.map a.eval⟩) (by simp [Instr.makeFunc, hc]) (.inr (.func f _ _ hr.1 hr.2)))
      · simp at h
    | _ => simp [opA] at h
  | makeSlice ty l c =>
    simp only [opA] at h; simp only [execOp]
    split at h
    · rename_i u1 u2 hu1 hu2
      exact stepVal (makeSliceA_run hT hH hB (evL_rel hs hu1) (evL_rel hs hu2) h)
    · simp at h
  | slice ty x lo hi mx =>
    simp only [opA] at h; simp only [execOp]
    split at h
    · rename_i u l hh m hu hl hhi hm
      obtain ⟨hv, rfl⟩ := map_some_pair h
      obtain ⟨v', g1, g2⟩ := sliceA_run (P := P) (w := w) hT hH (optInt_rel hs hl) (optInt_rel hs hhi) (optInt_rel hs hm) (evL_rel hs hu) hv
      exact stepVal (StepOk.pure hH (v' := v') (by rw [g1]; rfl) (.inr g2))
    · simp at h
  | fieldAddr ty x f =>
    simp only [opA] at h; simp only [execOp]
    split at h
    · rename_i u hu
      obtain ⟨hv, rfl⟩ := map_some_pair h
      obtain ⟨v', g1, g2⟩ := fieldAtA_run (P := P) (w := w) hT (evL_rel hs hu) hv
      exact stepVal (StepOk.pure hH (v' := v') (by rw [g1]; rfl) (.inr g2))
    · simp at h
  | field ty x f =>
    simp only [opA] at h; simp only [execOp]
    split at h
    · rename_i u hu
      obtain ⟨hv, rfl⟩ := map_some_pair h
      obtain ⟨v', g1, g2⟩ := fieldA_run (P := P) (w := w) hT (evL_rel hs hu) hv
      exact stepVal (StepOk.pure hH (v' := v') (by rw [g1]; rfl) (.inr g2))
    · simp at h
  | indexAddr ty x i =>
    simp only [opA] at h; simp only [execOp]
    split at h
    · rename_i u1 u2 hu1 hu2
      obtain ⟨hv, rfl⟩ := map_some_pair h
      obtain ⟨v', g1, g2⟩ := indexAtA_run (P := P) (w := w) hT (evL_rel hs hu1) (evL_rel hs hu2) hv
      exact stepVal (StepOk.pure hH (v' := v') (by rw [g1]; rfl) (.inr g2))
    · simp at h
  | index ty x i =>
    simp only [opA] at h; simp only [execOp]
    split at h
    · rename_i u1 u2 hu1 hu2
      obtain ⟨hv, rfl⟩ := map_some_pair h
      obtain ⟨v', g1, g2⟩ := indexA_run (P := P) (w := w) hT (evL_rel hs hu1) (evL_rel hs hu2) hv
      exact stepVal (StepOk.pure hH (v' := v') (by rw [g1]; rfl) (.inr g2))
    · simp at h
  | extract x i =>
    simp only [opA] at h; simp only [execOp]
    split at h
    · rename_i vs hu
      obtain ⟨hv, rfl⟩ := map_some_pair h
      have hr := evL_rel hs hu
      cases hq : a.eval x <;> rw [hq] at hr <;> cases hr
      rename_i xs ys hl hxy
      obtain ⟨v', g1, g2⟩ := LRel.get (ι := ι) ⟨hl, hxy⟩ hv
      refine stepVal (StepOk.pure hH (v' := v') ?_ (.inr g2))
      simp [Instr.extract, hq, g1]
    · simp at h
  | call c0 =>
    obtain ⟨callee, args, tys⟩ := c0
    cases callee with
    | builtin b =>
      simp only [opA] at h; simp only [execOp]
      split at h
      · rename_i l hl
        have hr := evAllL_rel hs _ _ hl
        have hc : args.map a.eval = ⟨args.toList.map a.eval⟩ := Array.ext' (by simp)
        simp only [resolve, pure_bind, invoke, hc]
        exact builtinA_run hT hH hB hr h
      · simp at h
    | _ => simp [opA] at h
  | _ => simp [opA] at h
end
end Go.Proofs.Ytabmmdfhhpajgaa.Eng
