/- A text of this claim (E13): lemmas for the proof, no conditions of their own. -/
import Derived.Test.YtabmmdfhhpajgaaE12
set_option linter.unusedVariables false
set_option linter.unusedSimpArgs false
namespace Go.Proofs.Ytabmmdfhhpajgaa.Eng
open Go Go.RowKit

/-! ### functions -/
def liveAt (t : List Value) (i : Nat) : Option Value := match t[i]? with | some v => if isDead v = true then none else some v | none => none
def resA (T : Ty) (t : List Value) (H : Heap) : List ResultVar → Option (List Value)
  | [] => some []
  | .tmp i :: r => match liveAt t i, resA T t H r with | some v, some l => some (v :: l) | _, _ => none
  | .cell i ty :: r => match liveAt t i, resA T t H r with
    | some p, some l => match loadVarA T ty p H with | some v => some (v :: l) | none => none
    | _, _ => none
def packR : List Value → Value | [v] => v | vs => .tuple ⟨vs⟩

def resM (tm : Array Value) : ResultVar → Sem Value
  | .tmp t => pure (tm.getD t undef)
  | .cell a t => do loadVar t (← asAddr (tm.getD a undef))
theorem results_eq (fn : Func) (tm : Array Value) : results fn tm = (do let vs ← fn.results.mapM (resM tm); pure (if h : vs.size = 1 then vs[0] else .tuple vs)) := by
  unfold results
  congr 1
section
variable {P : Program} {T : Ty} {B : Nat} {t : List Value} {H : Heap} {Q : AQ}

theorem liveAt_rel {ι : Ren} {tm : Array Value} (hs : TS ι t tm) {i : Nat} {v : Value} (h : liveAt t i = some v) : VRel ι v (tm.getD i undef) := by
  unfold liveAt at h
  split at h
  · rename_i u hu
    split at h
    · simp at h
    · rename_i hd
      obtain rfl := Option.some.inj h
      have h1 : i < t.length := (List.getElem?_eq_some_iff.1 hu).1
      have h2 : i < tm.size := by rw [← hs.1]; exact h1
      have := (hs.2 i _ tm[i] hu (by simp [h2])).live (by simpa using hd)
      simpa [Array.getD_eq_getD_getElem?, h2] using this
  · simp at h

theorem resA_run (hT : TyOk P T) {w0 w : World} {ι : Ren} {tm : Array Value} (hH : HRel w0 ι H w) (hs : TS ι t tm) : ∀ (rs : List ResultVar) (vs : List Value), resA T t H rs = some vs →
    ∃ vs', (rs.mapM (resM tm)).run P w = .ok vs' w ∧ LRel ι vs vs'
  | [], vs, h => by simp [resA] at h; subst h; exact ⟨[], by simp, .nil ι⟩
  | .tmp i :: rs, vs, h => by
    simp only [resA] at h
    split at h
    · rename_i v l hv hl
      obtain rfl := Option.some.inj h
      obtain ⟨vs', g1, g2⟩ := resA_run hT hH hs rs l hl
      exact ⟨tm.getD i undef :: vs', by rw [List.mapM_cons]; simp [resM, g1], .cons (liveAt_rel hs hv) g2⟩
    · simp at h
  | .cell i ty :: rs, vs, h => by
    simp only [resA] at h
    split at h
    · rename_i p l hp hl
      split at h
      · rename_i v hv
        obtain rfl := Option.some.inj h
        obtain ⟨vs', g1, g2⟩ := resA_run hT hH hs rs l hl
        have hr := liveAt_rel hs hp
        obtain ⟨v', k1, k2⟩ := loadVarA_run (P := P) hT hH hr hv
        refine ⟨v' :: vs', ?_, .cons k2 g2⟩
        have hload : (resM tm (.cell i ty)).run P w = .ok v' w := by
          simp only [resM]
          unfold loadVarA at hv
          split at hv
          · generalize tm.getD i undef = u at hr k1
            cases hr with
            | ptr b o L hL => simpa [Instr.loadAt, Instr.sureAddr, asAddr] using k1
          · simp at hv
        rw [List.mapM_cons, Sem.run_bind, hload]
        simp [g1]
      · simp at h
    · simp at h

/-- The heap that a caller gets. -/
def RetX (B : Nat) (v : Value) (H : Heap) (R : Value → Heap → Prop) : Prop :=
  ∃ (H0 : Heap) (bs ys : List (Option Blk)) (ks : List Nat) (v2 : Value), H = H0 ++ bs ∧ H0.length = B ∧ ks.Nodup ∧ RnBs H0.length ks bs ks ys ∧ Rn H0.length ks v v2 ∧ R v2 (H0 ++ ys)

theorem TS.start {ι : Ren} {args args' : List Value} (h : LRel ι args args') (n : Nat) : TS ι (args ++ List.replicate (n - args.length) undef) (⟨args'⟩ ++ Array.replicate (n - args'.length) undef) := by
  have hl := h.append (LRel.replicate (undef_rel ι) (n - args.length))
  refine ⟨by simp [h.1], fun i v v' h1 h2 => .inr (hl.2 i v v' h1 ?_)⟩
  rw [← Array.getElem?_toList] at h2
  simpa [h.1] using h2

theorem Runs_of_Ex (hT : TyOk P T) {f : FuncId} {fn : Func} {c : Code} {args : List Value} {R : Value → Heap → Prop} (hf : P.funcs[f]? = some fn) (hb : fn.body = some c) (hn : (fn.name == "runtime.NumGoroutine") = false)
    (h : Ex P H.length c (args ++ List.replicate (fn.ntmps - args.length) undef) H (fun e t' H' => (e = .normal ∨ e = .ret) ∧ ∃ vs, resA T t' H' fn.results.toList = some vs ∧ RetX H.length (packR vs) H' R)) : Runs P f args H R := by
  refine ⟨⟨fn, hf, hn, by simp [hb]⟩, fun w0 ι w args' h1 h2 => ?_⟩
  refine calls_of_wp hf hb ?_
  refine wp_mono (h w0 ι w _ h1 (by simpa using TS.start h2 fn.ntmps) rfl (Nat.le_refl _) h1.oc) ?_
  rintro e a w' ⟨t', H', ι', ⟨he, vs, hvs, H0, bs, ys, ks, v2, rfl, hB, hd, hk, hv2, hR⟩, k1, k2, k3, k4, k5, k6⟩
  obtain ⟨vs', g1, g2⟩ := resA_run hT k1 k2 _ _ hvs
  have hres : (results fn a.tmps).run P w' = .ok (packR vs') w' := by
    rw [results_eq, Sem.run_bind, Array.mapM_eq_mapM_toList]
    have : (List.toArray <$> List.mapM (resM a.tmps) fn.results.toList : Sem (Array Value)).run P w' = .ok vs'.toArray w' := by
      rw [map_eq_pure_bind, Sem.run_bind, g1]; rfl
    rw [this]
    simp only [Result.andThen_ok]
    match vs' with
    | [] => rfl
    | [v] => rfl
    | v :: u :: r => rfl
  have hpack : VRel ι' (packR vs) (packR vs') := by
    match vs, vs', g2 with
    | [], vs', g2 => have : vs' = [] := List.eq_nil_of_length_eq_zero (by have := g2.1; simpa using this.symm); subst this; exact .tuple _ _ rfl (fun i v v' h => by simp at h)
    | [v], vs', g2 =>
      obtain ⟨v', r, rfl, hv, hr⟩ := g2.inv_cons
      have : r = [] := List.eq_nil_of_length_eq_zero (by have := hr.1; simpa using this.symm)
      subst this; exact hv
    | v :: u :: r, vs', g2 =>
      obtain ⟨v', r', rfl, hv, hr⟩ := g2.inv_cons
      obtain ⟨u', r'', rfl, hu, hr'⟩ := hr.inv_cons
      exact .tuple _ _ g2.1 g2.2
  have hoc : OC H0.length (H0 ++ bs) := by rw [hB]; exact k5 _ (Nat.le_refl _) h1.oc
  have fin : a.defers = [] ∧ ∃ v, (results fn a.tmps).run P w' = .ok v w' ∧ ∃ (u v' : Value) (H' : Heap) (ι' : Ren), (Ending.returned v) = .returned v' ∧ R u H' ∧ VRel ι' u v' ∧ HRel w0 ι' H' w' ∧ Ext H.length ι ι' ∧ OCs H.length H H' ∧ H.length ≤ H'.length := by
    refine ⟨k3, packR vs', hres, v2, packR vs', H0 ++ ys, cutR ι' H0.length ks, rfl, hR, hv2.run _ hpack, k1.cut hoc hd hk, ?_, ?_, by simp [hB]⟩
    · rw [← hB] at k4 ⊢; exact k4.trans (cut_ext ι' _ ks) (Nat.le_refl _)
    · rw [← hB] at k5 ⊢; exact k5.trans (cut_oc H0 bs ys)
  rcases he with rfl | rfl <;> exact fin

/-! ### what is met in a walk -/
theorem getB_old {H0 : Heap} {bs : List (Option Blk)} {i : Nat} {b : Blk} (h : getB H0 i = some b) : getB (H0 ++ bs) i = some b := by
  have := getB_lt h
  rw [getB_eq] at h ⊢
  rw [List.getElem?_append_left this]; exact h
theorem getB_new (H0 : Heap) (bs : List (Option Blk)) (k : Nat) : getB (H0 ++ bs) (H0.length + k) = getB bs k := by
  unfold getB
  rw [List.getElem?_append_right (by omega)]
  simp
theorem getB_new0 (H0 : Heap) (bs : List (Option Blk)) : getB (H0 ++ bs) H0.length = getB bs 0 := getB_new H0 bs 0
theorem set_new (H0 : Heap) (bs : List (Option Blk)) (k : Nat) (x : Option Blk) : (H0 ++ bs).set (H0.length + k) x = H0 ++ bs.set k x := by
  rw [List.set_append_right _ _ (by omega)]; simp
theorem set_new0 (H0 : Heap) (bs : List (Option Blk)) (x : Option Blk) : (H0 ++ bs).set H0.length x = H0 ++ bs.set 0 x := set_new H0 bs 0 x
theorem RetX.same {v : Value} {R : Value → Heap → Prop} (h : R v H) (hv : Lt H.length v) : RetX H.length v H R := ⟨H, [], [], [], v, by simp, rfl, .nil, trivial, .lt v hv, by simpa using h⟩
theorem RetX.drop {H0 : Heap} {bs : List (Option Blk)} {v : Value} {R : Value → Heap → Prop} (h : R v H0) (hv : Lt H0.length v) : RetX H0.length v (H0 ++ bs) R := ⟨H0, bs, [], [], v, rfl, rfl, .nil, trivial, .lt v hv, by simpa using h⟩
theorem Lt.tuple {vs : List Value} (h : ∀ v ∈ vs, Lt B v) : Lt B (.tuple ⟨vs⟩) := fun ι ι' v' hE r => by
  cases r with | tuple _ ys hl hr => exact .tuple _ _ hl fun i v v' h1 h2 => h v (List.mem_of_getElem? h1) ι ι' v' hE (hr i v v' h1 h2)
theorem Lt.agg {vs : List Value} (h : ∀ v ∈ vs, Lt B v) : Lt B (.agg ⟨vs⟩) := fun ι ι' v' hE r => by
  cases r with | agg _ ys hl hr => exact .agg _ _ hl fun i v v' h1 h2 => h v (List.mem_of_getElem? h1) ι ι' v' hE (hr i v v' h1 h2)
end
end Go.Proofs.Ytabmmdfhhpajgaa.Eng
