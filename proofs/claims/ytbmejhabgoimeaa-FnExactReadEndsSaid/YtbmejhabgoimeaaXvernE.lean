/- vernE: lemmas for the proof, no conditions of their own. -/
import Derived.Test.YtbmejhabgoimeaaXvernY
import Derived.Test.YtbmejhabgoimeaaXends
set_option linter.unusedVariables false
set_option linter.unusedSimpArgs false
namespace Go.Proofs.Ytbmejhabgoimeaa.Eng
open Go Go.RowKit
set_option maxRecDepth 100000
/-- The readings of both ends, with the code of what is not valid. -/
def rdE (ok : Bool) (u : FrT) (E : List FrT) (vp : Int) (vb : Bool) (g : FrT) (T : List ThT) (c : ShT) : EX (FrT × FrT) := if ok = true then endsE u E vp vb g T c else .error 1
def e2V (e : EX (FrT × FrT)) : FrT × FrT := eV ((0, 0), (0, 0)) e
def s_rdends : Spec := fun args S => match args, S with
  | [.agg [.int .i64 up, .int .i64 uq, .sl 0 s n x, .int .i64 vp, .bool vb, .int .i64 gp, .int .i64 gq, .sl 1 t m y], .agg [.int .i64 i, .int .i64 wp, .int .i64 wq, .int .i64 sp, .int .i64 sq]], [.arr (.prod (.int .i64) (.int .i64)) l 2 wr, .arr (.prod .str (.prod (.prod (.int .i64) (.int .i64)) (.prod (.int .i64) (.int .i64)))) T 5 wT] => ⟨(s + n ≤ l.length ∧ n ≤ 1048576) ∧ (t + m ≤ T.length ∧ m ≤ 1048576) ∧ ∀ (j : Nat) (a : ThT), T[j]? = some a → a.1.length < 4611686018427387904, .tup [.agg [.int .i64 (e2V (rdE (bnB up uq vp gp gq (seg l s n) (seg T t m) && shB m (i, (wp, wq), sp, sq)) (up, uq) (seg l s n) vp vb (gp, gq) (seg T t m) (i, (wp, wq), sp, sq))).1.1, .int .i64 (e2V (rdE (bnB up uq vp gp gq (seg l s n) (seg T t m) && shB m (i, (wp, wq), sp, sq)) (up, uq) (seg l s n) vp vb (gp, gq) (seg T t m) (i, (wp, wq), sp, sq))).1.2], .agg [.int .i64 (e2V (rdE (bnB up uq vp gp gq (seg l s n) (seg T t m) && shB m (i, (wp, wq), sp, sq)) (up, uq) (seg l s n) vp vb (gp, gq) (seg T t m) (i, (wp, wq), sp, sq))).2.1, .int .i64 (e2V (rdE (bnB up uq vp gp gq (seg l s n) (seg T t m) && shB m (i, (wp, wq), sp, sq)) (up, uq) (seg l s n) vp vb (gp, gq) (seg T t m) (i, (wp, wq), sp, sq))).2.2], .int .i64 (eC (rdE (bnB up uq vp gp gq (seg l s n) (seg T t m) && shB m (i, (wp, wq), sp, sq)) (up, uq) (seg l s n) vp vb (gp, gq) (seg T t m) (i, (wp, wq), sp, sq)))], [.arr (.prod (.int .i64) (.int .i64)) l 2 wr, .arr (.prod .str (.prod (.prod (.int .i64) (.int .i64)) (.prod (.int .i64) (.int .i64)))) T 5 wT]⟩
  | _, _ => noSpec
/-- Both ends are known. -/
def s_ends1 (e : FrT) : Spec := fun args S => match args, S with
  | [.agg [.int .i64 up, .int .i64 uq, .sl 0 s n x, .int .i64 vp, .bool vb, .int .i64 gp, .int .i64 gq, .sl 1 t m y], .agg [.int .i64 i, .int .i64 wp, .int .i64 wq, .int .i64 sp, .int .i64 sq]], [.arr (.prod (.int .i64) (.int .i64)) l 2 wr, .arr (.prod .str (.prod (.prod (.int .i64) (.int .i64)) (.prod (.int .i64) (.int .i64)))) T 5 wT] => ⟨((s + n ≤ l.length ∧ n ≤ 1048576) ∧ (t + m ≤ T.length ∧ m ≤ 1048576) ∧ ∀ (j : Nat) (a : ThT), T[j]? = some a → a.1.length < 4611686018427387904) ∧ (bnB up uq vp gp gq (seg l s n) (seg T t m) && shB m (i, (wp, wq), sp, sq)) = true ∧ enT (seg T t m) (i, (wp, wq), sp, sq) = some e, .tup [.agg [.int .i64 sp, .int .i64 sq], .agg [.int .i64 e.1, .int .i64 e.2], .int .i64 0], [.arr (.prod (.int .i64) (.int .i64)) l 2 wr, .arr (.prod .str (.prod (.prod (.int .i64) (.int .i64)) (.prod (.int .i64) (.int .i64)))) T 5 wT]⟩
  | _, _ => noSpec
theorem ok_ends1 (e : FrT) : SpecOk Try.prog 23 (s_ends1 e) := by
  intro args S h; unfold s_ends1 at h ⊢; (split at h <;> first | exact False.elim h | skip)
  dsimp only at h ⊢
  rename_i up uq s n x vp vb gp gq t m y i wp wq sp sq l wr T wT
  have h2 := ok_EndsOfI [.agg [.int .i64 up, .int .i64 uq, .sl 0 s n x, .int .i64 vp, .bool vb, .int .i64 gp, .int .i64 gq, .sl 1 t m y], .agg [.int .i64 i, .int .i64 wp, .int .i64 wq, .int .i64 sp, .int .i64 sq]] [.arr (.prod (.int .i64) (.int .i64)) l 2 wr, .arr (.prod .str (.prod (.prod (.int .i64) (.int .i64)) (.prod (.int .i64) (.int .i64)))) T 5 wT] h.1
  simp only [s_ends, h.2.1, h.2.2, okC, oC, zv_s, if_true, Option.isSome_some] at h2
  exact h2
def s_strP (v : FrT) : Spec := fun args S => match args, S with
  | [.ptr b 0 0, .agg [.int .i64 p, .int .i64 q], .agg [.int .i64 p', .int .i64 q']], [.arr .bool [bad] 0 true] => ⟨(b = 0 ∧ smF p q ∧ smF p' q') ∧ stO (p, q) (p', q') = some v, .agg [.int .i64 v.1, .int .i64 v.2], [.arr .bool [bad] 0 true]⟩
  | _, _ => noSpec
theorem ok_strP (v : FrT) : SpecOk Try.prog 24 (s_strP v) := by
  intro args S h; unfold s_strP at h ⊢; (split at h <;> first | exact False.elim h | skip)
  dsimp only at h ⊢
  rename_i b p q p' q' bad
  have h2 := ok_strO [.ptr b 0 0, .agg [.int .i64 p, .int .i64 q], .agg [.int .i64 p', .int .i64 q']] [.arr .bool [bad] 0 true] h.1
  simp only [s_strO, stV_e h.2, h.2, Option.isSome_some, Bool.not_true, Bool.or_false] at h2
  exact h2
def s_subP (v : FrT) : Spec := fun args S => match args, S with
  | [.ptr b 0 0, .agg [.int .i64 p, .int .i64 q], .agg [.int .i64 p', .int .i64 q']], [.arr .bool [bad] 0 true] => ⟨(b = 0 ∧ smF p q ∧ smF p' q') ∧ sbO (p, q) (p', q') = some v, .agg [.int .i64 v.1, .int .i64 v.2], [.arr .bool [bad] 0 true]⟩
  | _, _ => noSpec
theorem ok_subP (v : FrT) : SpecOk Try.prog 25 (s_subP v) := by
  intro args S h; unfold s_subP at h ⊢; (split at h <;> first | exact False.elim h | skip)
  dsimp only at h ⊢
  rename_i b p q p' q' bad
  have h2 := ok_subO [.ptr b 0 0, .agg [.int .i64 p, .int .i64 q], .agg [.int .i64 p', .int .i64 q']] [.arr .bool [bad] 0 true] h.1
  simp only [s_subO, h.2, tv, Option.getD_some, Option.isSome_some, Bool.not_true, Bool.or_false] at h2
  exact h2
/-- A reading, of a scale that is known. -/
def s_readQ (u : FrT) (E : List FrT) : Spec := fun args S => match args, S with
  | [.agg [.int .i64 up, .int .i64 uq, .sl 0 s n x], .agg [.int .i64 vp, .bool vb], .agg [.int .i64 xp, .int .i64 xq]], [.arr (.prod (.int .i64) (.int .i64)) l 2 wr] => ⟨((up, uq) = u ∧ seg l s n = E) ∧ s + n ≤ l.length ∧ scB up uq E = true ∧ (2 ≤ vp ∧ vp ≤ 40) ∧ fOk xp xq = true, .tup [.agg [.int .i64 (eV (0, 0) (readE u E vp vb (xp, xq))).1, .int .i64 (eV (0, 0) (readE u E vp vb (xp, xq))).2], .int .i64 (eC (readE u E vp vb (xp, xq)))], [.arr (.prod (.int .i64) (.int .i64)) l 2 wr]⟩
  | _, _ => noSpec
theorem ok_readQ (u : FrT) (E : List FrT) : SpecOk Try.prog 28 (s_readQ u E) := by
  intro args S h; unfold s_readQ at h ⊢; (split at h <;> first | exact False.elim h | skip)
  dsimp only at h ⊢
  obtain ⟨⟨rfl, rfl⟩, h⟩ := h
  exact ok_ReadVernier _ _ h
theorem read_f {u : FrT} {E : List FrT} {vp : Int} {vb : Bool} {x a : FrT} (h : readE u E vp vb x = .ok a) : fOk a.1 a.2 = true := by
  unfold readE at h
  cases h1 : fitE u E vp vb x with
  | error c => rw [h1] at h; cases h
  | ok f =>
    rw [h1] at h
    simp only [Except.bind] at h
    cases h2 : rvO u vp vb x f with
    | none => rw [h2] at h; cases h
    | some v =>
      rw [h2] at h; cases h
      unfold rvO at h2
      cases h3 : muO (tv (dvO (fln vp vb f, 1) (vp, 1))) u with
      | none => rw [h3] at h2; simp at h2
      | some p =>
        rw [h3] at h2
        simp only [Option.bind_some] at h2
        cases h4 : sbO x p with
        | none => rw [h4] at h2; simp at h2
        | some r =>
          rw [h4] at h2
          simp only [Option.bind_some] at h2
          split at h2
          · cases h5 : muO (nrN r u, 1) u with
            | none => rw [h5] at h2; simp at h2
            | some w => rw [h5] at h2; simp only [Option.bind_some] at h2; exact rO_f h2
          · simp at h2
/-- What one end gives. -/
def oneE (w : FrT) (E : List FrT) (vp : Int) (vb : Bool) (st x : FrT) : EX FrT := (readE w E vp vb x).bind fun a => ofO (dvO a st)
theorem ends_2 {w : FrT} {E : List FrT} {vp : Int} {vb : Bool} {st x z : FrT} : ((readE w E vp vb x).bind fun a => (ofO (dvO a st)).bind fun d1 => (readE w E vp vb z).bind fun b => (ofO (dvO b st)).bind fun d2 => (.ok (d1, d2) : EX (FrT × FrT))) = (oneE w E vp vb st x).bind fun d1 => (oneE w E vp vb st z).bind fun d2 => .ok (d1, d2) := by
  unfold oneE
  cases readE w E vp vb x with
  | error c => rfl
  | ok a =>
    simp only [Except.bind]
    cases dvO a st with
    | none => rfl
    | some d =>
      simp only [ofO]
      cases readE w E vp vb z with
      | error c => rfl
      | ok b => rfl
theorem enz_one (w : FrT) (E : List FrT) (vp : Int) (vb : Bool) (st x : FrT) : ENZ (oneE w E vp vb st x) := enz_bind (enz_read _ _ _ _ _) fun _ => enz_ofO _
end Go.Proofs.Ytbmejhabgoimeaa.Eng
