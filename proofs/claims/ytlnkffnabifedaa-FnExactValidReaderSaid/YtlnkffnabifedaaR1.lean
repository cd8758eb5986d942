/- The law FnExactValidReader returns true at every input, and its argument reads as it did; no conditions beyond the given statement's own. -/
import Derived.Test.YtlnkffnabifedaaF4
import Derived.Test.YtlnkffnabifedaaRows
import Derived.WalkKit
import Derived.ProofKit
import Derived.OpenShut
import Derived.ShutString
import Derived.ChangeOld
import Derived.Below
import Derived.SizedLaws
import Derived.Lib.SmallJoins
namespace Go.Proofs.Ytlnkffnabifedaa.fnExactValidReader
open Go.ChangeShapes Go.WideShapes Go.ChangeAt Go.RowKit Go.Proofs.Ytlnkffnabifedaa.Eng
set_option linter.unusedVariables false
theorem own : ownKnob Try.prog.godebug = none := by kernel_rfl
theorem laidOut : laidOutB Try.prog = true := by kernel_rfl
theorem cells24 : Try.prog.cellTypes Try.prog.depth 24 = some [9, 22, 22, 4] := by kernel_rfl
theorem open24 {W : World} {v : Value} (h : Value.okWide Try.prog W .any 0 24 v) : ∃ s x y c, v = .agg ⟨rdr s x y c⟩ ∧ i16 x ∧ i16 y ∧ (s.size : Int) ≤ 9223372036854775807 := by
  simp only [Value.okWide, Try.underlying24] at h
  obtain ⟨cs, rfl, hn, ts, hts, _, hc⟩ := h
  rw [cells24] at hts; obtain rfl := Option.some.inj hts
  have h4 : Try.prog.cellsOf 24 = 4 := by kernel_rfl
  rw [h4] at hn
  obtain ⟨l⟩ := cs
  match l, hn with
  | [a, b, c, d], _ =>
    obtain ⟨_, e1, h1⟩ := hc 0 a rfl
    obtain ⟨_, e2, h2⟩ := hc 1 b rfl
    obtain ⟨_, e3, h3⟩ := hc 2 c rfl
    obtain ⟨_, e4, h4⟩ := hc 3 d rfl
    simp at e1 e2 e3 e4; subst e1; subst e2; subst e3; subst e4
    have u9 := Try.underlying9
    have u22 := Try.underlying22
    have u4 := Try.underlying4
    simp only [Cell.okWide, u9, u22, u4] at h1 h2 h3 h4
    cases a <;> simp [Cell.ok, u9] at h1
    cases b <;> simp [Cell.ok, u22] at h2
    cases c <;> simp [Cell.ok, u22] at h3
    cases d <;> simp [Cell.ok, u4] at h4
    rename_i s k1 x k2 y b _ _
    obtain ⟨rfl, q1, q2⟩ := h2
    obtain ⟨rfl, q3, q4⟩ := h3
    simp [IntKind.min, IntKind.max, IntKind.signed, IntKind.bits] at q1 q2 q3 q4 h1
    exact ⟨s, x, y, b, rfl, ⟨by omega, by omega⟩, ⟨by omega, by omega⟩, by omega⟩
set_option maxRecDepth 100000 in
theorem lifted (os : Os) (started : os.Started) (H : Type) (enc : TypeId × Value → H) :
    ReturnsInHanded {} Try.checked os 3 .any (Rows.fnExactValidReaderSpec.pre6 enc Try.prog Try.f3 Rows.fnExactValidReaderRow.domain false) (Rows.fnExactValidReaderSpec.post enc Try.prog Try.f3 false true false false) := by
  refine returnsInHanded_of_change_sized (C := Try.checked) own started (by kernel_rfl) Try.func3
    (ChangeSpec.witness6 (enc := enc) (C := Try.checked) false ⟨#[], #[.agg #[.string ⟨#[]⟩, .int .i16 0, .int .i16 0, .bool false]], []⟩ 8 (by kernel_rfl) (by kernel_rfl) (by kernel_rfl) (by kernel_rfl)) ?_
  intro W base args ds gs before hval0 hW hcnd hsz0 _
  have hval : ∀ (j : Nat) t v, Try.f3.params[j]? = some t → args[j]? = some v → Value.okWide Try.prog W .any base t v := hval0
  have hW' := hW
  obtain ⟨p, q, hA0, hV, rfl, hfz, hnd⟩ := hW
  have hA : DataW.TrodAll enc Try.prog W 0 (fun _ => true) true Try.f3.params.toList args.toList ds p := hA0
  rw [Try.params3] at hA hval
  obtain ⟨v0, vs0, d0, ds0, p0, q0, hargs, rfl, rfl, h0, r0⟩ := trodAll_cons hA
  obtain ⟨rfl, rfl, rfl⟩ := trodAll_nil r0
  obtain rfl : args = #[v0] := by cases args; simp_all
  obtain ⟨rfl, rfl⟩ := trodVars_none hV
  obtain ⟨s, x, y, c, rfl, hx, hy, hs⟩ := open24 (hval 0 24 v0 rfl rfl)
  have k0 := h0
  have lt0 : ∀ x ∈ p0, x.block < W.heap.size := by obtain ⟨m, hm⟩ := k0; exact DataW.trod_lt m _ _ _ hm
  clear hA0 hval0 hsz0
  have hrel : HRel W (fun _ => none) [] W := ⟨Below.refl _ _, fun _ _ h => by simp at h, fun _ _ _ h => by simp at h, fun _ _ _ _ _ _ h => by simp at h, fun _ _ h => by simp at h, fun _ _ h => by simp at h⟩
  have hl : LRel (fun _ => none) [Value.agg ⟨rdr s x y c⟩] [Value.agg ⟨rdr s x y c⟩] := .cons (.agg _ _ rfl (LRel.flat (fun v hv => by simp [rdr] at hv; rcases hv with rfl | rfl | rfl | rfl <;> rfl)).2) (.nil _)
  refine ((law_all [] s x y c hx hy hs).2 W (fun _ => none) W _ hrel hl).mono fun e W' ⟨v, v', H', ι', he, ⟨hv, _⟩, hr, hr2, _⟩ => ?_
  subst he; subst hv
  obtain rfl := hr.flat_eq rfl
  have bel := hr2.below
  exact ⟨_, rfl, _, _, _, [], _, [], hW', trodAll_mk1 (shut_bool Try.underlying4 _), (trodAll_cons_mk (Below.trod laidOut (by kernel_rfl) (of_decide_eq_true (by kernel_rfl)) k0 bel lt0) trodAll_mk0), rfl, bel.frame _, fun h => by cases h⟩
theorem over : Rows.fnExactValidReaderRow.holds Try.pinned (OpenSpec.ofChange Rows.fnExactValidReaderSpec) :=
  OpenClaim.holds_of_wide 3 Try.f3 rfl rfl rfl rfl rfl rfl rfl ⟨rfl, rfl, rfl, rfl, rfl⟩ rfl rfl rfl rfl rfl (by kernel_rfl) Try.func3 (by kernel_rfl)
    (of_decide_eq_true (by kernel_rfl)) (by unfold Func.isWrapper; first | (rw [if_pos (by decide +kernel)]; kernel_rfl) | (rw [if_neg (by decide +kernel)]; exact ⟨rfl, rfl⟩))
    (fun os started H enc _ => lifted os started H enc)
theorem proved : Rows.FnExactValidReaderSaid := over
#print axioms proved
end Go.Proofs.Ytlnkffnabifedaa.fnExactValidReader
namespace Go.Proofs.Ytlnkffnabifedaa
/-- The row, under a short name, for the claim. -/
theorem fnExactValidReader_holds : Rows.FnExactValidReaderSaid := fnExactValidReader.proved
end Go.Proofs.Ytlnkffnabifedaa
