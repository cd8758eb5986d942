/- The law FnExactAreApart returns true at every input, and its arguments read as they did; no conditions beyond the given statement's own. -/
import Derived.Test.YtonnkpclllmkoaaQB4
import Derived.Test.YtonnkpclllmkoaaRows
import Derived.WalkKit
import Derived.ProofKit
import Derived.OpenShut
import Derived.ShutString
import Derived.ChangeOld
import Derived.Below
import Derived.SizedLaws
import Derived.Lib.SmallJoins
set_option linter.unusedVariables false
namespace Go.Proofs.Ytonnkpclllmkoaa.fnExactAreApart
open Go.ChangeShapes Go.WideShapes Go.ChangeAt Go.RowKit Go.Proofs.Ytonnkpclllmkoaa.Eng
open Go.ChangeMaps (open_string shut_string)
theorem own : ownKnob Try.prog.godebug = none := by kernel_rfl
theorem laidOut : laidOutB Try.prog = true := by kernel_rfl
set_option maxRecDepth 100000 in
theorem lifted (os : Os) (started : os.Started) (H : Type) (enc : TypeId × Value → H) :
    ReturnsInHanded {} Try.checked os 3 .any (Rows.fnExactAreApartSpec.pre6 enc Try.prog Try.f3 Rows.fnExactAreApartRow.domain false) (Rows.fnExactAreApartSpec.post enc Try.prog Try.f3 false true false false) := by
  refine returnsInHanded_of_change_sized (C := Try.checked) own started (by kernel_rfl) Try.func3
    (ChangeSpec.witness6 (enc := enc) (C := Try.checked) false ⟨#[], #[.slice none 0 0, .int .i64 0, .int .i64 0, .int .i64 0], []⟩ 8 (by kernel_rfl) (by kernel_rfl) (by kernel_rfl) (by kernel_rfl)) ?_
  intro W base args ds gs before hval0 hW hcnd hsz0 _
  have hval : ∀ (j : Nat) t v, Try.f3.params[j]? = some t → args[j]? = some v → Value.okWide Try.prog W .any base t v := hval0
  have hW' := hW
  obtain ⟨p, q, hA0, hV, rfl, hfz, hnd⟩ := hW
  have hA : DataW.TrodAll enc Try.prog W 0 (fun _ => true) true Try.f3.params.toList args.toList ds p := hA0
  rw [Try.params3] at hA hval
  obtain ⟨v0, vs0, d0, ds0, p0, q0, hargs, rfl, rfl, h0, r0⟩ := trodAll_cons hA
  obtain ⟨v1, vs1, d1, ds1, p1, q1, rfl, rfl, rfl, h1, r1⟩ := trodAll_cons r0
  obtain ⟨v2, vs2, d2, ds2, p2, q2, rfl, rfl, rfl, h2, r2⟩ := trodAll_cons r1
  obtain ⟨v3, vs3, d3, ds3, p3, q3, rfl, rfl, rfl, h3, r3⟩ := trodAll_cons r2
  obtain ⟨rfl, rfl, rfl⟩ := trodAll_nil r3
  obtain rfl : args = #[v0, v1, v2, v3] := by cases args; simp_all
  obtain ⟨rfl, rfl⟩ := trodVars_none hV
  have k0 := h0
  have lt0 : ∀ x ∈ p0, x.block < W.heap.size := by obtain ⟨m, hm⟩ := k0; exact DataW.trod_lt m _ _ _ hm
  have k1 := h1
  have lt1 : ∀ x ∈ p1, x.block < W.heap.size := by obtain ⟨m, hm⟩ := k1; exact DataW.trod_lt m _ _ _ hm
  have k2 := h2
  have lt2 : ∀ x ∈ p2, x.block < W.heap.size := by obtain ⟨m, hm⟩ := k2; exact DataW.trod_lt m _ _ _ hm
  have k3 := h3
  have lt3 : ∀ x ∈ p3, x.block < W.heap.size := by obtain ⟨m, hm⟩ := k3; exact DataW.trod_lt m _ _ _ hm
  obtain ⟨a0, len0, cap0, rfl⟩ := okWide_slice Try.underlying22 (hval 0 22 v0 rfl rfl)
  obtain ⟨fuel0, hf0⟩ := h0
  obtain ⟨l0, ho0, hz0, hs0⟩ := slice_open (n := 9) (e := (.prod .str (.prod (.int .i64) (.prod (.prod (.prod (.int .i64) (.int .i64)) (.prod (.int .i64) (.int .i64))) (.prod (.prod (.int .i64) (.int .i64)) (.prod (.int .i64) (.int .i64))))))) tabOk Try.underlying22 (by kernel_rfl) hf0
  obtain ⟨c0, n0, ρ0, H0, ι0, raw0, hE0, hn0, hc0⟩ := (ent_nil W).slice (.prod .str (.prod (.int .i64) (.prod (.prod (.prod (.int .i64) (.int .i64)) (.prod (.int .i64) (.int .i64))) (.prod (.prod (.int .i64) (.int .i64)) (.prod (.int .i64) (.int .i64)))))) hs0 (by decide)
  obtain ⟨a1, rfl, rfl, rfl, ho1⟩ := open_int Try.underlying2 (hval 1 2 v1 rfl rfl) h1
  have hE1 := hE0.flat (s := .int .i64 a1) rfl
  obtain ⟨a2, rfl, rfl, rfl, ho2⟩ := open_int Try.underlying2 (hval 2 2 v2 rfl rfl) h2
  have hE2 := hE1.flat (s := .int .i64 a2) rfl
  obtain ⟨a3, rfl, rfl, rfl, ho3⟩ := open_int Try.underlying2 (hval 3 2 v3 rfl rfl) h3
  have hE3 := hE2.flat (s := .int .i64 a3) rfl
  clear hA0 hval0 hsz0
  refine (Ent.runs hE3 (law_areApart hn0 hc0 ho0 hz0 (by simpa [Lit.wf, IntKind.min, IntKind.max, IntKind.signed, IntKind.bits] using ho1) (by simpa [Lit.wf, IntKind.min, IntKind.max, IntKind.signed, IntKind.bits] using ho2) (by simpa [Lit.wf, IntKind.min, IntKind.max, IntKind.signed, IntKind.bits] using ho3))).mono fun e W' ⟨he, bel⟩ => ?_
  subst he
  exact ⟨_, rfl, _, _, _, [], _, [], hW', trodAll_mk1 (shut_bool Try.underlying4 _), (trodAll_cons_mk (Below.trod laidOut (by kernel_rfl) (of_decide_eq_true (by kernel_rfl)) k0 bel lt0) (trodAll_cons_mk (Below.trod laidOut (by kernel_rfl) (of_decide_eq_true (by kernel_rfl)) k1 bel lt1) (trodAll_cons_mk (Below.trod laidOut (by kernel_rfl) (of_decide_eq_true (by kernel_rfl)) k2 bel lt2) (trodAll_cons_mk (Below.trod laidOut (by kernel_rfl) (of_decide_eq_true (by kernel_rfl)) k3 bel lt3) trodAll_mk0)))), rfl, bel.frame _, fun h => by cases h⟩
theorem over : Rows.fnExactAreApartRow.holds Try.pinned (OpenSpec.ofChange Rows.fnExactAreApartSpec) :=
  OpenClaim.holds_of_wide 3 Try.f3 rfl rfl rfl rfl rfl rfl rfl ⟨rfl, rfl, rfl, rfl, rfl⟩ rfl rfl rfl rfl rfl (by kernel_rfl) Try.func3 (by kernel_rfl)
    (of_decide_eq_true (by kernel_rfl)) (by unfold Func.isWrapper; first | (rw [if_pos (by decide +kernel)]; kernel_rfl) | (rw [if_neg (by decide +kernel)]; exact ⟨rfl, rfl⟩))
    (fun os started H enc _ => lifted os started H enc)
theorem proved : Rows.FnExactAreApartSaid := over
#print axioms proved
end Go.Proofs.Ytonnkpclllmkoaa.fnExactAreApart
namespace Go.Proofs.Ytonnkpclllmkoaa
/-- The row, under a short name, for the claim. -/
theorem fnExactAreApart_holds : Rows.FnExactAreApartSaid := fnExactAreApart.proved
end Go.Proofs.Ytonnkpclllmkoaa
