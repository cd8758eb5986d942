/- The law FnEveryReport returns true at every input, and its arguments read as they did; no conditions beyond the given statement's own. -/
import Derived.Test.YtbmejhabgoimeaaQD5
import Derived.Test.YtbmejhabgoimeaaRows
import Derived.WalkKit
import Derived.ProofKit
import Derived.OpenShut
import Derived.ShutString
import Derived.ChangeOld
import Derived.Below
import Derived.SizedLaws
import Derived.Lib.SmallJoins
set_option linter.unusedVariables false
namespace Go.Proofs.Ytbmejhabgoimeaa.fnEveryReport
open Go.ChangeShapes Go.WideShapes Go.ChangeAt Go.RowKit Go.Proofs.Ytbmejhabgoimeaa.Eng
open Go.ChangeMaps (open_string shut_string)
theorem own : ownKnob Try.prog.godebug = none := by kernel_rfl
theorem laidOut : laidOutB Try.prog = true := by kernel_rfl
set_option maxRecDepth 100000 in
theorem lifted (os : Os) (started : os.Started) (H : Type) (enc : TypeId × Value → H) :
    ReturnsInHanded {} Try.checked os 4 .any (Rows.fnEveryReportSpec.pre6 enc Try.prog Try.f4 Rows.fnEveryReportRow.domain false) (Rows.fnEveryReportSpec.post enc Try.prog Try.f4 false true false false) := by
  refine returnsInHanded_of_change_sized (C := Try.checked) own started (by kernel_rfl) Try.func4
    (ChangeSpec.witness6 (enc := enc) (C := Try.checked) false ⟨#[], #[.agg #[.int .i64 0, .int .i64 0, .slice none 0 0, .int .i64 0, .bool false, .int .i64 0, .int .i64 0, .slice none 0 0], .agg #[.int .i64 0, .int .i64 0, .int .i64 0, .int .i64 0, .int .i64 0]], []⟩ 8 (by kernel_rfl) (by kernel_rfl) (by kernel_rfl) (by kernel_rfl)) ?_
  intro W base args ds gs before hval0 hW hcnd hsz0 _
  have hval : ∀ (j : Nat) t v, Try.f4.params[j]? = some t → args[j]? = some v → Value.okWide Try.prog W .any base t v := hval0
  have hW' := hW
  obtain ⟨p, q, hA0, hV, rfl, hfz, hnd⟩ := hW
  have hA : DataW.TrodAll enc Try.prog W 0 (fun _ => true) true Try.f4.params.toList args.toList ds p := hA0
  rw [Try.params4] at hA hval
  obtain ⟨v0, vs0, d0, ds0, p0, q0, hargs, rfl, rfl, h0, r0⟩ := trodAll_cons hA
  obtain ⟨v1, vs1, d1, ds1, p1, q1, rfl, rfl, rfl, h1, r1⟩ := trodAll_cons r0
  obtain ⟨rfl, rfl, rfl⟩ := trodAll_nil r1
  obtain rfl : args = #[v0, v1] := by cases args; simp_all
  obtain ⟨rfl, rfl⟩ := trodVars_none hV
  have k0 := h0
  have lt0 : ∀ x ∈ p0, x.block < W.heap.size := by obtain ⟨m, hm⟩ := k0; exact DataW.trod_lt m _ _ _ hm
  have k1 := h1
  have lt1 : ∀ x ∈ p1, x.block < W.heap.size := by obtain ⟨m, hm⟩ := k1; exact DataW.trod_lt m _ _ _ hm
  obtain ⟨⟨cs0⟩, rfl, _⟩ := okWide_struct Try.underlying44 (hval 0 44 v0 rfl rfl)
  obtain ⟨fuel0, hf0⟩ := h0
  obtain ⟨_, _, rfl, ⟨_, _, rfl, ⟨y0_0, rfl, ho0_0⟩, ⟨w0_1, l0_1, rfl, ho0_1, hz0_1, hs0_1⟩⟩, ⟨_, _, rfl, ⟨y0_2, rfl, ho0_2⟩, ⟨_, _, rfl, ⟨y0_3, rfl, ho0_3⟩, ⟨w0_4, l0_4, rfl, ho0_4, hz0_4, hs0_4⟩⟩⟩⟩ := isV_ok (n := 9) (e := (.pr (.pr (.flat (.prod (.int .i64) (.int .i64))) (.sl (.prod (.int .i64) (.int .i64)))) (.pr (.flat (.prod (.int .i64) .bool)) (.pr (.flat (.prod (.int .i64) (.int .i64))) (.sl (.prod .str (.prod (.prod (.int .i64) (.int .i64)) (.prod (.int .i64) (.int .i64))))))))) tabOk (by kernel_rfl) hf0
  have hE0_0 := (ent_nil W).cells (ET.enc_flat (.prod (.int .i64) (.int .i64)) y0_0)
  obtain ⟨c0_1, n0_1, ρ0_1, H0_1, ι0_1, raw0_1, hE0_1, hn0_1, hc0_1⟩ := hE0_0.slice (.prod (.int .i64) (.int .i64)) hs0_1 (by decide)
  have hE0_2 := hE0_1.cells (ET.enc_flat (.prod (.int .i64) .bool) y0_2)
  have hE0_3 := hE0_2.cells (ET.enc_flat (.prod (.int .i64) (.int .i64)) y0_3)
  obtain ⟨c0_4, n0_4, ρ0_4, H0_4, ι0_4, raw0_4, hE0_4, hn0_4, hc0_4⟩ := hE0_3.slice (.prod .str (.prod (.prod (.int .i64) (.int .i64)) (.prod (.int .i64) (.int .i64)))) hs0_4 (by decide)
  have hE0 := hE0_4.pack 0
  obtain ⟨⟨cs1⟩, rfl, _⟩ := okWide_struct Try.underlying47 (hval 1 47 v1 rfl rfl)
  obtain ⟨fuel1, hf1⟩ := h1
  obtain ⟨y1, rfl, ho1⟩ := isE_ok (n := 9) (e := (.prod (.int .i64) (.prod (.prod (.int .i64) (.int .i64)) (.prod (.int .i64) (.int .i64))))) tabOk (by kernel_rfl) hf1
  have hE1 := hE0.agg (ET.enc_flat (.prod (.int .i64) (.prod (.prod (.int .i64) (.int .i64)) (.prod (.int .i64) (.int .i64)))) y1)
  clear hA0 hval0 hsz0
  refine (Ent.runs hE1 (law_everyReport ho0_0 hn0_1 hc0_1 ho0_1 hz0_1 ho0_2 ho0_3 hn0_4 hc0_4 ho0_4 hz0_4 ho1)).mono fun e W' ⟨he, bel⟩ => ?_
  subst he
  exact ⟨_, rfl, _, _, _, [], _, [], hW', trodAll_mk1 (shut_bool Try.underlying4 _), (trodAll_cons_mk (Below.trod laidOut (by kernel_rfl) (of_decide_eq_true (by kernel_rfl)) k0 bel lt0) (trodAll_cons_mk (Below.trod laidOut (by kernel_rfl) (of_decide_eq_true (by kernel_rfl)) k1 bel lt1) trodAll_mk0)), rfl, bel.frame _, fun h => by cases h⟩
theorem over : Rows.fnEveryReportRow.holds Try.pinned (OpenSpec.ofChange Rows.fnEveryReportSpec) :=
  OpenClaim.holds_of_wide 4 Try.f4 rfl rfl rfl rfl rfl rfl rfl ⟨rfl, rfl, rfl, rfl, rfl⟩ rfl rfl rfl rfl rfl (by kernel_rfl) Try.func4 (by kernel_rfl)
    (of_decide_eq_true (by kernel_rfl)) (by unfold Func.isWrapper; first | (rw [if_pos (by decide +kernel)]; kernel_rfl) | (rw [if_neg (by decide +kernel)]; exact ⟨rfl, rfl⟩))
    (fun os started H enc _ => lifted os started H enc)
theorem proved : Rows.FnEveryReportSaid := over
#print axioms proved
end Go.Proofs.Ytbmejhabgoimeaa.fnEveryReport
namespace Go.Proofs.Ytbmejhabgoimeaa
/-- The row, under a short name, for the claim. -/
theorem fnEveryReport_holds : Rows.FnEveryReportSaid := fnEveryReport.proved
end Go.Proofs.Ytbmejhabgoimeaa
