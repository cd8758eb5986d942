/- The law FnExactAgainstStandard returns true at every input, and its arguments read as they did; no conditions beyond the given statement's own. -/
import Derived.Test.YtonnkpclllmkoaaGreatQC6
import Derived.Test.YtonnkpclllmkoaaGreatRows
import Derived.WalkKit
import Derived.ProofKit
import Derived.OpenShut
import Derived.ShutString
import Derived.ChangeOld
import Derived.Below
import Derived.SizedLaws
import Derived.Lib.SmallJoins
set_option linter.unusedVariables false
namespace Go.Proofs.YtonnkpclllmkoaaGreat.fnExactAgainstStandard
open Go.ChangeShapes Go.WideShapes Go.ChangeAt Go.RowKit Go.Proofs.YtonnkpclllmkoaaGreat.Eng
open Go.ChangeMaps (open_string shut_string)
theorem own : ownKnob Tryz.prog.godebug = none := by kernel_rfl
theorem laidOut : laidOutB Tryz.prog = true := by kernel_rfl
set_option maxRecDepth 100000 in
theorem lifted (os : Os) (started : os.Started) (H : Type) (enc : TypeId × Value → H) :
    ReturnsInHanded {} Tryz.checked os 4 .any (Rows.fnExactAgainstStandardSpec.pre6 enc Tryz.prog Tryz.f4 Rows.fnExactAgainstStandardRow.domain false) (Rows.fnExactAgainstStandardSpec.post enc Tryz.prog Tryz.f4 false true false false) := by
  refine returnsInHanded_of_change_sized (C := Tryz.checked) own started (by kernel_rfl) Tryz.func4
    (ChangeSpec.witness6 (enc := enc) (C := Tryz.checked) false ⟨#[], #[.agg #[.int .i64 0, .int .i64 0, .slice none 0 0, .int .i64 0, .bool false, .int .i64 0, .int .i64 0, .slice none 0 0], .agg #[.int .i64 0, .int .i64 0, .int .i64 0, .int .i64 0, .int .i64 0, .int .i64 0, .int .i64 0, .int .i64 0, .int .i64 0, .int .i64 0, .int .i64 0, .int .i64 0, .int .i64 0, .int .i64 0, .int .i64 0], .slice none 0 0, .int .i64 0, .int .i64 0], []⟩ 8 (by kernel_rfl) (by kernel_rfl) (by kernel_rfl) (by kernel_rfl)) ?_
  intro W base args ds gs before hval0 hW hcnd hsz0 _
  have hval : ∀ (j : Nat) t v, Tryz.f4.params[j]? = some t → args[j]? = some v → Value.okWide Tryz.prog W .any base t v := hval0
  have hW' := hW
  obtain ⟨p, q, hA0, hV, rfl, hfz, hnd⟩ := hW
  have hA : DataW.TrodAll enc Tryz.prog W 0 (fun _ => true) true Tryz.f4.params.toList args.toList ds p := hA0
  rw [Tryz.params4] at hA hval
  obtain ⟨v0, vs0, d0, ds0, p0, q0, hargs, rfl, rfl, h0, r0⟩ := trodAll_cons hA
  obtain ⟨v1, vs1, d1, ds1, p1, q1, rfl, rfl, rfl, h1, r1⟩ := trodAll_cons r0
  obtain ⟨v2, vs2, d2, ds2, p2, q2, rfl, rfl, rfl, h2, r2⟩ := trodAll_cons r1
  obtain ⟨v3, vs3, d3, ds3, p3, q3, rfl, rfl, rfl, h3, r3⟩ := trodAll_cons r2
  obtain ⟨v4, vs4, d4, ds4, p4, q4, rfl, rfl, rfl, h4, r4⟩ := trodAll_cons r3
  obtain ⟨rfl, rfl, rfl⟩ := trodAll_nil r4
  obtain rfl : args = #[v0, v1, v2, v3, v4] := by cases args; simp_all
  obtain ⟨rfl, rfl⟩ := trodVars_none hV
  have k0 := h0
  have lt0 : ∀ x ∈ p0, x.block < W.heap.size := by obtain ⟨m, hm⟩ := k0; exact DataW.trod_lt m _ _ _ hm
  have k1 := h1
  have lt1 : ∀ x ∈ p1, x.block < W.heap.size := by obtain ⟨m, hm⟩ := k1; exact DataW.trod_lt m _ _ _ hm
  have k2 := h2
  have lt2 : ∀ x ∈ p2, x.block < W.heap.size := by obtain ⟨m, hm⟩ := k2; exact DataW.trod_lt m _ _ _ hm
  have k3 := h3
  have lt3 : ∀ x ∈ p3, x.block < W.heap.size := by obtain ⟨m, hm⟩ := k3; exact DataW.trod_lt m _ _ _ hm
  have k4 := h4
  have lt4 : ∀ x ∈ p4, x.block < W.heap.size := by obtain ⟨m, hm⟩ := k4; exact DataW.trod_lt m _ _ _ hm
  obtain ⟨⟨cs0⟩, rfl, _⟩ := okWide_struct Tryz.underlying61 (hval 0 61 v0 rfl rfl)
  obtain ⟨fuel0, hf0⟩ := h0
  obtain ⟨_, _, rfl, ⟨_, _, rfl, ⟨y0_0, rfl, ho0_0⟩, ⟨w0_1, l0_1, rfl, ho0_1, hz0_1, hs0_1⟩⟩, ⟨_, _, rfl, ⟨y0_2, rfl, ho0_2⟩, ⟨_, _, rfl, ⟨y0_3, rfl, ho0_3⟩, ⟨w0_4, l0_4, rfl, ho0_4, hz0_4, hs0_4⟩⟩⟩⟩ := isV_ok (n := 9) (e := (.pr (.pr (.flat (.prod (.int .i64) (.int .i64))) (.sl (.prod (.int .i64) (.int .i64)))) (.pr (.flat (.prod (.int .i64) .bool)) (.pr (.flat (.prod (.int .i64) (.int .i64))) (.sl (.prod .str (.prod (.prod (.int .i64) (.int .i64)) (.prod (.int .i64) (.int .i64))))))))) tabOk (by kernel_rfl) hf0
  have hE0_0 := (ent_nil W).cells (ET.enc_flat (.prod (.int .i64) (.int .i64)) y0_0)
  obtain ⟨c0_1, n0_1, ρ0_1, H0_1, ι0_1, raw0_1, hE0_1, hn0_1, hc0_1⟩ := hE0_0.slice (.prod (.int .i64) (.int .i64)) hs0_1 (by decide)
  have hE0_2 := hE0_1.cells (ET.enc_flat (.prod (.int .i64) .bool) y0_2)
  have hE0_3 := hE0_2.cells (ET.enc_flat (.prod (.int .i64) (.int .i64)) y0_3)
  obtain ⟨c0_4, n0_4, ρ0_4, H0_4, ι0_4, raw0_4, hE0_4, hn0_4, hc0_4⟩ := hE0_3.slice (.prod .str (.prod (.prod (.int .i64) (.int .i64)) (.prod (.int .i64) (.int .i64)))) hs0_4 (by decide)
  have hE0 := hE0_4.pack 0
  obtain ⟨⟨cs1⟩, rfl, _⟩ := okWide_struct Tryz.underlying67 (hval 1 67 v1 rfl rfl)
  obtain ⟨fuel1, hf1⟩ := h1
  obtain ⟨y1, rfl, ho1⟩ := isE_ok (n := 9) (e := (.prod (.prod (.int .i64) (.prod (.prod (.int .i64) (.int .i64)) (.prod (.int .i64) (.int .i64)))) (.prod (.prod (.int .i64) (.int .i64)) (.prod (.prod (.int .i64) (.int .i64)) (.prod (.prod (.int .i64) (.int .i64)) (.prod (.prod (.int .i64) (.int .i64)) (.prod (.int .i64) (.int .i64)))))))) tabOk (by kernel_rfl) hf1
  have hE1 := hE0.agg (ET.enc_flat (.prod (.prod (.int .i64) (.prod (.prod (.int .i64) (.int .i64)) (.prod (.int .i64) (.int .i64)))) (.prod (.prod (.int .i64) (.int .i64)) (.prod (.prod (.int .i64) (.int .i64)) (.prod (.prod (.int .i64) (.int .i64)) (.prod (.prod (.int .i64) (.int .i64)) (.prod (.int .i64) (.int .i64))))))) y1)
  obtain ⟨a2, len2, cap2, rfl⟩ := okWide_slice Tryz.underlying68 (hval 2 68 v2 rfl rfl)
  obtain ⟨fuel2, hf2⟩ := h2
  obtain ⟨l2, ho2, hz2, hs2⟩ := slice_open (n := 9) (e := (.prod .str (.prod (.int .i64) (.prod (.prod (.prod (.int .i64) (.int .i64)) (.prod (.int .i64) (.int .i64))) (.prod (.prod (.int .i64) (.int .i64)) (.prod (.int .i64) (.int .i64))))))) tabOk Tryz.underlying68 (by kernel_rfl) hf2
  obtain ⟨c2, n2, ρ2, H2, ι2, raw2, hE2, hn2, hc2⟩ := hE1.slice (.prod .str (.prod (.int .i64) (.prod (.prod (.prod (.int .i64) (.int .i64)) (.prod (.int .i64) (.int .i64))) (.prod (.prod (.int .i64) (.int .i64)) (.prod (.int .i64) (.int .i64)))))) hs2 (by decide)
  obtain ⟨a3, rfl, rfl, rfl, ho3⟩ := open_int Tryz.underlying2 (hval 3 2 v3 rfl rfl) h3
  have hE3 := hE2.flat (s := .int .i64 a3) rfl
  obtain ⟨a4, rfl, rfl, rfl, ho4⟩ := open_int Tryz.underlying2 (hval 4 2 v4 rfl rfl) h4
  have hE4 := hE3.flat (s := .int .i64 a4) rfl
  clear hA0 hval0 hsz0
  refine (Ent.runs hE4 (law_againstStandard ho0_0 hn0_1 hc0_1 ho0_1 hz0_1 ho0_2 ho0_3 hn0_4 hc0_4 ho0_4 hz0_4 ho1 hn2 hc2 ho2 hz2 (by simpa [Lit.wf, IntKind.min, IntKind.max, IntKind.signed, IntKind.bits] using ho3) (by simpa [Lit.wf, IntKind.min, IntKind.max, IntKind.signed, IntKind.bits] using ho4))).mono fun e W' ⟨he, bel⟩ => ?_
  subst he
  exact ⟨_, rfl, _, _, _, [], _, [], hW', trodAll_mk1 (shut_bool Tryz.underlying4 _), (trodAll_cons_mk (Below.trod laidOut (by kernel_rfl) (of_decide_eq_true (by kernel_rfl)) k0 bel lt0) (trodAll_cons_mk (Below.trod laidOut (by kernel_rfl) (of_decide_eq_true (by kernel_rfl)) k1 bel lt1) (trodAll_cons_mk (Below.trod laidOut (by kernel_rfl) (of_decide_eq_true (by kernel_rfl)) k2 bel lt2) (trodAll_cons_mk (Below.trod laidOut (by kernel_rfl) (of_decide_eq_true (by kernel_rfl)) k3 bel lt3) (trodAll_cons_mk (Below.trod laidOut (by kernel_rfl) (of_decide_eq_true (by kernel_rfl)) k4 bel lt4) trodAll_mk0))))), rfl, bel.frame _, fun h => by cases h⟩
theorem over : Rows.fnExactAgainstStandardRow.holds Tryz.pinned (OpenSpec.ofChange Rows.fnExactAgainstStandardSpec) :=
  OpenClaim.holds_of_wide 4 Tryz.f4 rfl rfl rfl rfl rfl rfl rfl ⟨rfl, rfl, rfl, rfl, rfl⟩ rfl rfl rfl rfl rfl (by kernel_rfl) Tryz.func4 (by kernel_rfl)
    (of_decide_eq_true (by kernel_rfl)) (by unfold Func.isWrapper; first | (rw [if_pos (by decide +kernel)]; kernel_rfl) | (rw [if_neg (by decide +kernel)]; exact ⟨rfl, rfl⟩))
    (fun os started H enc _ => lifted os started H enc)
theorem proved : Rows.FnExactAgainstStandardSaid := over
#print axioms proved
end Go.Proofs.YtonnkpclllmkoaaGreat.fnExactAgainstStandard
namespace Go.Proofs.YtonnkpclllmkoaaGreat
/-- The row, under a short name, for the claim. -/
theorem fnExactAgainstStandard_holds : Rows.FnExactAgainstStandardSaid := fnExactAgainstStandard.proved
end Go.Proofs.YtonnkpclllmkoaaGreat
