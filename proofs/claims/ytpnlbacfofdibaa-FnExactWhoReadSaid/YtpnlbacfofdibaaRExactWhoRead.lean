/- The law FnExactWhoRead returns true at every input, and its arguments read as they did; no conditions beyond the given statement's own. -/
import Derived.Test.YtpnlbacfofdibaaXlawWho
import Derived.Test.YtpnlbacfofdibaaLA
import Derived.Test.YtpnlbacfofdibaaRows
import Derived.WalkKit
import Derived.ProofKit
import Derived.OpenShut
import Derived.ShutString
import Derived.ChangeOld
import Derived.Below
import Derived.SizedLaws
import Derived.Lib.SmallJoins
set_option linter.unusedVariables false
namespace Go.Proofs.Ytpnlbacfofdibaa.fnExactWhoRead
open Go.ChangeShapes Go.WideShapes Go.ChangeAt Go.RowKit Go.Proofs.Ytpnlbacfofdibaa.Eng
open Go.ChangeMaps (open_string shut_string)
theorem own : ownKnob Try.prog.godebug = none := by kernel_rfl
theorem laidOut : laidOutB Try.prog = true := by kernel_rfl
set_option maxRecDepth 100000 in
theorem lifted (os : Os) (started : os.Started) (H : Type) (enc : TypeId × Value → H) :
    ReturnsInHanded {} Try.checked os 9 .any (Rows.fnExactWhoReadSpec.pre6 enc Try.prog Try.f9 Rows.fnExactWhoReadRow.domain false) (Rows.fnExactWhoReadSpec.post enc Try.prog Try.f9 false true false false) := by
  refine returnsInHanded_of_change_sized (C := Try.checked) own started (by kernel_rfl) Try.func9
    (ChangeSpec.witness6 (enc := enc) (C := Try.checked) false ⟨#[], #[.slice none 0 0, .slice none 0 0, .slice none 0 0], []⟩ 8 (by kernel_rfl) (by kernel_rfl) (by kernel_rfl) (by kernel_rfl)) ?_
  intro W base args ds gs before hval0 hW hcnd hsz0 _
  have hval : ∀ (j : Nat) t v, Try.f9.params[j]? = some t → args[j]? = some v → Value.okWide Try.prog W .any base t v := hval0
  have hW' := hW
  obtain ⟨p, q, hA0, hV, rfl, hfz, hnd⟩ := hW
  have hA : DataW.TrodAll enc Try.prog W 0 (fun _ => true) true Try.f9.params.toList args.toList ds p := hA0
  rw [Try.params9] at hA hval
  obtain ⟨v0, vs0, d0, ds0, p0, q0, hargs, rfl, rfl, h0, r0⟩ := trodAll_cons hA
  obtain ⟨v1, vs1, d1, ds1, p1, q1, rfl, rfl, rfl, h1, r1⟩ := trodAll_cons r0
  obtain ⟨v2, vs2, d2, ds2, p2, q2, rfl, rfl, rfl, h2, r2⟩ := trodAll_cons r1
  obtain ⟨rfl, rfl, rfl⟩ := trodAll_nil r2
  obtain rfl : args = #[v0, v1, v2] := by cases args; simp_all
  obtain ⟨rfl, rfl⟩ := trodVars_none hV
  have k0 := h0
  have lt0 : ∀ x ∈ p0, x.block < W.heap.size := by obtain ⟨m, hm⟩ := k0; exact DataW.trod_lt m _ _ _ hm
  have k1 := h1
  have lt1 : ∀ x ∈ p1, x.block < W.heap.size := by obtain ⟨m, hm⟩ := k1; exact DataW.trod_lt m _ _ _ hm
  have k2 := h2
  have lt2 : ∀ x ∈ p2, x.block < W.heap.size := by obtain ⟨m, hm⟩ := k2; exact DataW.trod_lt m _ _ _ hm
  obtain ⟨a0, len0, cap0, rfl⟩ := okWide_slice Try.underlying55 (hval 0 55 v0 rfl rfl)
  obtain ⟨fuel0, hf0⟩ := h0
  obtain ⟨l0, ho0, hz0, hs0⟩ := slice_open (n := 9) (e := (.prod .str (.prod (.int .i16) (.prod (.int .i16) .bool)))) tabOk Try.underlying55 (by kernel_rfl) hf0
  obtain ⟨c0, n0, ρ0, H0, ι0, raw0, hE0, hn0, hc0⟩ := (ent_nil W).slice (.prod .str (.prod (.int .i16) (.prod (.int .i16) .bool))) hs0 (by decide)
  obtain ⟨a1, len1, cap1, rfl⟩ := okWide_slice Try.underlying25 (hval 1 25 v1 rfl rfl)
  obtain ⟨fuel1, hf1⟩ := h1
  obtain ⟨l1, ho1, hz1, hs1⟩ := slice_open (n := 9) (e := (.prod (.int .i64) (.int .i64))) tabOk Try.underlying25 (by kernel_rfl) hf1
  obtain ⟨c1, n1, ρ1, H1, ι1, raw1, hE1, hn1, hc1⟩ := hE0.slice (.prod (.int .i64) (.int .i64)) hs1 (by decide)
  obtain ⟨a2, len2, cap2, rfl⟩ := okWide_slice Try.underlying28 (hval 2 28 v2 rfl rfl)
  obtain ⟨fuel2, hf2⟩ := h2
  obtain ⟨l2, ho2, hz2, hs2⟩ := slice_open (n := 9) (e := (.int .i64)) tabOk Try.underlying28 (by kernel_rfl) hf2
  obtain ⟨c2, n2, ρ2, H2, ι2, raw2, hE2, hn2, hc2⟩ := hE1.slice (.int .i64) hs2 (by decide)
  clear hA0 hval0 hsz0
  refine (Ent.runs hE2 (law_whoRead hn0 hc0 ho0 hz0 hn1 hc1 ho1 hz1 hn2 hc2 ho2 hz2)).mono fun e W' ⟨he, bel⟩ => ?_
  subst he
  exact ⟨_, rfl, _, _, _, [], _, [], hW', trodAll_mk1 (shut_bool Try.underlying4 _), (trodAll_cons_mk (Below.trod laidOut (by kernel_rfl) (of_decide_eq_true (by kernel_rfl)) k0 bel lt0) (trodAll_cons_mk (Below.trod laidOut (by kernel_rfl) (of_decide_eq_true (by kernel_rfl)) k1 bel lt1) (trodAll_cons_mk (Below.trod laidOut (by kernel_rfl) (of_decide_eq_true (by kernel_rfl)) k2 bel lt2) trodAll_mk0))), rfl, bel.frame _, fun h => by cases h⟩
theorem over : Rows.fnExactWhoReadRow.holds Try.pinned (OpenSpec.ofChange Rows.fnExactWhoReadSpec) :=
  OpenClaim.holds_of_wide 9 Try.f9 rfl rfl rfl rfl rfl rfl rfl ⟨rfl, rfl, rfl, rfl, rfl⟩ rfl rfl rfl rfl rfl (by kernel_rfl) Try.func9 (by kernel_rfl)
    (of_decide_eq_true (by kernel_rfl)) (by unfold Func.isWrapper; first | (rw [if_pos (by decide +kernel)]; kernel_rfl) | (rw [if_neg (by decide +kernel)]; exact ⟨rfl, rfl⟩))
    (fun os started H enc _ => lifted os started H enc)
theorem proved : Rows.FnExactWhoReadSaid := over
#print axioms proved
end Go.Proofs.Ytpnlbacfofdibaa.fnExactWhoRead
namespace Go.Proofs.Ytpnlbacfofdibaa
/-- The row, under a short name, for the claim. -/
theorem fnExactWhoRead_holds : Rows.FnExactWhoReadSaid := fnExactWhoRead.proved
end Go.Proofs.Ytpnlbacfofdibaa
