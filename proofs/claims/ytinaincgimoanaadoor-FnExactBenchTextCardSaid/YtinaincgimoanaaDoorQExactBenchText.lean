/- The law FnExactBenchText returns true at every input, and its arguments read as they did; no conditions beyond the given statement's own. -/
import Derived.Test.YtinaincgimoanaaDoorQB4
import Derived.Test.YtinaincgimoanaaDoorRows
import Derived.Test.YtinaincgimoanaaDoorTie
import Derived.Test.YtinaincgimoanaaDoorCards
import Derived.WalkKit
import Derived.ProofKit
import Derived.OpenShut
import Derived.ShutString
import Derived.ChangeOld
import Derived.Below
import Derived.SizedLaws
import Derived.Lib.SmallJoins
import Derived.LaidMore
import Derived.Stop.Joined
import Derived.Stop.LaidErr
import Derived.Lib.LaidTab
import Derived.SevenTiedAt
set_option linter.unusedVariables false
namespace Go.Proofs.YtinaincgimoanaaDoor.fnExactBenchText
open Go.ChangeShapes Go.WideShapes Go.ChangeAt Go.RowKit Go.Proofs.YtinaincgimoanaaDoor.Eng
open Go.ChangeMaps (open_string shut_string)
theorem own : ownKnob Tryd.prog.godebug = none := by kernel_rfl
theorem laidOut : laidOutB Tryd.prog = true := by kernel_rfl
def laidL : List (String × DataW Unit) := [("math/bits.deBruijn32tab", Rows.laid_math_bits_deBruijn32tab), ("math/bits.deBruijn64tab", Rows.laid_math_bits_deBruijn64tab), ("internal/strconv.uint64pow10", Rows.laid_internal_strconv_uint64pow10)]
theorem door_met (os : Os) (args : Array Value) : laidMetH Tryd.prog laidL ((World.doorLaid Tryd.prog 72 os).forCall (fun _ _ => 0) ⟨#[], args, []⟩).memory :=
  laidMetH_of_parts3 (fuel := 8) (laidMet_of_run' 8 (by kernel_rfl) (by kernel_rfl)) (by kernel_rfl) (by kernel_rfl)
theorem tab_of {W : World} (h : laidMetH Tryd.prog laidL W) : Lib.TabIs Tryd.prog W "internal/strconv.uint64pow10" .u64 Lib.pow10Tab := by
  rw [MakeChecks.laidMetH_plain _ _ _ (by kernel_rfl)] at h
  exact Lib.tabIs_of_head (g := 1) (t := 245) (e := 225) (n := 20) (by kernel_rfl) (by kernel_rfl) Tryd.underlying245 Tryd.underlying225 (by kernel_rfl) (by kernel_rfl) h.tail.tail
set_option maxRecDepth 100000 in
theorem lifted (os : Os) (started : os.Started) (H : Type) (enc : TypeId × Value → H) :
    ReturnsInHanded {} Tryd.checked os 6 .any (fun w args => (Rows.fnExactBenchTextSpec.pre enc Tryd.prog Tryd.f6 Rows.fnExactBenchTextRow.domain false w args ∧ laidMetH Tryd.prog laidL w) ∧ sizedMet enc Tryd.prog Tryd.f6 (OpenSpec.ofChange Rows.fnExactBenchTextSpec) false w args) (Rows.fnExactBenchTextSpec.post enc Tryd.prog Tryd.f6 false true false false) := by
  refine returnsInHanded_of_change_and (C := Tryd.checked) (X := fun w _ => laidMetH Tryd.prog laidL w) (fun _ _ _ hh h => h.of_heap hh) own started (by kernel_rfl) Tryd.func6
    (ChangeSpec.witness_shaped (enc := enc) (C := Tryd.checked) (os := os) (X := fun w _ => laidMetH Tryd.prog laidL w) false (World.doorLaid Tryd.prog 72 os) #[.agg #[.int .i64 0, .int .i64 0, .slice none 0 0, .int .i64 0, .bool false, .int .i64 0, .int .i64 0, .slice none 0 0]] 8 rfl (World.shaped_of_RefB (by kernel_rfl) (by kernel_rfl)) (by kernel_rfl) (by kernel_rfl) (by kernel_rfl) (door_met os _)) ?_
  intro W base args ds gs before hval0 hW hcnd hsz0 hL _
  have hval : ∀ (j : Nat) t v, Tryd.f6.params[j]? = some t → args[j]? = some v → Value.okWide Tryd.prog W .any base t v := hval0
  have hW' := hW
  obtain ⟨p, q, hA0, hV, rfl, hfz, hnd⟩ := hW
  have hA : DataW.TrodAll enc Tryd.prog W 0 (fun _ => true) true Tryd.f6.params.toList args.toList ds p := hA0
  rw [Tryd.params6] at hA hval
  obtain ⟨v0, vs0, d0, ds0, p0, q0, hargs, rfl, rfl, h0, r0⟩ := trodAll_cons hA
  obtain ⟨rfl, rfl, rfl⟩ := trodAll_nil r0
  obtain rfl : args = #[v0] := by cases args; simp_all
  obtain ⟨rfl, rfl⟩ := trodVars_none hV
  have k0 := h0
  have lt0 : ∀ x ∈ p0, x.block < W.heap.size := by obtain ⟨m, hm⟩ := k0; exact DataW.trod_lt m _ _ _ hm
  obtain ⟨⟨cs0⟩, rfl, _⟩ := okWide_struct Tryd.underlying61 (hval 0 61 v0 rfl rfl)
  obtain ⟨fuel0, hf0⟩ := h0
  obtain ⟨_, _, rfl, ⟨_, _, rfl, ⟨y0_0, rfl, ho0_0⟩, ⟨w0_1, l0_1, rfl, ho0_1, hz0_1, hs0_1⟩⟩, ⟨_, _, rfl, ⟨y0_2, rfl, ho0_2⟩, ⟨_, _, rfl, ⟨y0_3, rfl, ho0_3⟩, ⟨w0_4, l0_4, rfl, ho0_4, hz0_4, hs0_4⟩⟩⟩⟩ := isV_ok (n := 9) (e := (.pr (.pr (.flat (.prod (.int .i64) (.int .i64))) (.sl (.prod (.int .i64) (.int .i64)))) (.pr (.flat (.prod (.int .i64) .bool)) (.pr (.flat (.prod (.int .i64) (.int .i64))) (.sl (.prod .str (.prod (.prod (.int .i64) (.int .i64)) (.prod (.int .i64) (.int .i64))))))))) tabOk (by kernel_rfl) hf0
  have hE0_0 := (ent_nil W (tab_of hL)).cells (ET.enc_flat (.prod (.int .i64) (.int .i64)) y0_0)
  obtain ⟨c0_1, n0_1, ρ0_1, H0_1, ι0_1, raw0_1, hE0_1, hn0_1, hc0_1⟩ := hE0_0.slice (.prod (.int .i64) (.int .i64)) hs0_1 (by decide)
  have hE0_2 := hE0_1.cells (ET.enc_flat (.prod (.int .i64) .bool) y0_2)
  have hE0_3 := hE0_2.cells (ET.enc_flat (.prod (.int .i64) (.int .i64)) y0_3)
  obtain ⟨c0_4, n0_4, ρ0_4, H0_4, ι0_4, raw0_4, hE0_4, hn0_4, hc0_4⟩ := hE0_3.slice (.prod .str (.prod (.prod (.int .i64) (.int .i64)) (.prod (.int .i64) (.int .i64)))) hs0_4 (by decide)
  have hE0 := hE0_4.pack 0
  clear hA0 hval0 hsz0
  refine (Ent.runs hE0 (law_benchText ho0_0 hn0_1 hc0_1 ho0_1 hz0_1 ho0_2 ho0_3 hn0_4 hc0_4 ho0_4 hz0_4)).mono fun e W' ⟨he, bel⟩ => ?_
  subst he
  exact ⟨_, rfl, _, _, _, [], _, [], hW', trodAll_mk1 (shut_bool Tryd.underlying4 _), (trodAll_cons_mk (Below.trod laidOut (by kernel_rfl) (of_decide_eq_true (by kernel_rfl)) k0 bel lt0) trodAll_mk0), rfl, bel.frame _, fun h => by cases h⟩
theorem over : Rows.fnExactBenchTextRow.holds Tryd.pinned (OpenSpec.ofChange Rows.fnExactBenchTextSpec) :=
  OpenClaim.holds_of_wide 6 Tryd.f6 rfl rfl rfl rfl rfl rfl rfl ⟨rfl, rfl, rfl, rfl, rfl⟩ rfl rfl rfl rfl rfl (by kernel_rfl) Tryd.func6 (by kernel_rfl)
    (of_decide_eq_true (by kernel_rfl)) (by unfold Func.isWrapper; first | (rw [if_pos (by decide +kernel)]; kernel_rfl) | (rw [if_neg (by decide +kernel)]; exact ⟨rfl, rfl⟩))
    (fun os started H enc _ => lifted os started H enc)
theorem proved : Rows.FnExactBenchTextSaid := over
#print axioms proved
end Go.Proofs.YtinaincgimoanaaDoor.fnExactBenchText
namespace Go.Proofs.YtinaincgimoanaaDoor
/-- The row, under a short name, for the claim. -/
theorem fnExactBenchText_holds : Rows.FnExactBenchTextSaid := fnExactBenchText.proved
set_option maxRecDepth 100000 in
/-- The tied card. -/
theorem fnExactBenchText_card_holds : Rows.FnExactBenchTextCardSaid :=
  Claim7.holds_tied_plain_at .later [] [.data, .data, .data] true (true, "d3a4aa03cb4bce7c7956f67441ea146d763acddf00820a5b39ac2ffff6d9060b") true
    fnExactBenchText_holds (fun _ h => by cases h) (by kernel_rfl) (fun _ h => by cases h) fnExactBenchText_row_tie rfl ⟨rfl, rfl⟩ (by kernel_rfl) rfl
    (fun f fn hf hfn => by
      obtain rfl : f = 6 := Option.some.inj ((show Tryd.prog.funcNamed "loop.example/g01254/laws.FnExactBenchText" = some 6 by kernel_rfl).symm.trans hf) |>.symm
      obtain rfl : fn = Tryd.f6 := (Option.some.inj (Tryd.func6.symm.trans hfn)).symm
      exact ⟨by kernel_rfl, fun j t ht => by
        rw [Tryd.params6] at ht
        have hm : t ∈ [61] := by simpa using Array.mem_of_getElem? ht
        have hall : ([61].all fun u => !Tryd.prog.wantsStandIn u) = true := by kernel_rfl
        exact (show Tryd.prog.wantsStandIn t = false by simpa using List.all_eq_true.1 hall t hm)⟩)
    (by kernel_rfl)
#print axioms fnExactBenchText_card_holds
end Go.Proofs.YtinaincgimoanaaDoor
