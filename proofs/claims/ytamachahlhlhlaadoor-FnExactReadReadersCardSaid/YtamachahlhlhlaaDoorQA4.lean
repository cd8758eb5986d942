/- Lemmas for the proof, no conditions of their own. -/
import Derived.Test.YtamachahlhlhlaaDoorQA3
set_option linter.unusedVariables false
set_option linter.unusedSimpArgs false
namespace Go.Proofs.YtamachahlhlhlaaDoor.Eng
open Go Go.RowKit
set_option maxRecDepth 100000
theorem rlS_inv {W : List (List UInt8)} {a : RdT} (h : rlS W = some a) : ∃ w0 w1 w2 w3, W = [w0, w1, w2, w3] ∧ ((sgnR w1).isSome = true ∧ (numR w2).isSome = true) ∧ (-50 ≤ (sgnR w1).getD 0 ∧ (sgnR w1).getD 0 ≤ 50) ∧ (1 ≤ (numR w2).getD 0 ∧ (numR w2).getD 0 ≤ 20) ∧ (w3 = [117, 112] ∨ w3 = [100, 111, 119, 110]) ∧ a = (w0, (sgnR w1).getD 0, (numR w2).getD 0, decide (w3 = [117, 112])) := by
  unfold rlS at h
  split at h
  · rename_i w0 w1 w2 w3
    cases e1 : sgnR w1 with
    | none => rw [e1] at h; cases h
    | some x =>
      cases e2 : numR w2 with
      | none => rw [e1, e2] at h; cases h
      | some y =>
        rw [e1, e2] at h
        simp only [Option.bind_some] at h
        split at h
        · rename_i hc
          injection h with h
          exact ⟨w0, w1, w2, w3, rfl, ⟨by rw [e1]; rfl, by rw [e2]; rfl⟩, by rw [e1]; exact hc.1, by rw [e2]; exact hc.2.1, hc.2.2, by rw [e1, e2]; exact h.symm⟩
        · cases h
  · cases h
theorem rlS_of {w0 w1 w2 w3 : List UInt8} (h1 : (sgnR w1).isSome = true) (h2 : (numR w2).isSome = true) (h3 : -50 ≤ (sgnR w1).getD 0 ∧ (sgnR w1).getD 0 ≤ 50) (h4 : 1 ≤ (numR w2).getD 0 ∧ (numR w2).getD 0 ≤ 20) (h5 : w3 = [117, 112] ∨ w3 = [100, 111, 119, 110]) : rlS [w0, w1, w2, w3] ≠ none := by
  unfold rlS
  simp only
  cases e1 : sgnR w1 with
  | none => rw [e1] at h1; cases h1
  | some x =>
    cases e2 : numR w2 with
    | none => rw [e2] at h2; cases h2
    | some y =>
      rw [e1] at h3
      rw [e2] at h4
      simp only [Option.getD_some] at h3 h4
      simp only [Option.bind_some]
      rw [if_pos ⟨h3, h4, h5⟩]
      simp
/-- One contract or another, by the arguments. -/
def s_or (c : List SV → Bool) (s1 s2 : Spec) : Spec := fun args S => match c args with
  | true => s1 args S
  | false => s2 args S
theorem ok_or {P : Program} {f : FuncId} {c : List SV → Bool} {s1 s2 : Spec} (h1 : SpecOk P f s1) (h2 : SpecOk P f s2) : SpecOk P f (s_or c s1 s2) := by
  intro args S h
  unfold s_or at h ⊢
  cases hc : c args with
  | true => rw [hc] at h; exact h1 args S h
  | false => rw [hc] at h; exact h2 args S h
def isU (n : Int) : List SV → Bool
  | [_, .int .u8 x] => decide (x = n)
  | _ => false
def s_splA : Spec := s_or (isU 10) (s_splS 10) (s_or (isU 32) (s_splS 32) (s_splS 47))
theorem ok_splA : SpecOk Tryd.prog 13 s_splA := ok_or (ok_l01Split 10) (ok_or (ok_l01Split 32) (ok_l01Split 47))
def s_rrS1 (R : List RdT) : Spec := fun args S => match args, S with
  | [.str t], [] => ⟨t.length ≤ 1048576 ∧ rrS t = some R, .tup [.sl 0 0 R.length 0, .int .i64 0], [.arr (.prod .str (.prod (.int .i16) (.prod (.int .i16) .bool))) R 4 true]⟩
  | _, _ => noSpec
theorem wU {n : Nat} (h : 1 ≤ n ∧ n ≤ 1048577) : IntKind.i64.wrap ((n : Int) - 1) = (n : Int) - 1 := w64 (by omega)
set_option maxHeartbeats 1600000 in
theorem ok_ReadReadersS1 (R : List RdT) : SpecOk Tryd.prog 5 (s_rrS1 R) := by
  intro args S h; unfold s_rrS1 at h ⊢; (split at h <;> first | exact False.elim h | skip)
  dsimp only at h ⊢
  rename_i t
  obtain ⟨h1, hR⟩ := h
  obtain ⟨hA, hn, hT⟩ := rrS_to hR
  unfold rrS at hR
  by_cases hc : (splL 10 t).getLast? = some [] ∧ (splL 10 t).length ≤ 13
  rotate_left 1
  · rw [if_neg hc] at hR; cases hR
  rw [if_pos hc] at hR
  have hO : allO (fun l => rlS (splL 32 l)) (splL 10 t).dropLast = some R := by
    cases e : allO (fun l => rlS (splL 32 l)) (splL 10 t).dropLast with
    | none => rw [e] at hR; cases hR
    | some R' =>
      rw [e] at hR
      simp only at hR
      by_cases h9 : allR R' = true ∧ rdsT R' = t
      · rw [if_pos h9] at hR; exact hR
      · rw [if_neg h9] at hR; cases hR
  have hm := allO_len hO
  rw [List.length_dropLast] at hm
  have hne := splL_ne 10 t
  have hl : 1 ≤ (splL 10 t).length := by
    cases e : splL 10 t with
    | nil => exact absurd e hne
    | cons a r => simp
  have hw := wU (n := (splL 10 t).length) (by omega)
  have hix : 0 + (IntKind.i64.wrap (((splL 10 t).length : Int) - 1)).toNat = (splL 10 t).length - 1 := by rw [hw]; omega
  have hgl : (splL 10 t)[(splL 10 t).length - 1]? = some [] := by rw [← List.getLast?_eq_getElem?]; exact hc.1
  have hsR : seg R 0 R.length = R := seg_full rfl
  refine funW tabOk (E := [(13, s_splA), (14, s_sgnS), (15, s_numS), (16, s_within), (17, s_allR), (18, s_rtx1)]) ⟨ok_splA, ok_l01Signed, ok_l01Number, ok_l00In, ok_l06Valid, ok_l06Text, trivial⟩ [] (k := 0) (fn := Tryd.f5) rfl rfl rfl rfl rfl rfl ?_
  have hok : decide (IntKind.i64.wrap (((splL 10 t).length : Int) - 1) ≤ 12) = true := by rw [hw]; exact decide_eq_true (by omega)
  (repeat' ((try (conv => whnf)); first | (with_reducible first | refine And.intro ?_ ?_ | refine WX.of ?_) | exact zc | ((with_reducible refine VC.mk ?_); exact zw) | with_reducible refine atL_e hix hgl ?_ | ((with_reducible refine VC.mk ?_); exact ⟨h1, rfl⟩) | (with_reducible first | refine splitT ?_ | refine splitF ?_) | ((with_reducible refine splitM.mk (fun hsm => ?_) (fun hsm => ?_)) <;> (try exact zx)) | ((with_reducible refine splitB.mk (fun h => ?_) (fun h => ?_)) <;> (try simp only [zs, ne_eq] at h) <;> (try simp (disch := omega) only [w64] at h) <;> (try exact zx)) | (with_reducible intro hz; (try exact absurd hz (Nat.succ_ne_zero _)))))
  refine loopW tabOk (E := [(13, s_splA), (14, s_sgnS), (15, s_numS), (16, s_within), (17, s_allR), (18, s_rtx1)]) ⟨ok_splA, ok_l01Signed, ok_l01Number, ok_l00In, ok_l06Valid, ok_l06Text, trivial⟩ [] (σ := Nat) (fun i => [(0, .str t), (4, .sl 0 0 (splL 10 t).length 0), (5, .sl 1 0 i 0), (6, .bool true), (7, .int .i64 i)]) (fun i => [.arr .str (splL 10 t) 1 true, .arr (.prod .str (.prod (.int .i16) (.prod (.int .i16) .bool))) (R.take i) 4 true]) (fun i => (splL 10 t).length - 1 - i) (fun i => i ≤ (splL 10 t).length - 1) 0 (Nat.zero_le _) ?_ ?_
  · (repeat' ((try (conv => whnf)); first | (with_reducible first | refine And.intro ?_ ?_ | refine WX.of ?_) | exact zc | ((with_reducible refine VC.mk ?_); exact zw) | (with_reducible first | refine splitT ?_ | refine splitF ?_) | ((with_reducible refine splitM.mk (fun hsm => ?_) (fun hsm => ?_)) <;> (try exact zx)) | ((with_reducible refine splitB.mk (fun h => ?_) (fun h => ?_)) <;> (try simp only [zs, ne_eq] at h) <;> (try simp (disch := omega) only [w64] at h) <;> (try exact zx)) | (with_reducible intro hz; (try exact absurd hz (Nat.succ_ne_zero _)))))
    all_goals exact ⟨by rw [hok]⟩
  · intro i hi
    by_cases hlt : i < (splL 10 t).length - 1
    · obtain ⟨ln, hln⟩ := get_some (l := splL 10 t) (i := i) (by omega)
      have hld : (splL 10 t).dropLast[i]? = some ln := by rw [List.getElem?_dropLast, if_pos hlt]; exact hln
      obtain ⟨a, ha, hf⟩ := allO_at hO hld
      obtain ⟨w0, w1, w2, w3, hW, ⟨q1, q2⟩, hb, hu, hv, rfl⟩ := rlS_inv hf
      have hl1 := splL_sub 10 t ln (List.mem_of_getElem? hln)
      have hs := fun x hx => splL_sub 32 ln x hx
      rw [hW] at hs
      have hs1 := hs w1 (by simp)
      have hs2 := hs w2 (by simp)
      have hlnl : ln.length ≤ 1048576 := by omega
      have hW0 : (splL 32 ln)[0]? = some w0 := by rw [hW]; rfl
      have hW1 : (splL 32 ln)[1]? = some w1 := by rw [hW]; rfl
      have hW2 : (splL 32 ln)[2]? = some w2 := by rw [hW]; rfl
      have hW3 : (splL 32 ln)[3]? = some w3 := by rw [hW]; rfl
      have hWn : (splL 32 ln).length = 4 := by rw [hW]; rfl
      have hWl : decide (((splL 32 ln).length : Int) ≠ 4) = false := by rw [hWn]; rfl
      have hlen : (R.take i).length = i := by rw [List.length_take]; omega
      have hwb : IntKind.i16.wrap ((sgnR w1).getD 0) = (sgnR w1).getD 0 := by
        simp [IntKind.wrap, IntKind.bits, IntKind.signed]; omega
      have hwu : IntKind.i16.wrap ((numR w2).getD 0) = (numR w2).getD 0 := by
        simp [IntKind.wrap, IntKind.bits, IntKind.signed]; omega
      have k3 := decide_eq_true hb
      have k4 := decide_eq_true hu
      by_cases k5 : w3 = [117, 112]
      · have k5 := decide_eq_true k5
        (repeat' ((try (conv => whnf)); first | (with_reducible first | refine And.intro ?_ ?_ | refine WX.of ?_) | exact zc | ((with_reducible refine VC.mk ?_); exact zw) | with_reducible refine atL_0 hln ?_ | refine atL_w hW0 (by decide) ?_ | refine atL_w hW1 (by decide) ?_ | refine atL_w hW2 (by decide) ?_ | refine atL_w hW3 (by decide) ?_ | ((with_reducible refine splitT_of ?_ ?_); (focus (simp only [hWl, q1, q2, k3, k4, k5, Bool.not_true, Bool.not_false, decide_true, decide_false]; done))) | ((with_reducible refine splitF_of ?_ ?_); (focus (simp only [hWl, q1, q2, k3, k4, k5, Bool.not_true, Bool.not_false, decide_true, decide_false]; done))) | ((with_reducible refine VC.mk ?_); exact ⟨hlnl, rfl⟩) | (with_reducible first | refine splitT ?_ | refine splitF ?_) | ((with_reducible refine splitM.mk (fun hsm => ?_) (fun hsm => ?_)) <;> (try exact zx)) | ((with_reducible refine splitB.mk (fun h => ?_) (fun h => ?_)) <;> (try simp only [zs, ne_eq] at h) <;> (try simp (disch := omega) only [w64] at h) <;> (try exact zx)) | (with_reducible intro hz; (try exact absurd hz (Nat.succ_ne_zero _)))))
        refine ⟨i + 1, by omega, by omega, ?_⟩
        (repeat' ((try (conv => whnf)); first | (with_reducible first | refine And.intro ?_ ?_ | refine WX.of ?_) | exact zc | ((with_reducible refine VC.mk ?_); exact zw) | (with_reducible first | refine splitT ?_ | refine splitF ?_) | ((with_reducible refine splitM.mk (fun hsm => ?_) (fun hsm => ?_)) <;> (try exact zx)) | ((with_reducible refine splitB.mk (fun h => ?_) (fun h => ?_)) <;> (try simp only [zs, ne_eq] at h) <;> (try simp (disch := omega) only [w64] at h) <;> (try exact zx)) | (with_reducible intro hz; (try exact absurd hz (Nat.succ_ne_zero _)))))
        all_goals (refine ⟨?_⟩; rw [hwb, hwu]; exact app_take ha)
      · have k6 : decide (w3 = [100, 111, 119, 110]) = true := decide_eq_true (hv.resolve_left k5)
        have k5 := decide_eq_false k5
        (repeat' ((try (conv => whnf)); first | (with_reducible first | refine And.intro ?_ ?_ | refine WX.of ?_) | exact zc | ((with_reducible refine VC.mk ?_); exact zw) | with_reducible refine atL_0 hln ?_ | refine atL_w hW0 (by decide) ?_ | refine atL_w hW1 (by decide) ?_ | refine atL_w hW2 (by decide) ?_ | refine atL_w hW3 (by decide) ?_ | ((with_reducible refine splitT_of ?_ ?_); (focus (simp only [hWl, q1, q2, k3, k4, k5, k6, Bool.not_true, Bool.not_false, decide_true, decide_false]; done))) | ((with_reducible refine splitF_of ?_ ?_); (focus (simp only [hWl, q1, q2, k3, k4, k5, k6, Bool.not_true, Bool.not_false, decide_true, decide_false]; done))) | ((with_reducible refine VC.mk ?_); exact ⟨hlnl, rfl⟩) | (with_reducible first | refine splitT ?_ | refine splitF ?_) | ((with_reducible refine splitM.mk (fun hsm => ?_) (fun hsm => ?_)) <;> (try exact zx)) | ((with_reducible refine splitB.mk (fun h => ?_) (fun h => ?_)) <;> (try simp only [zs, ne_eq] at h) <;> (try simp (disch := omega) only [w64] at h) <;> (try exact zx)) | (with_reducible intro hz; (try exact absurd hz (Nat.succ_ne_zero _)))))
        refine ⟨i + 1, by omega, by omega, ?_⟩
        (repeat' ((try (conv => whnf)); first | (with_reducible first | refine And.intro ?_ ?_ | refine WX.of ?_) | exact zc | ((with_reducible refine VC.mk ?_); exact zw) | (with_reducible first | refine splitT ?_ | refine splitF ?_) | ((with_reducible refine splitM.mk (fun hsm => ?_) (fun hsm => ?_)) <;> (try exact zx)) | ((with_reducible refine splitB.mk (fun h => ?_) (fun h => ?_)) <;> (try simp only [zs, ne_eq] at h) <;> (try simp (disch := omega) only [w64] at h) <;> (try exact zx)) | (with_reducible intro hz; (try exact absurd hz (Nat.succ_ne_zero _)))))
        all_goals first
          | exact ⟨congrArg SV.bool k6.symm⟩
          | (refine ⟨?_⟩; rw [hwb, hwu]; exact app_take ha)
    · obtain rfl : i = (splL 10 t).length - 1 := by omega
      have htk : R.take ((splL 10 t).length - 1) = R := List.take_of_length_le (by omega)
      have hgd : ∀ (j : Nat) (a : RdT), R[j]? = some a → rdrGood a := fun j a ha => by
        have hr := List.all_eq_true.1 hA a (List.mem_of_getElem? ha)
        obtain ⟨g1, g2, g3⟩ := rdr_b hr
        have g4 : a.1.length ≤ 12 := by
          unfold wordB at g1
          simp only [Bool.and_eq_true, decide_eq_true_eq] at g1
          omega
        unfold rdrGood
        omega
      have hsg : seg R 0 ((splL 10 t).length - 1) = R := seg_full hm
      have hA2 : allR (seg R 0 ((splL 10 t).length - 1)) = true := by rw [hsg]; exact hA
      have hT2 : rdsT (seg R 0 ((splL 10 t).length - 1)) = t := by rw [hsg]; exact hT.symm
      rw [htk]
      (repeat' ((try (conv => whnf)); first | (with_reducible first | refine And.intro ?_ ?_ | refine WX.of ?_) | exact zc | ((with_reducible refine VC.mk ?_); exact zw) | ((with_reducible refine VC.mk ?_); exact ⟨by omega, by omega, hgd⟩) | ((with_reducible refine VC.mk ?_); exact ⟨⟨by omega, by omega, hgd⟩, hA2⟩) | ((with_reducible refine splitT_of ?_ ?_); (focus (simp only [hA2, hT2, Bool.not_true, ne_eq, eq_self, not_true_eq_false, decide_false, Bool.not_true, Bool.not_false, decide_true, decide_false]; done))) | ((with_reducible refine splitF_of ?_ ?_); (focus (simp only [hA2, hT2, Bool.not_true, ne_eq, eq_self, not_true_eq_false, decide_false, Bool.not_true, Bool.not_false, decide_true, decide_false]; done))) | (with_reducible first | refine splitT ?_ | refine splitF ?_) | ((with_reducible refine splitM.mk (fun hsm => ?_) (fun hsm => ?_)) <;> (try exact zx)) | ((with_reducible refine splitB.mk (fun h => ?_) (fun h => ?_)) <;> (try simp only [zs, ne_eq] at h) <;> (try simp (disch := omega) only [w64] at h) <;> (try exact zx)) | (with_reducible intro hz; (try exact absurd hz (Nat.succ_ne_zero _)))))
      exact ⟨by rw [hm]⟩
def s_rrS0 : Spec := fun args S => match args, S with
  | [.str t], [] => ⟨t.length ≤ 1048576 ∧ rrS t = none, .tup [.sl 0 0 0 0, .int .i64 5], [.arr (.prod .str (.prod (.int .i16) (.prod (.int .i16) .bool))) [] 4 true]⟩
  | _, _ => noSpec
set_option maxHeartbeats 1600000 in
theorem ok_ReadReadersS0 : SpecOk Tryd.prog 5 s_rrS0 := by
  intro args S h; unfold s_rrS0 at h ⊢; (split at h <;> first | exact False.elim h | skip)
  dsimp only at h ⊢
  rename_i t
  obtain ⟨h1, hR⟩ := h
  unfold rrS at hR
  have hne := splL_ne 10 t
  have hl : 1 ≤ (splL 10 t).length := by
    cases e : splL 10 t with
    | nil => exact absurd e hne
    | cons a r => simp
  have hlm := splL_len 10 t
  have hw := wU (n := (splL 10 t).length) (by omega)
  have hix : 0 + (IntKind.i64.wrap (((splL 10 t).length : Int) - 1)).toNat = (splL 10 t).length - 1 := by rw [hw]; omega
  obtain ⟨la, hla⟩ := get_some (l := splL 10 t) (i := (splL 10 t).length - 1) (by omega)
  have hgl : (splL 10 t).getLast? = some la := by rw [List.getLast?_eq_getElem?]; exact hla
  by_cases hc : (splL 10 t).getLast? = some [] ∧ (splL 10 t).length ≤ 13
  rotate_left 1
  · by_cases he : la = []
    · have hn : ¬ (splL 10 t).length ≤ 13 := fun hn => hc ⟨by rw [hgl, he], hn⟩
      have k1 : decide (la = []) = true := decide_eq_true he
      have hok : decide (IntKind.i64.wrap (((splL 10 t).length : Int) - 1) ≤ 12) = false := by rw [hw]; exact decide_eq_false (by omega)
      refine funW tabOk (E := [(13, s_splA), (14, s_sgnS), (15, s_numS), (16, s_within), (17, s_allR), (18, s_rtx1)]) ⟨ok_splA, ok_l01Signed, ok_l01Number, ok_l00In, ok_l06Valid, ok_l06Text, trivial⟩ [] (k := 0) (fn := Tryd.f5) rfl rfl rfl rfl rfl rfl ?_
      (repeat' ((try (conv => whnf)); first | (with_reducible first | refine And.intro ?_ ?_ | refine WX.of ?_) | exact zc | ((with_reducible refine VC.mk ?_); exact zw) | with_reducible refine atL_e hix hla ?_ | ((with_reducible refine VC.mk ?_); exact ⟨h1, rfl⟩) | ((with_reducible refine splitT_of ?_ ?_); (focus (simp only [k1, Bool.not_true, Bool.not_false, decide_true, decide_false]; done))) | ((with_reducible refine splitF_of ?_ ?_); (focus (simp only [k1, Bool.not_true, Bool.not_false, decide_true, decide_false]; done))) | (with_reducible first | refine splitT ?_ | refine splitF ?_) | ((with_reducible refine splitM.mk (fun hsm => ?_) (fun hsm => ?_)) <;> (try exact zx)) | ((with_reducible refine splitB.mk (fun h => ?_) (fun h => ?_)) <;> (try simp only [zs, ne_eq] at h) <;> (try simp (disch := omega) only [w64] at h) <;> (try exact zx)) | (with_reducible intro hz; (try exact absurd hz (Nat.succ_ne_zero _)))))
      refine loop1 tabOk (E := [(13, s_splA), (14, s_sgnS), (15, s_numS), (16, s_within), (17, s_allR), (18, s_rtx1)]) ⟨ok_splA, ok_l01Signed, ok_l01Number, ok_l00In, ok_l06Valid, ok_l06Text, trivial⟩ [] ?_
      (repeat' ((try (conv => whnf)); first | (with_reducible first | refine And.intro ?_ ?_ | refine WX.of ?_) | exact zc | ((with_reducible refine VC.mk ?_); exact zw) | ((with_reducible refine splitT_of ?_ ?_); (focus (simp only [hok, Bool.not_false, Bool.not_true, Bool.not_false, decide_true, decide_false]; done))) | ((with_reducible refine splitF_of ?_ ?_); (focus (simp only [hok, Bool.not_false, Bool.not_true, Bool.not_false, decide_true, decide_false]; done))) | (with_reducible first | refine splitT ?_ | refine splitF ?_) | ((with_reducible refine splitM.mk (fun hsm => ?_) (fun hsm => ?_)) <;> (try exact zx)) | ((with_reducible refine splitB.mk (fun h => ?_) (fun h => ?_)) <;> (try simp only [zs, ne_eq] at h) <;> (try simp (disch := omega) only [w64] at h) <;> (try exact zx)) | (with_reducible intro hz; (try exact absurd hz (Nat.succ_ne_zero _)))))
    · have k1 : decide (la = []) = false := decide_eq_false he
      refine funW tabOk (E := [(13, s_splA), (14, s_sgnS), (15, s_numS), (16, s_within), (17, s_allR), (18, s_rtx1)]) ⟨ok_splA, ok_l01Signed, ok_l01Number, ok_l00In, ok_l06Valid, ok_l06Text, trivial⟩ [] (k := 0) (fn := Tryd.f5) rfl rfl rfl rfl rfl rfl ?_
      (repeat' ((try (conv => whnf)); first | (with_reducible first | refine And.intro ?_ ?_ | refine WX.of ?_) | exact zc | ((with_reducible refine VC.mk ?_); exact zw) | with_reducible refine atL_e hix hla ?_ | ((with_reducible refine VC.mk ?_); exact ⟨h1, rfl⟩) | ((with_reducible refine splitT_of ?_ ?_); (focus (simp only [k1, Bool.not_true, Bool.not_false, decide_true, decide_false]; done))) | ((with_reducible refine splitF_of ?_ ?_); (focus (simp only [k1, Bool.not_true, Bool.not_false, decide_true, decide_false]; done))) | (with_reducible first | refine splitT ?_ | refine splitF ?_) | ((with_reducible refine splitM.mk (fun hsm => ?_) (fun hsm => ?_)) <;> (try exact zx)) | ((with_reducible refine splitB.mk (fun h => ?_) (fun h => ?_)) <;> (try simp only [zs, ne_eq] at h) <;> (try simp (disch := omega) only [w64] at h) <;> (try exact zx)) | (with_reducible intro hz; (try exact absurd hz (Nat.succ_ne_zero _)))))
      refine loop1 tabOk (E := [(13, s_splA), (14, s_sgnS), (15, s_numS), (16, s_within), (17, s_allR), (18, s_rtx1)]) ⟨ok_splA, ok_l01Signed, ok_l01Number, ok_l00In, ok_l06Valid, ok_l06Text, trivial⟩ [] ?_
      (repeat' ((try (conv => whnf)); first | (with_reducible first | refine And.intro ?_ ?_ | refine WX.of ?_) | exact zc | ((with_reducible refine VC.mk ?_); exact zw) | ((with_reducible refine splitT_of ?_ ?_); (focus (simp only [k1, Bool.not_false, Bool.not_true, Bool.not_false, decide_true, decide_false]; done))) | ((with_reducible refine splitF_of ?_ ?_); (focus (simp only [k1, Bool.not_false, Bool.not_true, Bool.not_false, decide_true, decide_false]; done))) | (with_reducible first | refine splitT ?_ | refine splitF ?_) | ((with_reducible refine splitM.mk (fun hsm => ?_) (fun hsm => ?_)) <;> (try exact zx)) | ((with_reducible refine splitB.mk (fun h => ?_) (fun h => ?_)) <;> (try simp only [zs, ne_eq] at h) <;> (try simp (disch := omega) only [w64] at h) <;> (try exact zx)) | (with_reducible intro hz; (try exact absurd hz (Nat.succ_ne_zero _)))))
  rw [if_pos hc] at hR
  rw [hgl] at hc
  have he : la = [] := Option.some.inj hc.1
  subst he
  have hok : decide (IntKind.i64.wrap (((splL 10 t).length : Int) - 1) ≤ 12) = true := by rw [hw]; exact decide_eq_true (by omega)
  cases hO : allO (fun l => rlS (splL 32 l)) (splL 10 t).dropLast with
  | none =>
    obtain ⟨k, ln, pre, hx, hf0, hO⟩ := allO_none hO
    have hk : k < (splL 10 t).length - 1 := by
      have := (List.getElem?_eq_some_iff.1 hx).1
      rwa [List.length_dropLast] at this
    have hm := allO_len hO
    rw [List.length_take, List.length_dropLast] at hm
    have hln : (splL 10 t)[k]? = some ln := by rw [List.getElem?_dropLast, if_pos hk] at hx; exact hx
    have hlB := splL_sub 10 t ln (List.mem_of_getElem? hln)
    have hlnl : ln.length ≤ 1048576 := by omega
    have hJ : ∀ J : RdT, ∀ i, i ≤ k → (pre ++ [J]).take i = pre.take i := fun J i hi => by rw [List.take_append_of_le_length (by omega)]
    have hJ2 : ∀ J : RdT, (pre ++ [J]).take (k + 1) = pre ++ [J] := fun J => List.take_of_length_le (by rw [List.length_append, hm]; simp; omega)
    generalize hJd : ((wR (splL 32 ln) 0, IntKind.i16.wrap ((sgnR (wR (splL 32 ln) 1)).getD 0), IntKind.i16.wrap ((numR (wR (splL 32 ln) 2)).getD 0), decide (wR (splL 32 ln) 3 = [117, 112])) : RdT) = J
    refine funW tabOk (E := [(13, s_splA), (14, s_sgnS), (15, s_numS), (16, s_within), (17, s_allR), (18, s_rtx1)]) ⟨ok_splA, ok_l01Signed, ok_l01Number, ok_l00In, ok_l06Valid, ok_l06Text, trivial⟩ [] (k := 0) (fn := Tryd.f5) rfl rfl rfl rfl rfl rfl ?_
    (repeat' ((try (conv => whnf)); first | (with_reducible first | refine And.intro ?_ ?_ | refine WX.of ?_) | exact zc | ((with_reducible refine VC.mk ?_); exact zw) | with_reducible refine atL_e hix hla ?_ | ((with_reducible refine VC.mk ?_); exact ⟨h1, rfl⟩) | (with_reducible first | refine splitT ?_ | refine splitF ?_) | ((with_reducible refine splitM.mk (fun hsm => ?_) (fun hsm => ?_)) <;> (try exact zx)) | ((with_reducible refine splitB.mk (fun h => ?_) (fun h => ?_)) <;> (try simp only [zs, ne_eq] at h) <;> (try simp (disch := omega) only [w64] at h) <;> (try exact zx)) | (with_reducible intro hz; (try exact absurd hz (Nat.succ_ne_zero _)))))
    refine loopW tabOk (E := [(13, s_splA), (14, s_sgnS), (15, s_numS), (16, s_within), (17, s_allR), (18, s_rtx1)]) ⟨ok_splA, ok_l01Signed, ok_l01Number, ok_l00In, ok_l06Valid, ok_l06Text, trivial⟩ [] (σ := Nat) (fun i => [(0, .str t), (4, .sl 0 0 (splL 10 t).length 0), (5, .sl 1 0 i 0), (6, .bool (decide (i ≤ k))), (7, .int .i64 i)]) (fun i => [.arr .str (splL 10 t) 1 true, .arr (.prod .str (.prod (.int .i16) (.prod (.int .i16) .bool))) ((pre ++ [J]).take i) 4 true]) (fun i => (splL 10 t).length - 1 - i) (fun i => i ≤ k + 1) 0 (Nat.zero_le _) ?_ ?_
    · (repeat' ((try (conv => whnf)); first | (with_reducible first | refine And.intro ?_ ?_ | refine WX.of ?_) | exact zc | ((with_reducible refine VC.mk ?_); exact zw) | (with_reducible first | refine splitT ?_ | refine splitF ?_) | ((with_reducible refine splitM.mk (fun hsm => ?_) (fun hsm => ?_)) <;> (try exact zx)) | ((with_reducible refine splitB.mk (fun h => ?_) (fun h => ?_)) <;> (try simp only [zs, ne_eq] at h) <;> (try simp (disch := omega) only [w64] at h) <;> (try exact zx)) | (with_reducible intro hz; (try exact absurd hz (Nat.succ_ne_zero _)))))
      all_goals exact ⟨by rw [hok]; rfl⟩
    · intro i hi
      have hlen : ((pre ++ [J]).take i).length = i := by rw [List.length_take, List.length_append]; simp; omega
      by_cases hlt : i < k
      · have hd : decide (i ≤ k) = true := decide_eq_true (by omega)
        have hd2 : decide (i + 1 ≤ k) = true := decide_eq_true (by omega)
        obtain ⟨ln, hln⟩ := get_some (l := splL 10 t) (i := i) (by omega)
        have hld : ((splL 10 t).dropLast.take k)[i]? = some ln := by rw [List.getElem?_take, if_pos hlt, List.getElem?_dropLast, if_pos (by omega)]; exact hln
        obtain ⟨a, ha, hf⟩ := allO_at hO hld
        have hag : (pre ++ [J])[i]? = some a := by rw [List.getElem?_append_left (by omega)]; exact ha
        obtain ⟨w0, w1, w2, w3, hW, ⟨q1, q2⟩, hb, hu, hv, rfl⟩ := rlS_inv hf
        have hl1 := splL_sub 10 t ln (List.mem_of_getElem? hln)
        have hs := fun x hx => splL_sub 32 ln x hx
        rw [hW] at hs
        have hs1 := hs w1 (by simp)
        have hs2 := hs w2 (by simp)
        have hlnl : ln.length ≤ 1048576 := by omega
        have hW0 : (splL 32 ln)[0]? = some w0 := by rw [hW]; rfl
        have hW1 : (splL 32 ln)[1]? = some w1 := by rw [hW]; rfl
        have hW2 : (splL 32 ln)[2]? = some w2 := by rw [hW]; rfl
        have hW3 : (splL 32 ln)[3]? = some w3 := by rw [hW]; rfl
        have hWn : (splL 32 ln).length = 4 := by rw [hW]; rfl
        have hWl : decide (((splL 32 ln).length : Int) ≠ 4) = false := by rw [hWn]; rfl
        have hwb : IntKind.i16.wrap ((sgnR w1).getD 0) = (sgnR w1).getD 0 := by
          simp [IntKind.wrap, IntKind.bits, IntKind.signed]; omega
        have hwu : IntKind.i16.wrap ((numR w2).getD 0) = (numR w2).getD 0 := by
          simp [IntKind.wrap, IntKind.bits, IntKind.signed]; omega
        have k3 := decide_eq_true hb
        have k4 := decide_eq_true hu
        by_cases k5 : w3 = [117, 112]
        · have k5 := decide_eq_true k5
          (repeat' ((try (conv => whnf)); first | (with_reducible first | refine And.intro ?_ ?_ | refine WX.of ?_) | exact zc | ((with_reducible refine VC.mk ?_); exact zw) | with_reducible refine atL_0 hln ?_ | refine atL_w hW0 (by decide) ?_ | refine atL_w hW1 (by decide) ?_ | refine atL_w hW2 (by decide) ?_ | refine atL_w hW3 (by decide) ?_ | ((with_reducible refine splitT_of ?_ ?_); (focus (simp only [hd, hWl, q1, q2, k3, k4, k5, Bool.not_true, Bool.not_false, decide_true, decide_false]; done))) | ((with_reducible refine splitF_of ?_ ?_); (focus (simp only [hd, hWl, q1, q2, k3, k4, k5, Bool.not_true, Bool.not_false, decide_true, decide_false]; done))) | ((with_reducible refine VC.mk ?_); exact ⟨hlnl, rfl⟩) | (with_reducible first | refine splitT ?_ | refine splitF ?_) | ((with_reducible refine splitM.mk (fun hsm => ?_) (fun hsm => ?_)) <;> (try exact zx)) | ((with_reducible refine splitB.mk (fun h => ?_) (fun h => ?_)) <;> (try simp only [zs, ne_eq] at h) <;> (try simp (disch := omega) only [w64] at h) <;> (try exact zx)) | (with_reducible intro hz; (try exact absurd hz (Nat.succ_ne_zero _)))))
          refine ⟨i + 1, by omega, by omega, ?_⟩
          rw [hd2]
          (repeat' ((try (conv => whnf)); first | (with_reducible first | refine And.intro ?_ ?_ | refine WX.of ?_) | exact zc | ((with_reducible refine VC.mk ?_); exact zw) | (with_reducible first | refine splitT ?_ | refine splitF ?_) | ((with_reducible refine splitM.mk (fun hsm => ?_) (fun hsm => ?_)) <;> (try exact zx)) | ((with_reducible refine splitB.mk (fun h => ?_) (fun h => ?_)) <;> (try simp only [zs, ne_eq] at h) <;> (try simp (disch := omega) only [w64] at h) <;> (try exact zx)) | (with_reducible intro hz; (try exact absurd hz (Nat.succ_ne_zero _)))))
          all_goals (refine ⟨?_⟩; rw [hwb, hwu]; exact app_take hag)
        · have k6 : decide (w3 = [100, 111, 119, 110]) = true := decide_eq_true (hv.resolve_left k5)
          have k5 := decide_eq_false k5
          (repeat' ((try (conv => whnf)); first | (with_reducible first | refine And.intro ?_ ?_ | refine WX.of ?_) | exact zc | ((with_reducible refine VC.mk ?_); exact zw) | with_reducible refine atL_0 hln ?_ | refine atL_w hW0 (by decide) ?_ | refine atL_w hW1 (by decide) ?_ | refine atL_w hW2 (by decide) ?_ | refine atL_w hW3 (by decide) ?_ | ((with_reducible refine splitT_of ?_ ?_); (focus (simp only [hd, hWl, q1, q2, k3, k4, k5, k6, Bool.not_true, Bool.not_false, decide_true, decide_false]; done))) | ((with_reducible refine splitF_of ?_ ?_); (focus (simp only [hd, hWl, q1, q2, k3, k4, k5, k6, Bool.not_true, Bool.not_false, decide_true, decide_false]; done))) | ((with_reducible refine VC.mk ?_); exact ⟨hlnl, rfl⟩) | (with_reducible first | refine splitT ?_ | refine splitF ?_) | ((with_reducible refine splitM.mk (fun hsm => ?_) (fun hsm => ?_)) <;> (try exact zx)) | ((with_reducible refine splitB.mk (fun h => ?_) (fun h => ?_)) <;> (try simp only [zs, ne_eq] at h) <;> (try simp (disch := omega) only [w64] at h) <;> (try exact zx)) | (with_reducible intro hz; (try exact absurd hz (Nat.succ_ne_zero _)))))
          refine ⟨i + 1, by omega, by omega, ?_⟩
          rw [hd2]
          (repeat' ((try (conv => whnf)); first | (with_reducible first | refine And.intro ?_ ?_ | refine WX.of ?_) | exact zc | ((with_reducible refine VC.mk ?_); exact zw) | (with_reducible first | refine splitT ?_ | refine splitF ?_) | ((with_reducible refine splitM.mk (fun hsm => ?_) (fun hsm => ?_)) <;> (try exact zx)) | ((with_reducible refine splitB.mk (fun h => ?_) (fun h => ?_)) <;> (try simp only [zs, ne_eq] at h) <;> (try simp (disch := omega) only [w64] at h) <;> (try exact zx)) | (with_reducible intro hz; (try exact absurd hz (Nat.succ_ne_zero _)))))
          all_goals first
            | exact ⟨congrArg SV.bool k6.symm⟩
            | (refine ⟨?_⟩; rw [hwb, hwu]; exact app_take hag)
      · by_cases hik : i = k
        · subst hik
          have hd : decide (i ≤ i) = true := decide_eq_true (Nat.le_refl _)
          have hd2 : decide (i + 1 ≤ i) = false := decide_eq_false (by omega)
          by_cases hWn : (splL 32 ln).length = 4
          · obtain ⟨w0, w1, w2, w3, hW⟩ : ∃ w0 w1 w2 w3, splL 32 ln = [w0, w1, w2, w3] := by
              match e : splL 32 ln, hWn with
              | [w0, w1, w2, w3], _ => exact ⟨w0, w1, w2, w3, rfl⟩
            have hs := fun x hx => splL_sub 32 ln x hx
            rw [hW] at hs
            have hs1 := hs w1 (by simp)
            have hs2 := hs w2 (by simp)
            have hW0 : (splL 32 ln)[0]? = some w0 := by rw [hW]; rfl
            have hW1 : (splL 32 ln)[1]? = some w1 := by rw [hW]; rfl
            have hW2 : (splL 32 ln)[2]? = some w2 := by rw [hW]; rfl
            have hW3 : (splL 32 ln)[3]? = some w3 := by rw [hW]; rfl
            have hWl : decide (((splL 32 ln).length : Int) ≠ 4) = false := by rw [hWn]; rfl
            have hag : (pre ++ [J])[i]? = some (w0, IntKind.i16.wrap ((sgnR w1).getD 0), IntKind.i16.wrap ((numR w2).getD 0), decide (w3 = [117, 112])) := by
              rw [List.getElem?_append_right (by omega), show i - pre.length = 0 by omega, ← hJd, hW]
              rfl
            have hbad := fun h1 h2 h3 h4 h5 => rlS_of (w0 := w0) (w1 := w1) (w2 := w2) (w3 := w3) h1 h2 h3 h4 h5 (by rw [← hW]; exact hf0)
            (repeat' ((try (conv => whnf)); first | (with_reducible first | refine And.intro ?_ ?_ | refine WX.of ?_) | exact zc | ((with_reducible refine VC.mk ?_); exact zw) | with_reducible refine atL_0 hln ?_ | refine atL_w hW0 (by decide) ?_ | refine atL_w hW1 (by decide) ?_ | refine atL_w hW2 (by decide) ?_ | refine atL_w hW3 (by decide) ?_ | ((with_reducible refine splitT_of ?_ ?_); (focus (simp only [hd, hWl, Bool.not_true, Bool.not_false, decide_true, decide_false]; done))) | ((with_reducible refine splitF_of ?_ ?_); (focus (simp only [hd, hWl, Bool.not_true, Bool.not_false, decide_true, decide_false]; done))) | ((with_reducible refine VC.mk ?_); exact ⟨hlnl, rfl⟩) | (with_reducible first | refine splitT ?_ | refine splitF ?_) | ((with_reducible refine splitM.mk (fun hsm => ?_) (fun hsm => ?_)) <;> (try exact zx)) | ((with_reducible refine splitB.mk (fun h => ?_) (fun h => ?_)) <;> (try simp only [zs, ne_eq] at h) <;> (try simp (disch := omega) only [w64] at h) <;> (try exact zx)) | (with_reducible intro hz; (try exact absurd hz (Nat.succ_ne_zero _)))))
            all_goals first
              | exact (hbad ‹_› ‹_› ‹_› ‹_› (.inl ‹_›)).elim
              | skip
            all_goals
              refine ⟨i + 1, by omega, by omega, ?_⟩
              rw [hd2]
              (repeat' ((try (conv => whnf)); first | (with_reducible first | refine And.intro ?_ ?_ | refine WX.of ?_) | exact zc | ((with_reducible refine VC.mk ?_); exact zw) | (with_reducible first | refine splitT ?_ | refine splitF ?_) | ((with_reducible refine splitM.mk (fun hsm => ?_) (fun hsm => ?_)) <;> (try exact zx)) | ((with_reducible refine splitB.mk (fun h => ?_) (fun h => ?_)) <;> (try simp only [zs, ne_eq] at h) <;> (try simp (disch := omega) only [w64] at h) <;> (try exact zx)) | (with_reducible intro hz; (try exact absurd hz (Nat.succ_ne_zero _)))))
              all_goals first
                | exact ⟨app_take hag⟩
                | exact ⟨congrArg SV.bool (decide_eq_false fun hh => hbad ‹_› ‹_› ‹_› ‹_› (.inr hh)).symm⟩
                | skip
          · have hWl : decide (((splL 32 ln).length : Int) ≠ 4) = true := decide_eq_true (by omega)
            (repeat' ((try (conv => whnf)); first | (with_reducible first | refine And.intro ?_ ?_ | refine WX.of ?_) | exact zc | ((with_reducible refine VC.mk ?_); exact zw) | with_reducible refine atL_0 hln ?_ | ((with_reducible refine splitT_of ?_ ?_); (focus (simp only [hd, hWl, Bool.not_true, Bool.not_false, decide_true, decide_false]; done))) | ((with_reducible refine splitF_of ?_ ?_); (focus (simp only [hd, hWl, Bool.not_true, Bool.not_false, decide_true, decide_false]; done))) | ((with_reducible refine VC.mk ?_); exact ⟨hlnl, rfl⟩) | (with_reducible first | refine splitT ?_ | refine splitF ?_) | ((with_reducible refine splitM.mk (fun hsm => ?_) (fun hsm => ?_)) <;> (try exact zx)) | ((with_reducible refine splitB.mk (fun h => ?_) (fun h => ?_)) <;> (try simp only [zs, ne_eq] at h) <;> (try simp (disch := omega) only [w64] at h) <;> (try exact zx)) | (with_reducible intro hz; (try exact absurd hz (Nat.succ_ne_zero _)))))
        · obtain rfl : i = k + 1 := by omega
          have hd : decide (k + 1 ≤ k) = false := decide_eq_false (by omega)
          (repeat' ((try (conv => whnf)); first | (with_reducible first | refine And.intro ?_ ?_ | refine WX.of ?_) | exact zc | ((with_reducible refine VC.mk ?_); exact zw) | ((with_reducible refine splitT_of ?_ ?_); (focus (simp only [hd, Bool.not_false, Bool.not_true, Bool.not_false, decide_true, decide_false]; done))) | ((with_reducible refine splitF_of ?_ ?_); (focus (simp only [hd, Bool.not_false, Bool.not_true, Bool.not_false, decide_true, decide_false]; done))) | (with_reducible first | refine splitT ?_ | refine splitF ?_) | ((with_reducible refine splitM.mk (fun hsm => ?_) (fun hsm => ?_)) <;> (try exact zx)) | ((with_reducible refine splitB.mk (fun h => ?_) (fun h => ?_)) <;> (try simp only [zs, ne_eq] at h) <;> (try simp (disch := omega) only [w64] at h) <;> (try exact zx)) | (with_reducible intro hz; (try exact absurd hz (Nat.succ_ne_zero _)))))
  | some R =>
    rw [hO] at hR
    simp only at hR
    have hm := allO_len hO
    rw [List.length_dropLast] at hm
    have hbad : ¬ (allR R = true ∧ rdsT R = t) := fun h9 => by rw [if_pos h9] at hR; cases hR
    refine funW tabOk (E := [(13, s_splA), (14, s_sgnS), (15, s_numS), (16, s_within), (17, s_allR), (18, s_rtx1)]) ⟨ok_splA, ok_l01Signed, ok_l01Number, ok_l00In, ok_l06Valid, ok_l06Text, trivial⟩ [] (k := 0) (fn := Tryd.f5) rfl rfl rfl rfl rfl rfl ?_
    (repeat' ((try (conv => whnf)); first | (with_reducible first | refine And.intro ?_ ?_ | refine WX.of ?_) | exact zc | ((with_reducible refine VC.mk ?_); exact zw) | with_reducible refine atL_e hix hla ?_ | ((with_reducible refine VC.mk ?_); exact ⟨h1, rfl⟩) | (with_reducible first | refine splitT ?_ | refine splitF ?_) | ((with_reducible refine splitM.mk (fun hsm => ?_) (fun hsm => ?_)) <;> (try exact zx)) | ((with_reducible refine splitB.mk (fun h => ?_) (fun h => ?_)) <;> (try simp only [zs, ne_eq] at h) <;> (try simp (disch := omega) only [w64] at h) <;> (try exact zx)) | (with_reducible intro hz; (try exact absurd hz (Nat.succ_ne_zero _)))))
    refine loopW tabOk (E := [(13, s_splA), (14, s_sgnS), (15, s_numS), (16, s_within), (17, s_allR), (18, s_rtx1)]) ⟨ok_splA, ok_l01Signed, ok_l01Number, ok_l00In, ok_l06Valid, ok_l06Text, trivial⟩ [] (σ := Nat) (fun i => [(0, .str t), (4, .sl 0 0 (splL 10 t).length 0), (5, .sl 1 0 i 0), (6, .bool true), (7, .int .i64 i)]) (fun i => [.arr .str (splL 10 t) 1 true, .arr (.prod .str (.prod (.int .i16) (.prod (.int .i16) .bool))) (R.take i) 4 true]) (fun i => (splL 10 t).length - 1 - i) (fun i => i ≤ (splL 10 t).length - 1) 0 (Nat.zero_le _) ?_ ?_
    · (repeat' ((try (conv => whnf)); first | (with_reducible first | refine And.intro ?_ ?_ | refine WX.of ?_) | exact zc | ((with_reducible refine VC.mk ?_); exact zw) | (with_reducible first | refine splitT ?_ | refine splitF ?_) | ((with_reducible refine splitM.mk (fun hsm => ?_) (fun hsm => ?_)) <;> (try exact zx)) | ((with_reducible refine splitB.mk (fun h => ?_) (fun h => ?_)) <;> (try simp only [zs, ne_eq] at h) <;> (try simp (disch := omega) only [w64] at h) <;> (try exact zx)) | (with_reducible intro hz; (try exact absurd hz (Nat.succ_ne_zero _)))))
      all_goals exact ⟨by rw [hok]⟩
    · intro i hi
      by_cases hlt : i < (splL 10 t).length - 1
      · obtain ⟨ln, hln⟩ := get_some (l := splL 10 t) (i := i) (by omega)
        have hld : (splL 10 t).dropLast[i]? = some ln := by rw [List.getElem?_dropLast, if_pos hlt]; exact hln
        obtain ⟨a, ha, hf⟩ := allO_at hO hld
        obtain ⟨w0, w1, w2, w3, hW, ⟨q1, q2⟩, hb, hu, hv, rfl⟩ := rlS_inv hf
        have hl1 := splL_sub 10 t ln (List.mem_of_getElem? hln)
        have hs := fun x hx => splL_sub 32 ln x hx
        rw [hW] at hs
        have hs1 := hs w1 (by simp)
        have hs2 := hs w2 (by simp)
        have hlnl : ln.length ≤ 1048576 := by omega
        have hW0 : (splL 32 ln)[0]? = some w0 := by rw [hW]; rfl
        have hW1 : (splL 32 ln)[1]? = some w1 := by rw [hW]; rfl
        have hW2 : (splL 32 ln)[2]? = some w2 := by rw [hW]; rfl
        have hW3 : (splL 32 ln)[3]? = some w3 := by rw [hW]; rfl
        have hWn : (splL 32 ln).length = 4 := by rw [hW]; rfl
        have hWl : decide (((splL 32 ln).length : Int) ≠ 4) = false := by rw [hWn]; rfl
        have hlen : (R.take i).length = i := by rw [List.length_take]; omega
        have hwb : IntKind.i16.wrap ((sgnR w1).getD 0) = (sgnR w1).getD 0 := by
          simp [IntKind.wrap, IntKind.bits, IntKind.signed]; omega
        have hwu : IntKind.i16.wrap ((numR w2).getD 0) = (numR w2).getD 0 := by
          simp [IntKind.wrap, IntKind.bits, IntKind.signed]; omega
        have k3 := decide_eq_true hb
        have k4 := decide_eq_true hu
        by_cases k5 : w3 = [117, 112]
        · have k5 := decide_eq_true k5
          (repeat' ((try (conv => whnf)); first | (with_reducible first | refine And.intro ?_ ?_ | refine WX.of ?_) | exact zc | ((with_reducible refine VC.mk ?_); exact zw) | with_reducible refine atL_0 hln ?_ | refine atL_w hW0 (by decide) ?_ | refine atL_w hW1 (by decide) ?_ | refine atL_w hW2 (by decide) ?_ | refine atL_w hW3 (by decide) ?_ | ((with_reducible refine splitT_of ?_ ?_); (focus (simp only [hWl, q1, q2, k3, k4, k5, Bool.not_true, Bool.not_false, decide_true, decide_false]; done))) | ((with_reducible refine splitF_of ?_ ?_); (focus (simp only [hWl, q1, q2, k3, k4, k5, Bool.not_true, Bool.not_false, decide_true, decide_false]; done))) | ((with_reducible refine VC.mk ?_); exact ⟨hlnl, rfl⟩) | (with_reducible first | refine splitT ?_ | refine splitF ?_) | ((with_reducible refine splitM.mk (fun hsm => ?_) (fun hsm => ?_)) <;> (try exact zx)) | ((with_reducible refine splitB.mk (fun h => ?_) (fun h => ?_)) <;> (try simp only [zs, ne_eq] at h) <;> (try simp (disch := omega) only [w64] at h) <;> (try exact zx)) | (with_reducible intro hz; (try exact absurd hz (Nat.succ_ne_zero _)))))
          refine ⟨i + 1, by omega, by omega, ?_⟩
          (repeat' ((try (conv => whnf)); first | (with_reducible first | refine And.intro ?_ ?_ | refine WX.of ?_) | exact zc | ((with_reducible refine VC.mk ?_); exact zw) | (with_reducible first | refine splitT ?_ | refine splitF ?_) | ((with_reducible refine splitM.mk (fun hsm => ?_) (fun hsm => ?_)) <;> (try exact zx)) | ((with_reducible refine splitB.mk (fun h => ?_) (fun h => ?_)) <;> (try simp only [zs, ne_eq] at h) <;> (try simp (disch := omega) only [w64] at h) <;> (try exact zx)) | (with_reducible intro hz; (try exact absurd hz (Nat.succ_ne_zero _)))))
          all_goals (refine ⟨?_⟩; rw [hwb, hwu]; exact app_take ha)
        · have k6 : decide (w3 = [100, 111, 119, 110]) = true := decide_eq_true (hv.resolve_left k5)
          have k5 := decide_eq_false k5
          (repeat' ((try (conv => whnf)); first | (with_reducible first | refine And.intro ?_ ?_ | refine WX.of ?_) | exact zc | ((with_reducible refine VC.mk ?_); exact zw) | with_reducible refine atL_0 hln ?_ | refine atL_w hW0 (by decide) ?_ | refine atL_w hW1 (by decide) ?_ | refine atL_w hW2 (by decide) ?_ | refine atL_w hW3 (by decide) ?_ | ((with_reducible refine splitT_of ?_ ?_); (focus (simp only [hWl, q1, q2, k3, k4, k5, k6, Bool.not_true, Bool.not_false, decide_true, decide_false]; done))) | ((with_reducible refine splitF_of ?_ ?_); (focus (simp only [hWl, q1, q2, k3, k4, k5, k6, Bool.not_true, Bool.not_false, decide_true, decide_false]; done))) | ((with_reducible refine VC.mk ?_); exact ⟨hlnl, rfl⟩) | (with_reducible first | refine splitT ?_ | refine splitF ?_) | ((with_reducible refine splitM.mk (fun hsm => ?_) (fun hsm => ?_)) <;> (try exact zx)) | ((with_reducible refine splitB.mk (fun h => ?_) (fun h => ?_)) <;> (try simp only [zs, ne_eq] at h) <;> (try simp (disch := omega) only [w64] at h) <;> (try exact zx)) | (with_reducible intro hz; (try exact absurd hz (Nat.succ_ne_zero _)))))
          refine ⟨i + 1, by omega, by omega, ?_⟩
          (repeat' ((try (conv => whnf)); first | (with_reducible first | refine And.intro ?_ ?_ | refine WX.of ?_) | exact zc | ((with_reducible refine VC.mk ?_); exact zw) | (with_reducible first | refine splitT ?_ | refine splitF ?_) | ((with_reducible refine splitM.mk (fun hsm => ?_) (fun hsm => ?_)) <;> (try exact zx)) | ((with_reducible refine splitB.mk (fun h => ?_) (fun h => ?_)) <;> (try simp only [zs, ne_eq] at h) <;> (try simp (disch := omega) only [w64] at h) <;> (try exact zx)) | (with_reducible intro hz; (try exact absurd hz (Nat.succ_ne_zero _)))))
          all_goals first
            | exact ⟨congrArg SV.bool k6.symm⟩
            | (refine ⟨?_⟩; rw [hwb, hwu]; exact app_take ha)
      · obtain rfl : i = (splL 10 t).length - 1 := by omega
        have htk : R.take ((splL 10 t).length - 1) = R := List.take_of_length_le (by omega)
        have hgd : ∀ (j : Nat) (a : RdT), R[j]? = some a → rdrGood a := fun j a ha => by
          have hj := (List.getElem?_eq_some_iff.1 ha).1
          obtain ⟨ln, hln⟩ := get_some (l := splL 10 t) (i := j) (by omega)
          have hld : (splL 10 t).dropLast[j]? = some ln := by rw [List.getElem?_dropLast, if_pos (by omega)]; exact hln
          obtain ⟨y, hy, hf⟩ := allO_at hO hld
          rw [ha] at hy
          injection hy with hy
          obtain ⟨w0, w1, w2, w3, hW, _, hb, hu, _, e⟩ := rlS_inv hf
          have hl1 := splL_sub 10 t ln (List.mem_of_getElem? hln)
          have hs0 := splL_sub 32 ln w0 (by rw [hW]; simp)
          rw [hy, e]
          unfold rdrGood
          simp only
          omega
        have hsg : seg R 0 ((splL 10 t).length - 1) = R := seg_full hm
        rw [htk]
        by_cases hA : allR R = true
        · have hA2 : allR (seg R 0 ((splL 10 t).length - 1)) = true := by rw [hsg]; exact hA
          have hT2 : ¬ rdsT (seg R 0 ((splL 10 t).length - 1)) = t := by rw [hsg]; exact fun h => hbad ⟨hA, h⟩
          have hT3 := decide_eq_true hT2
          (repeat' ((try (conv => whnf)); first | (with_reducible first | refine And.intro ?_ ?_ | refine WX.of ?_) | exact zc | ((with_reducible refine VC.mk ?_); exact zw) | ((with_reducible refine VC.mk ?_); exact ⟨by omega, by omega, hgd⟩) | ((with_reducible refine VC.mk ?_); exact ⟨⟨by omega, by omega, hgd⟩, hA2⟩) | ((with_reducible refine splitT_of ?_ ?_); (focus (simp only [hA2, Bool.not_true, hT2, ne_eq, not_false_eq_true, decide_true, Bool.not_true, Bool.not_false, decide_true, decide_false]; done))) | ((with_reducible refine splitF_of ?_ ?_); (focus (simp only [hA2, Bool.not_true, hT2, ne_eq, not_false_eq_true, decide_true, Bool.not_true, Bool.not_false, decide_true, decide_false]; done))) | (with_reducible first | refine splitT ?_ | refine splitF ?_) | ((with_reducible refine splitM.mk (fun hsm => ?_) (fun hsm => ?_)) <;> (try exact zx)) | ((with_reducible refine splitB.mk (fun h => ?_) (fun h => ?_)) <;> (try simp only [zs, ne_eq] at h) <;> (try simp (disch := omega) only [w64] at h) <;> (try exact zx)) | (with_reducible intro hz; (try exact absurd hz (Nat.succ_ne_zero _)))))
        · have hA2 : allR (seg R 0 ((splL 10 t).length - 1)) = false := by rw [hsg]; simpa using hA
          (repeat' ((try (conv => whnf)); first | (with_reducible first | refine And.intro ?_ ?_ | refine WX.of ?_) | exact zc | ((with_reducible refine VC.mk ?_); exact zw) | ((with_reducible refine VC.mk ?_); exact ⟨by omega, by omega, hgd⟩) | ((with_reducible refine splitT_of ?_ ?_); (focus (simp only [hA2, Bool.not_false, Bool.not_true, Bool.not_false, decide_true, decide_false]; done))) | ((with_reducible refine splitF_of ?_ ?_); (focus (simp only [hA2, Bool.not_false, Bool.not_true, Bool.not_false, decide_true, decide_false]; done))) | (with_reducible first | refine splitT ?_ | refine splitF ?_) | ((with_reducible refine splitM.mk (fun hsm => ?_) (fun hsm => ?_)) <;> (try exact zx)) | ((with_reducible refine splitB.mk (fun h => ?_) (fun h => ?_)) <;> (try simp only [zs, ne_eq] at h) <;> (try simp (disch := omega) only [w64] at h) <;> (try exact zx)) | (with_reducible intro hz; (try exact absurd hz (Nat.succ_ne_zero _)))))
end Go.Proofs.YtamachahlhlhlaaDoor.Eng
set_option linter.unusedVariables false
set_option linter.unusedSimpArgs false
namespace Go.Proofs.YtamachahlhlhlaaDoor.Eng
open Go Go.RowKit
set_option maxRecDepth 100000
/-- A row of marks: from k on, c to an element. -/
def marks {α : Type} (f : Int → α) (c : Nat) (k : Int) (n : Nat) : List α := (List.range n).map fun i : Nat => f (k + c * (i : Int))
theorem marks_len {α : Type} {f : Int → α} {c : Nat} {k : Int} {n : Nat} : (marks f c k n).length = n := by simp [marks]
theorem marks_get {α : Type} {f : Int → α} {c : Nat} {k : Int} {n i : Nat} (h : i < n) : (marks f c k n)[i]? = some (f (k + c * i)) := by
  unfold marks
  rw [List.getElem?_map, List.getElem?_range h]; rfl
theorem mark_at {α : Type} {M l : List α} {i : Nat} {a : α} (hm : M.length = l.length) (ha : l[i]? = some a) : (M.take i ++ l.drop i)[i]? = some a := by
  have hi := (List.getElem?_eq_some_iff.1 ha).1
  rw [List.getElem?_append_right (by rw [List.length_take]; omega), List.length_take, show i - min i M.length = 0 by omega, List.getElem?_drop]; exact ha
theorem mark_step {α : Type} {M l : List α} {i : Nat} {b : α} (hm : M.length = l.length) (hb : M[i]? = some b) : (M.take i ++ l.drop i).set i b = M.take (i + 1) ++ l.drop (i + 1) := by
  have hi := (List.getElem?_eq_some_iff.1 hb).1
  have h1 : (M.take i).length = i := by rw [List.length_take]; omega
  rw [List.set_append_right _ _ (by omega), h1, Nat.sub_self, List.take_add_one, hb, List.drop_eq_getElem_cons (show i < l.length by omega), List.set_cons_zero]
  simp
theorem mark_end {α : Type} {M l : List α} {n : Nat} (hm : M.length = n) (hl : l.length = n) : M.take n ++ l.drop n = M := by
  rw [List.take_of_length_le (by omega), List.drop_eq_nil_of_le (by omega), List.append_nil]
theorem atL_set {α : Type} {l : List α} {i : Nat} {b : α} {K : α → Prop} (hl : i < l.length) (h : K b) : atL (l.set (0 + ((i : Nat) : Int).toNat) b) (0 + ((i : Nat) : Int).toNat) K :=
  atL_iff.2 ⟨b, by simp [hl], h⟩
end Go.Proofs.YtamachahlhlhlaaDoor.Eng
set_option linter.unusedVariables false
set_option linter.unusedSimpArgs false
namespace Go.Proofs.YtamachahlhlhlaaDoor.Eng
open Go Go.RowKit
set_option maxRecDepth 100000
/-- The letter m and the digits of k. -/
def mkGo : Nat → Int → List UInt8 → List UInt8
  | 0, _, out => out
  | f + 1, k, out => if k ≤ 0 then out else mkGo f (k.tdiv 10) (bytesL [IntKind.u8.wrap (48 + k.tmod 10)] ++ out)
def mkTx (k : Int) : List UInt8 := if k ≤ 0 then [109, 48] else 109 :: mkGo k.toNat k []
theorem mkGo_0 (f : Nat) {k : Int} (out : List UInt8) (h : k ≤ 0) : mkGo f k out = out := by
  cases f with
  | zero => rfl
  | succ f => rw [mkGo, if_pos h]
def s_mtext : Spec := fun args S => match args, S with
  | [.int .i64 k], [] => ⟨0 ≤ k ∧ k ≤ 2199023255552, .str (mkTx k), []⟩
  | _, _ => noSpec
theorem ok_markText : SpecOk Tryd.prog 25 s_mtext := by
  intro args S h; unfold s_mtext at h ⊢; (split at h <;> first | exact False.elim h | skip)
  dsimp only at h ⊢
  rename_i k
  refine funW tabOk (E := []) trivial [] (k := 0) (fn := Tryd.f25) rfl rfl rfl rfl rfl rfl ?_
  (repeat' ((try (conv => whnf)); first | (with_reducible first | refine And.intro ?_ ?_ | refine WX.of ?_) | exact zc | ((with_reducible refine VC.mk ?_); exact zw) | (with_reducible first | refine splitT ?_ | refine splitF ?_) | ((with_reducible refine splitM.mk (fun hsm => ?_) (fun hsm => ?_)) <;> (try exact zx)) | ((with_reducible refine splitB.mk (fun h => ?_) (fun h => ?_)) <;> (try simp only [zs, ne_eq] at h) <;> (try simp (disch := omega) only [w64] at h) <;> (try exact zx)) | (with_reducible intro hz; (try exact absurd hz (Nat.succ_ne_zero _)))))
  · exact ⟨by rw [mkTx, if_pos h]⟩
  · refine loopW tabOk (E := []) trivial [] (σ := Nat × Int × List UInt8) (fun i => [(0, .int .i64 i.2.1), (3, .str i.2.2)]) (fun _ => []) (fun i => i.1) (fun i => (0 ≤ i.2.1 ∧ i.2.1 ≤ (i.1 : Int)) ∧ i.2.2.length + i.1 ≤ 2199023255552 ∧ mkGo i.1 i.2.1 i.2.2 = mkGo k.toNat k []) (k.toNat, k, []) ⟨by dsimp only; omega, by dsimp only [List.length_nil]; omega, rfl⟩ ?_ ?_
    · (repeat' ((try (conv => whnf)); first | (with_reducible first | refine And.intro ?_ ?_ | refine WX.of ?_) | exact zc | ((with_reducible refine VC.mk ?_); exact zw) | (with_reducible first | refine splitT ?_ | refine splitF ?_) | ((with_reducible refine splitM.mk (fun hsm => ?_) (fun hsm => ?_)) <;> (try exact zx)) | ((with_reducible refine splitB.mk (fun h => ?_) (fun h => ?_)) <;> (try simp only [zs, ne_eq] at h) <;> (try simp (disch := omega) only [w64] at h) <;> (try exact zx)) | (with_reducible intro hz; (try exact absurd hz (Nat.succ_ne_zero _)))))
    · intro ⟨f, c, out⟩ ⟨⟨hc0, hcf⟩, hl, hg⟩
      dsimp only at hc0 hcf hl hg
      by_cases hlt : c ≤ 0
      · rw [mkGo_0 _ _ hlt] at hg
        (repeat' ((try (conv => whnf)); first | (with_reducible first | refine And.intro ?_ ?_ | refine WX.of ?_) | exact zc | ((with_reducible refine VC.mk ?_); exact zw) | (with_reducible first | refine splitT ?_ | refine splitF ?_) | ((with_reducible refine splitM.mk (fun hsm => ?_) (fun hsm => ?_)) <;> (try exact zx)) | ((with_reducible refine splitB.mk (fun h => ?_) (fun h => ?_)) <;> (try simp only [zs, ne_eq] at h) <;> (try simp (disch := omega) only [w64] at h) <;> (try exact zx)) | (with_reducible intro hz; (try exact absurd hz (Nat.succ_ne_zero _)))))
        · exact ⟨by show 1 + out.length ≤ 9223372036854775807; omega⟩
        · refine ⟨?_⟩
          rw [show mkTx k = 109 :: mkGo k.toNat k [] from if_neg (by omega), ← hg]; rfl
      · have hm : 0 ≤ c.tmod 10 ∧ c.tmod 10 < 10 := ⟨Int.tmod_nonneg _ hc0, Int.tmod_lt_of_pos _ (by omega)⟩
        have hd : c.tdiv 10 = c / 10 := Int.tdiv_eq_ediv_of_nonneg hc0
        obtain ⟨f, rfl⟩ : ∃ g, f = g + 1 := ⟨f - 1, by omega⟩
        rw [mkGo, if_neg hlt] at hg
        (repeat' ((try (conv => whnf)); first | (with_reducible first | refine And.intro ?_ ?_ | refine WX.of ?_) | exact zc | ((with_reducible refine VC.mk ?_); exact zw) | (with_reducible first | refine splitT ?_ | refine splitF ?_) | ((with_reducible refine splitM.mk (fun hsm => ?_) (fun hsm => ?_)) <;> (try exact zx)) | ((with_reducible refine splitB.mk (fun h => ?_) (fun h => ?_)) <;> (try simp only [zs, ne_eq] at h) <;> (try simp (disch := omega) only [w64] at h) <;> (try exact zx)) | (with_reducible intro hz; (try exact absurd hz (Nat.succ_ne_zero _)))))
        · exact ⟨by show 1 + out.length ≤ 9223372036854775807; omega⟩
        · refine ⟨(f, c.tdiv 10, bytesL [IntKind.u8.wrap (48 + c.tmod 10)] ++ out), by dsimp only; omega, ⟨by dsimp only; omega, by simp only [bytesL, List.map_cons, List.map_nil, List.length_append, List.length_cons, List.length_nil]; omega, hg⟩, ?_⟩
          (repeat' ((try (conv => whnf)); first | (with_reducible first | refine And.intro ?_ ?_ | refine WX.of ?_) | exact zc | ((with_reducible refine VC.mk ?_); exact zw) | ((with_reducible refine VC.mk ?_); dsimp only; (rw [w64 (by omega)]; done)) | ((with_reducible refine VC.mk ?_); (show _ = SV.str (bytesL [IntKind.u8.wrap (IntKind.i64.wrap (48 + c.tmod 10))] ++ out)); (rw [w64 (by omega)]; done)) | (with_reducible first | refine splitT ?_ | refine splitF ?_) | ((with_reducible refine splitM.mk (fun hsm => ?_) (fun hsm => ?_)) <;> (try exact zx)) | ((with_reducible refine splitB.mk (fun h => ?_) (fun h => ?_)) <;> (try simp only [zs, ne_eq] at h) <;> (try simp (disch := omega) only [w64] at h) <;> (try exact zx)) | (with_reducible intro hz; (try exact absurd hz (Nat.succ_ne_zero _)))))
def s_markReaderS : Spec := fun args S => match args, S with
  | [.sl 0 0 n x, .int .i64 k], [.arr (.prod .str (.prod (.int .i16) (.prod (.int .i16) .bool))) l 4 true] => ⟨n = l.length ∧ n ≤ 1048576 ∧ 0 ≤ k ∧ k ≤ 1099511627776, .int .i64 (k + 4 * n), [.arr (.prod .str (.prod (.int .i16) (.prod (.int .i16) .bool))) (marks (fun k => (mkTx k, IntKind.i16.wrap (k + 1), IntKind.i16.wrap (k + 1 + 1), decide ((k + 1 + 1 + 1).tmod 3 = 0))) 4 k n) 4 true]⟩
  | [.nils, .int .i64 k], [] => ⟨True, .int .i64 k, []⟩
  | _, _ => noSpec
theorem ok_markReaderS : SpecOk Tryd.prog 8 s_markReaderS := by
  intro args S h; unfold s_markReaderS at h ⊢; (split at h <;> first | exact False.elim h | skip)
  dsimp only at h ⊢
  · rename_i n x k l
    obtain ⟨hn, h1, h2, h3⟩ := h
    have hm : (marks (α := ET.T (.prod .str (.prod (.int .i16) (.prod (.int .i16) .bool)))) (fun k => (mkTx k, IntKind.i16.wrap (k + 1), IntKind.i16.wrap (k + 1 + 1), decide ((k + 1 + 1 + 1).tmod 3 = 0))) 4 k n).length = l.length := by rw [marks_len]; exact hn
    refine funW tabOk (E := [(25, s_mtext)]) ⟨ok_markText, trivial⟩ [] (k := 1) (fn := Tryd.f8) rfl rfl rfl rfl rfl rfl ?_
    (repeat' ((try (conv => whnf)); first | (with_reducible first | refine And.intro ?_ ?_ | refine WX.of ?_) | exact zc | ((with_reducible refine VC.mk ?_); exact zw) | (with_reducible first | refine splitT ?_ | refine splitF ?_) | ((with_reducible refine splitM.mk (fun hsm => ?_) (fun hsm => ?_)) <;> (try exact zx)) | ((with_reducible refine splitB.mk (fun h => ?_) (fun h => ?_)) <;> (try simp only [zs, ne_eq] at h) <;> (try simp (disch := omega) only [w64] at h) <;> (try exact zx)) | (with_reducible intro hz; (try exact absurd hz (Nat.succ_ne_zero _)))))
    refine loopW tabOk (E := [(25, s_mtext)]) ⟨ok_markText, trivial⟩ [] (σ := Nat) (fun i => [(0, .sl 0 0 n x), (1, .int .i64 (k + 4 * i)), (5, .int .i64 i)]) (fun i => [.arr (.prod .str (.prod (.int .i16) (.prod (.int .i16) .bool))) ((marks (fun k => (mkTx k, IntKind.i16.wrap (k + 1), IntKind.i16.wrap (k + 1 + 1), decide ((k + 1 + 1 + 1).tmod 3 = 0))) 4 k n).take i ++ l.drop i) 4 true]) (fun i => n - i) (fun i => i ≤ n) 0 (Nat.zero_le _) ?_ ?_
    · (repeat' ((try (conv => whnf)); first | (with_reducible first | refine And.intro ?_ ?_ | refine WX.of ?_) | exact zc | ((with_reducible refine VC.mk ?_); exact zw) | (with_reducible first | refine splitT ?_ | refine splitF ?_) | ((with_reducible refine splitM.mk (fun hsm => ?_) (fun hsm => ?_)) <;> (try exact zx)) | ((with_reducible refine splitB.mk (fun h => ?_) (fun h => ?_)) <;> (try simp only [zs, ne_eq] at h) <;> (try simp (disch := omega) only [w64] at h) <;> (try exact zx)) | (with_reducible intro hz; (try exact absurd hz (Nat.succ_ne_zero _)))))
    · intro i hi
      by_cases hlt : i < n
      · obtain ⟨⟨nm, b, u, up⟩, ha⟩ := get_some (l := l) (i := i) (by omega)
        have hb := marks_get (α := ET.T (.prod .str (.prod (.int .i16) (.prod (.int .i16) .bool)))) (f := (fun k => (mkTx k, IntKind.i16.wrap (k + 1), IntKind.i16.wrap (k + 1 + 1), decide ((k + 1 + 1 + 1).tmod 3 = 0)))) (c := 4) (k := k) hlt
        (repeat' ((try (conv => whnf)); first | (with_reducible first | refine And.intro ?_ ?_ | refine WX.of ?_) | exact zc | ((with_reducible refine VC.mk ?_); exact zw) | ((with_reducible refine atL_set ?_ ?_); (simp only [List.length_set, List.length_append, List.length_take, List.length_drop]; omega)) | with_reducible refine atL_0 (mark_at hm ha) ?_ | (with_reducible first | refine splitT ?_ | refine splitF ?_) | ((with_reducible refine splitM.mk (fun hsm => ?_) (fun hsm => ?_)) <;> (try exact zx)) | ((with_reducible refine splitB.mk (fun h => ?_) (fun h => ?_)) <;> (try simp only [zs, ne_eq] at h) <;> (try simp (disch := omega) only [w64] at h) <;> (try exact zx)) | (with_reducible intro hz; (try exact absurd hz (Nat.succ_ne_zero _)))))
        refine ⟨i + 1, by omega, hlt, ?_⟩
        (repeat' ((try (conv => whnf)); first | (with_reducible first | refine And.intro ?_ ?_ | refine WX.of ?_) | exact zc | ((with_reducible refine VC.mk ?_); exact zw) | (with_reducible first | refine splitT ?_ | refine splitF ?_) | ((with_reducible refine splitM.mk (fun hsm => ?_) (fun hsm => ?_)) <;> (try exact zx)) | ((with_reducible refine splitB.mk (fun h => ?_) (fun h => ?_)) <;> (try simp only [zs, ne_eq] at h) <;> (try simp (disch := omega) only [w64] at h) <;> (try exact zx)) | (with_reducible intro hz; (try exact absurd hz (Nat.succ_ne_zero _)))))
        refine ⟨?_⟩
        (try simp (disch := omega) only [w64])
        simp only [List.set_set, Nat.zero_add, Int.toNat_natCast]
        (try rw [mark_step hm hb])
        exact mark_step hm hb
      · (repeat' ((try (conv => whnf)); first | (with_reducible first | refine And.intro ?_ ?_ | refine WX.of ?_) | exact zc | ((with_reducible refine VC.mk ?_); exact zw) | (with_reducible first | refine splitT ?_ | refine splitF ?_) | ((with_reducible refine splitM.mk (fun hsm => ?_) (fun hsm => ?_)) <;> (try exact zx)) | ((with_reducible refine splitB.mk (fun h => ?_) (fun h => ?_)) <;> (try simp only [zs, ne_eq] at h) <;> (try simp (disch := omega) only [w64] at h) <;> (try exact zx)) | (with_reducible intro hz; (try exact absurd hz (Nat.succ_ne_zero _)))))
        obtain rfl : i = n := by omega
        exact ⟨by rw [mark_end marks_len hn.symm]⟩
  · refine funW tabOk (E := []) trivial [] (k := 0) (fn := Tryd.f8) rfl rfl rfl rfl rfl rfl ?_
    (repeat' ((try (conv => whnf)); first | (with_reducible first | refine And.intro ?_ ?_ | refine WX.of ?_) | exact zc | ((with_reducible refine VC.mk ?_); exact zw) | (with_reducible first | refine splitT ?_ | refine splitF ?_) | ((with_reducible refine splitM.mk (fun hsm => ?_) (fun hsm => ?_)) <;> (try exact zx)) | ((with_reducible refine splitB.mk (fun h => ?_) (fun h => ?_)) <;> (try simp only [zs, ne_eq] at h) <;> (try simp (disch := omega) only [w64] at h) <;> (try exact zx)) | (with_reducible intro hz; (try exact absurd hz (Nat.succ_ne_zero _)))))
    refine loop1 tabOk (E := []) trivial [] ?_
    (repeat' ((try (conv => whnf)); first | (with_reducible first | refine And.intro ?_ ?_ | refine WX.of ?_) | exact zc | ((with_reducible refine VC.mk ?_); exact zw) | (with_reducible first | refine splitT ?_ | refine splitF ?_) | ((with_reducible refine splitM.mk (fun hsm => ?_) (fun hsm => ?_)) <;> (try exact zx)) | ((with_reducible refine splitB.mk (fun h => ?_) (fun h => ?_)) <;> (try simp only [zs, ne_eq] at h) <;> (try simp (disch := omega) only [w64] at h) <;> (try exact zx)) | (with_reducible intro hz; (try exact absurd hz (Nat.succ_ne_zero _)))))
end Go.Proofs.YtamachahlhlhlaaDoor.Eng
set_option linter.unusedVariables false
set_option linter.unusedSimpArgs false
namespace Go.Proofs.YtamachahlhlhlaaDoor.Eng
open Go Go.RowKit
set_option maxRecDepth 100000
def s_heldReaderS : Spec := fun args S => match args, S with
  | [.sl 0 0 n x, .int .i64 k], [.arr (.prod .str (.prod (.int .i16) (.prod (.int .i16) .bool))) l 4 wr] => ⟨l = marks (fun k => (mkTx k, IntKind.i16.wrap (k + 1), IntKind.i16.wrap (k + 1 + 1), decide ((k + 1 + 1 + 1).tmod 3 = 0))) 4 k n ∧ n ≤ 1048576 ∧ 0 ≤ k ∧ k ≤ 1099511627776, .int .i64 (k + 4 * n), [.arr (.prod .str (.prod (.int .i16) (.prod (.int .i16) .bool))) l 4 wr]⟩
  | [.nils, .int .i64 k], [] => ⟨True, .int .i64 k, []⟩
  | _, _ => noSpec
theorem ok_heldReaderS : SpecOk Tryd.prog 9 s_heldReaderS := by
  intro args S h; unfold s_heldReaderS at h ⊢; (split at h <;> first | exact False.elim h | skip)
  dsimp only at h ⊢
  · rename_i n x k l wr
    obtain ⟨rfl, h1, h2, h3⟩ := h
    refine funW tabOk (E := [(25, s_mtext)]) ⟨ok_markText, trivial⟩ [(4, [(4, 1)])] (k := 1) (fn := Tryd.f9) rfl rfl rfl rfl rfl rfl ?_
    (repeat' ((try (conv => whnf)); first | (with_reducible first | refine And.intro ?_ ?_ | refine WX.of ?_) | exact zc | ((with_reducible refine VC.mk ?_); exact zw) | (with_reducible first | refine splitT ?_ | refine splitF ?_) | ((with_reducible refine splitM.mk (fun hsm => ?_) (fun hsm => ?_)) <;> (try exact zx)) | ((with_reducible refine splitB.mk (fun h => ?_) (fun h => ?_)) <;> (try simp only [zs, ne_eq] at h) <;> (try simp (disch := omega) only [w64] at h) <;> (try exact zx)) | (with_reducible intro hz; (try exact absurd hz (Nat.succ_ne_zero _)))))
    refine loopW tabOk (E := [(25, s_mtext)]) ⟨ok_markText, trivial⟩ [(4, [(4, 1)])] (σ := Nat) (fun i => [(0, .sl 0 0 n x), (1, .int .i64 (k + 4 * i)), (5, .int .i64 i)]) (fun i => [.arr (.prod .str (.prod (.int .i16) (.prod (.int .i16) .bool))) (marks (fun k => (mkTx k, IntKind.i16.wrap (k + 1), IntKind.i16.wrap (k + 1 + 1), decide ((k + 1 + 1 + 1).tmod 3 = 0))) 4 k n) 4 wr]) (fun i => n - i) (fun i => i ≤ n) 0 (Nat.zero_le _) ?_ ?_
    · (repeat' ((try (conv => whnf)); first | (with_reducible first | refine And.intro ?_ ?_ | refine WX.of ?_) | exact zc | ((with_reducible refine VC.mk ?_); exact zw) | (with_reducible first | refine splitT ?_ | refine splitF ?_) | ((with_reducible refine splitM.mk (fun hsm => ?_) (fun hsm => ?_)) <;> (try exact zx)) | ((with_reducible refine splitB.mk (fun h => ?_) (fun h => ?_)) <;> (try simp only [zs, ne_eq] at h) <;> (try simp (disch := omega) only [w64] at h) <;> (try exact zx)) | (with_reducible intro hz; (try exact absurd hz (Nat.succ_ne_zero _)))))
    · intro i hi
      by_cases hlt : i < n
      · have hb := marks_get (α := ET.T (.prod .str (.prod (.int .i16) (.prod (.int .i16) .bool)))) (f := (fun k => (mkTx k, IntKind.i16.wrap (k + 1), IntKind.i16.wrap (k + 1 + 1), decide ((k + 1 + 1 + 1).tmod 3 = 0)))) (c := 4) (k := k) hlt
        (try dsimp only at hb)
        (try rw [show ((4 : Nat) : Int) = 4 from rfl] at hb)
        (repeat' ((try (conv => whnf)); first | (with_reducible first | refine And.intro ?_ ?_ | refine WX.of ?_) | exact zc | ((with_reducible refine VC.mk ?_); exact zw) | with_reducible refine atL_0 hb ?_ | (with_reducible first | refine splitT ?_ | refine splitF ?_) | ((with_reducible refine splitM.mk (fun hsm => ?_) (fun hsm => ?_)) <;> (try exact zx)) | ((with_reducible refine splitB.mk (fun h => ?_) (fun h => ?_)) <;> (try simp only [zs, ne_eq] at h) <;> (try simp (disch := omega) only [w64] at h) <;> (try exact zx)) | (with_reducible intro hz; (try exact absurd hz (Nat.succ_ne_zero _)))))
        refine ⟨i + 1, by omega, hlt, ?_⟩
        (repeat' ((try (conv => whnf)); first | (with_reducible first | refine And.intro ?_ ?_ | refine WX.of ?_) | exact zc | ((with_reducible refine VC.mk ?_); exact zw) | (with_reducible first | refine splitT ?_ | refine splitF ?_) | ((with_reducible refine splitM.mk (fun hsm => ?_) (fun hsm => ?_)) <;> (try exact zx)) | ((with_reducible refine splitB.mk (fun h => ?_) (fun h => ?_)) <;> (try simp only [zs, ne_eq] at h) <;> (try simp (disch := omega) only [w64] at h) <;> (try exact zx)) | (with_reducible intro hz; (try exact absurd hz (Nat.succ_ne_zero _)))))
      · obtain rfl : i = n := by omega
        (repeat' ((try (conv => whnf)); first | (with_reducible first | refine And.intro ?_ ?_ | refine WX.of ?_) | exact zc | ((with_reducible refine VC.mk ?_); exact zw) | (with_reducible first | refine splitT ?_ | refine splitF ?_) | ((with_reducible refine splitM.mk (fun hsm => ?_) (fun hsm => ?_)) <;> (try exact zx)) | ((with_reducible refine splitB.mk (fun h => ?_) (fun h => ?_)) <;> (try simp only [zs, ne_eq] at h) <;> (try simp (disch := omega) only [w64] at h) <;> (try exact zx)) | (with_reducible intro hz; (try exact absurd hz (Nat.succ_ne_zero _)))))
  · refine funW tabOk (E := []) trivial [(4, [(4, 1)])] (k := 0) (fn := Tryd.f9) rfl rfl rfl rfl rfl rfl ?_
    (repeat' ((try (conv => whnf)); first | (with_reducible first | refine And.intro ?_ ?_ | refine WX.of ?_) | exact zc | ((with_reducible refine VC.mk ?_); exact zw) | (with_reducible first | refine splitT ?_ | refine splitF ?_) | ((with_reducible refine splitM.mk (fun hsm => ?_) (fun hsm => ?_)) <;> (try exact zx)) | ((with_reducible refine splitB.mk (fun h => ?_) (fun h => ?_)) <;> (try simp only [zs, ne_eq] at h) <;> (try simp (disch := omega) only [w64] at h) <;> (try exact zx)) | (with_reducible intro hz; (try exact absurd hz (Nat.succ_ne_zero _)))))
    refine loop1 tabOk (E := []) trivial [(4, [(4, 1)])] ?_
    (repeat' ((try (conv => whnf)); first | (with_reducible first | refine And.intro ?_ ?_ | refine WX.of ?_) | exact zc | ((with_reducible refine VC.mk ?_); exact zw) | (with_reducible first | refine splitT ?_ | refine splitF ?_) | ((with_reducible refine splitM.mk (fun hsm => ?_) (fun hsm => ?_)) <;> (try exact zx)) | ((with_reducible refine splitB.mk (fun h => ?_) (fun h => ?_)) <;> (try simp only [zs, ne_eq] at h) <;> (try simp (disch := omega) only [w64] at h) <;> (try exact zx)) | (with_reducible intro hz; (try exact absurd hz (Nat.succ_ne_zero _)))))
set_option maxHeartbeats 1600000 in
theorem law_readReaders {t : List UInt8} (ho : t.length ≤ 9223372036854775807) : RunsS Tryd.prog 3 [.str t] [] (.bool true) [] := by
  by_cases hl : t.length ≤ 1048576
  rotate_left 1
  · refine funW tabOk (E := []) trivial [] (k := 0) (fn := Tryd.f3) rfl rfl rfl rfl rfl rfl ?_
    (repeat' ((try (conv => whnf)); first | (with_reducible first | refine And.intro ?_ ?_ | refine WX.of ?_) | exact zc | ((with_reducible refine VC.mk ?_); exact zw) | (with_reducible first | refine splitT ?_ | refine splitF ?_) | ((with_reducible refine splitM.mk (fun hsm => ?_) (fun hsm => ?_)) <;> (try exact zx)) | ((with_reducible refine splitB.mk (fun h => ?_) (fun h => ?_)) <;> (try simp only [zs, ne_eq] at h) <;> (try simp (disch := omega) only [w64] at h) <;> (try exact zx)) | (with_reducible intro hz; (try exact absurd hz (Nat.succ_ne_zero _)))))
  cases hR : rrS t with
  | none =>
    have hP : rrP t = none := (rr_same t).trans hR
    have h0 : t ≠ [] := fun e => by subst e; exact absurd hR (by decide)
    refine funW tabOk (E := [(5, s_rrS0), (6, s_rrI0), (7, s_eqReaderS), (8, s_markReaderS), (9, s_heldReaderS)]) ⟨ok_ReadReadersS0, ok_ReadReadersI0, ok_eqReaderS, ok_markReaderS, ok_heldReaderS, trivial⟩ [] (k := 0) (fn := Tryd.f3) rfl rfl rfl rfl rfl rfl ?_
    (repeat' ((try (conv => whnf)); first | (with_reducible first | refine And.intro ?_ ?_ | refine WX.of ?_) | exact zc | ((with_reducible refine VC.mk ?_); exact zw) | ((with_reducible refine VC.mk ?_); exact ⟨hl, hR⟩) | ((with_reducible refine VC.mk ?_); exact ⟨⟨hl, h0⟩, hP⟩) | (with_reducible first | refine splitT ?_ | refine splitF ?_) | ((with_reducible refine splitM.mk (fun hsm => ?_) (fun hsm => ?_)) <;> (try exact zx)) | ((with_reducible refine splitB.mk (fun h => ?_) (fun h => ?_)) <;> (try simp only [zs, ne_eq] at h) <;> (try simp (disch := omega) only [w64] at h) <;> (try exact zx)) | (with_reducible intro hz; (try exact absurd hz (Nat.succ_ne_zero _)))))
  | some R =>
    have hP : rrP t = some R := (rr_same t).trans hR
    obtain ⟨hA, hn, hT⟩ := rrS_to hR
    have hsR : seg R 0 R.length = R := seg_full rfl
    by_cases h0 : t = []
    · have hR0 : R = [] := by
        subst h0
        have : rrS [] = some [] := by decide
        rw [this] at hR
        injection hR with hR
        exact hR.symm
      refine funW tabOk (E := [(5, (s_rrS1 R)), (6, s_rrIE), (7, s_eqReaderS), (8, s_markReaderS), (9, s_heldReaderS)]) ⟨(ok_ReadReadersS1 R), ok_ReadReadersIE, ok_eqReaderS, ok_markReaderS, ok_heldReaderS, trivial⟩ [] (k := 0) (fn := Tryd.f3) rfl rfl rfl rfl rfl rfl ?_
      subst hR0
      (repeat' ((try (conv => whnf)); first | (with_reducible first | refine And.intro ?_ ?_ | refine WX.of ?_) | exact zc | ((with_reducible refine VC.mk ?_); exact zw) | ((with_reducible refine VC.mk ?_); exact ⟨hl, hR⟩) | ((with_reducible refine VC.mk ?_); exact h0) | ((with_reducible refine VC.mk ?_); exact ⟨rfl, by decide, by decide, by decide⟩) | (with_reducible first | refine splitT ?_ | refine splitF ?_) | ((with_reducible refine splitM.mk (fun hsm => ?_) (fun hsm => ?_)) <;> (try exact zx)) | ((with_reducible refine splitB.mk (fun h => ?_) (fun h => ?_)) <;> (try simp only [zs, ne_eq] at h) <;> (try simp (disch := omega) only [w64] at h) <;> (try exact zx)) | (with_reducible intro hz; (try exact absurd hz (Nat.succ_ne_zero _)))))
      all_goals exact absurd rfl ‹¬ _›
    · refine funW tabOk (E := [(5, (s_rrS1 R)), (6, (s_rrI1 R)), (7, s_eqReaderS), (8, s_markReaderS), (9, s_heldReaderS)]) ⟨(ok_ReadReadersS1 R), (ok_ReadReadersI1 R), ok_eqReaderS, ok_markReaderS, ok_heldReaderS, trivial⟩ [] (k := 0) (fn := Tryd.f3) rfl rfl rfl rfl rfl rfl ?_
      have hn2 : R.length ≤ 1048576 := by omega
      (repeat' ((try (conv => whnf)); first | (with_reducible first | refine And.intro ?_ ?_ | refine WX.of ?_) | exact zc | ((with_reducible refine VC.mk ?_); exact zw) | ((with_reducible refine VC.mk ?_); exact ⟨hl, hR⟩) | ((with_reducible refine VC.mk ?_); exact ⟨⟨hl, h0⟩, hP⟩) | ((with_reducible refine VC.mk ?_); exact ⟨rfl, hn2, by decide, by decide⟩) | (with_reducible first | refine splitT ?_ | refine splitF ?_) | ((with_reducible refine splitM.mk (fun hsm => ?_) (fun hsm => ?_)) <;> (try exact zx)) | ((with_reducible refine splitB.mk (fun h => ?_) (fun h => ?_)) <;> (try simp only [zs, ne_eq] at h) <;> (try simp (disch := omega) only [w64] at h) <;> (try exact zx)) | (with_reducible intro hz; (try exact absurd hz (Nat.succ_ne_zero _)))))
end Go.Proofs.YtamachahlhlhlaaDoor.Eng
