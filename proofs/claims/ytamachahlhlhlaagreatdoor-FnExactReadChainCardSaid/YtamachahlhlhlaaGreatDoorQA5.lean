/- Lemmas for the proof, no conditions of their own. -/
import Derived.Test.YtamachahlhlhlaaGreatDoorQA4
set_option linter.unusedVariables false
set_option linter.unusedSimpArgs false
namespace Go.Proofs.YtamachahlhlhlaaGreatDoor.Eng
open Go Go.RowKit
set_option maxRecDepth 100000
def s_markStandardS : Spec := fun args S => match args, S with
  | [.sl 0 0 n x, .int .i64 k], [.arr (.prod .str (.prod (.int .i64) (.prod (.prod (.prod (.int .i64) (.int .i64)) (.prod (.int .i64) (.int .i64))) (.prod (.prod (.int .i64) (.int .i64)) (.prod (.int .i64) (.int .i64)))))) l 10 true] => ⟨n = l.length ∧ n ≤ 1048576 ∧ 0 ≤ k ∧ k ≤ 1099511627776, .int .i64 (k + 10 * n), [.arr (.prod .str (.prod (.int .i64) (.prod (.prod (.prod (.int .i64) (.int .i64)) (.prod (.int .i64) (.int .i64))) (.prod (.prod (.int .i64) (.int .i64)) (.prod (.int .i64) (.int .i64)))))) (marks (fun k : Int => (mkTx k, k + 1, ((k + 1 + 1, k + 1 + 1 + 1), k + 1 + 1 + 1 + 1, k + 1 + 1 + 1 + 1 + 1), (k + 1 + 1 + 1 + 1 + 1 + 1, k + 1 + 1 + 1 + 1 + 1 + 1 + 1), k + 1 + 1 + 1 + 1 + 1 + 1 + 1 + 1, k + 1 + 1 + 1 + 1 + 1 + 1 + 1 + 1 + 1)) 10 k n) 10 true]⟩
  | [.nils, .int .i64 k], [] => ⟨True, .int .i64 k, []⟩
  | _, _ => noSpec
theorem ok_markStandardS : SpecOk Tryz.prog 70 s_markStandardS := by
  intro args S h; unfold s_markStandardS at h ⊢; (split at h <;> first | exact False.elim h | skip)
  dsimp only at h ⊢
  · rename_i n x k l
    obtain ⟨hn, h1, h2, h3⟩ := h
    have hm : (marks (α := ET.T (.prod .str (.prod (.int .i64) (.prod (.prod (.prod (.int .i64) (.int .i64)) (.prod (.int .i64) (.int .i64))) (.prod (.prod (.int .i64) (.int .i64)) (.prod (.int .i64) (.int .i64))))))) (fun k : Int => (mkTx k, k + 1, ((k + 1 + 1, k + 1 + 1 + 1), k + 1 + 1 + 1 + 1, k + 1 + 1 + 1 + 1 + 1), (k + 1 + 1 + 1 + 1 + 1 + 1, k + 1 + 1 + 1 + 1 + 1 + 1 + 1), k + 1 + 1 + 1 + 1 + 1 + 1 + 1 + 1, k + 1 + 1 + 1 + 1 + 1 + 1 + 1 + 1 + 1)) 10 k n).length = l.length := by rw [marks_len]; exact hn
    refine funW tabOk (E := [(175, s_mtext)]) ⟨ok_markText, trivial⟩ [] (k := 1) (fn := Tryz.f70) rfl rfl rfl rfl rfl rfl ?_
    (repeat' ((try (conv => whnf)); first | (with_reducible first | refine And.intro ?_ ?_ | refine WX.of ?_) | exact zc | ((with_reducible refine VC.mk ?_); exact zw) | (with_reducible first | refine splitT ?_ | refine splitF ?_) | ((with_reducible refine splitM.mk (fun hsm => ?_) (fun hsm => ?_)) <;> (try exact zx)) | ((with_reducible refine splitB.mk (fun h => ?_) (fun h => ?_)) <;> (try simp only [zs, ne_eq] at h) <;> (try simp (disch := omega) only [w64] at h) <;> (try exact zx)) | (with_reducible intro hz; (try exact absurd hz (Nat.succ_ne_zero _)))))
    refine loopW tabOk (E := [(175, s_mtext)]) ⟨ok_markText, trivial⟩ [] (σ := Nat) (fun i => [(0, .sl 0 0 n x), (1, .int .i64 (k + 10 * i)), (5, .int .i64 i)]) (fun i => [.arr (.prod .str (.prod (.int .i64) (.prod (.prod (.prod (.int .i64) (.int .i64)) (.prod (.int .i64) (.int .i64))) (.prod (.prod (.int .i64) (.int .i64)) (.prod (.int .i64) (.int .i64)))))) ((marks (fun k : Int => (mkTx k, k + 1, ((k + 1 + 1, k + 1 + 1 + 1), k + 1 + 1 + 1 + 1, k + 1 + 1 + 1 + 1 + 1), (k + 1 + 1 + 1 + 1 + 1 + 1, k + 1 + 1 + 1 + 1 + 1 + 1 + 1), k + 1 + 1 + 1 + 1 + 1 + 1 + 1 + 1, k + 1 + 1 + 1 + 1 + 1 + 1 + 1 + 1 + 1)) 10 k n).take i ++ l.drop i) 10 true]) (fun i => n - i) (fun i => i ≤ n) 0 (Nat.zero_le _) ?_ ?_
    · (repeat' ((try (conv => whnf)); first | (with_reducible first | refine And.intro ?_ ?_ | refine WX.of ?_) | exact zc | ((with_reducible refine VC.mk ?_); exact zw) | (with_reducible first | refine splitT ?_ | refine splitF ?_) | ((with_reducible refine splitM.mk (fun hsm => ?_) (fun hsm => ?_)) <;> (try exact zx)) | ((with_reducible refine splitB.mk (fun h => ?_) (fun h => ?_)) <;> (try simp only [zs, ne_eq] at h) <;> (try simp (disch := omega) only [w64] at h) <;> (try exact zx)) | (with_reducible intro hz; (try exact absurd hz (Nat.succ_ne_zero _)))))
    · intro i hi
      by_cases hlt : i < n
      · obtain ⟨⟨nm, fr, ⟨⟨p, q⟩, p', q'⟩, ⟨dp, dq⟩, md, gd⟩, ha⟩ := get_some (l := l) (i := i) (by omega)
        have hb := marks_get (α := ET.T (.prod .str (.prod (.int .i64) (.prod (.prod (.prod (.int .i64) (.int .i64)) (.prod (.int .i64) (.int .i64))) (.prod (.prod (.int .i64) (.int .i64)) (.prod (.int .i64) (.int .i64))))))) (f := (fun k : Int => (mkTx k, k + 1, ((k + 1 + 1, k + 1 + 1 + 1), k + 1 + 1 + 1 + 1, k + 1 + 1 + 1 + 1 + 1), (k + 1 + 1 + 1 + 1 + 1 + 1, k + 1 + 1 + 1 + 1 + 1 + 1 + 1), k + 1 + 1 + 1 + 1 + 1 + 1 + 1 + 1, k + 1 + 1 + 1 + 1 + 1 + 1 + 1 + 1 + 1))) (c := 10) (k := k) hlt
        (repeat' ((try (conv => whnf)); first | (with_reducible first | refine And.intro ?_ ?_ | refine WX.of ?_) | exact zc | ((with_reducible refine VC.mk ?_); exact zw) | ((with_reducible refine atL_set ?_ ?_); (simp only [List.length_set, List.length_append, List.length_take, List.length_drop]; omega)) | with_reducible refine atL_0 (mark_at hm ha) ?_ | (with_reducible first | refine splitT ?_ | refine splitF ?_) | ((with_reducible refine splitM.mk (fun hsm => ?_) (fun hsm => ?_)) <;> (try exact zx)) | ((with_reducible refine splitB.mk (fun h => ?_) (fun h => ?_)) <;> (try simp only [zs, ne_eq] at h) <;> (try simp (disch := omega) only [w64] at h) <;> (try exact zx)) | (with_reducible intro hz; (try exact absurd hz (Nat.succ_ne_zero _)))))
        refine ⟨i + 1, by omega, hlt, ?_⟩
        (repeat' ((try (conv => whnf)); first | (with_reducible first | refine And.intro ?_ ?_ | refine WX.of ?_) | exact zc | ((with_reducible refine VC.mk ?_); exact zw) | (with_reducible first | refine splitT ?_ | refine splitF ?_) | ((with_reducible refine splitM.mk (fun hsm => ?_) (fun hsm => ?_)) <;> (try exact zx)) | ((with_reducible refine splitB.mk (fun h => ?_) (fun h => ?_)) <;> (try simp only [zs, ne_eq] at h) <;> (try simp (disch := omega) only [w64] at h) <;> (try exact zx)) | (with_reducible intro hz; (try exact absurd hz (Nat.succ_ne_zero _)))))
        refine ⟨?_⟩
        (try simp (disch := omega) only [w64])
        simp only [List.set_set, Nat.zero_add, Int.toNat_natCast]
        (try rw [mark_step hm hb])
        exact mark_step hm hb
      · (repeat' ((try (conv => whnf)); first | (with_reducible first | refine And.intro ?_ ?_ | refine WX.of ?_) | exact zc | ((with_reducible refine VC.mk ?_); exact zw) | (with_reducible first | refine splitT ?_ | refine splitF ?_) | ((with_reducible refine splitM.mk (fun hsm => ?_) (fun hsm => ?_)) <;> (try exact zx)) | ((with_reducible refine splitB.mk (fun h => ?_) (fun h => ?_)) <;> (try simp only [zs, ne_eq] at h) <;> (try simp (disch := omega) only [w64] at h) <;> (try exact zx)) | (with_reducible intro hz; (try exact absurd hz (Nat.succ_ne_zero _)))))
        obtain rfl : i = n := by omega
        exact ⟨by rw [mark_end marks_len hn.symm]⟩
  · refine funW tabOk (E := []) trivial [] (k := 0) (fn := Tryz.f70) rfl rfl rfl rfl rfl rfl ?_
    (repeat' ((try (conv => whnf)); first | (with_reducible first | refine And.intro ?_ ?_ | refine WX.of ?_) | exact zc | ((with_reducible refine VC.mk ?_); exact zw) | (with_reducible first | refine splitT ?_ | refine splitF ?_) | ((with_reducible refine splitM.mk (fun hsm => ?_) (fun hsm => ?_)) <;> (try exact zx)) | ((with_reducible refine splitB.mk (fun h => ?_) (fun h => ?_)) <;> (try simp only [zs, ne_eq] at h) <;> (try simp (disch := omega) only [w64] at h) <;> (try exact zx)) | (with_reducible intro hz; (try exact absurd hz (Nat.succ_ne_zero _)))))
    refine loop1 tabOk (E := []) trivial [] ?_
    (repeat' ((try (conv => whnf)); first | (with_reducible first | refine And.intro ?_ ?_ | refine WX.of ?_) | exact zc | ((with_reducible refine VC.mk ?_); exact zw) | (with_reducible first | refine splitT ?_ | refine splitF ?_) | ((with_reducible refine splitM.mk (fun hsm => ?_) (fun hsm => ?_)) <;> (try exact zx)) | ((with_reducible refine splitB.mk (fun h => ?_) (fun h => ?_)) <;> (try simp only [zs, ne_eq] at h) <;> (try simp (disch := omega) only [w64] at h) <;> (try exact zx)) | (with_reducible intro hz; (try exact absurd hz (Nat.succ_ne_zero _)))))
def s_heldStandardS : Spec := fun args S => match args, S with
  | [.sl 0 0 n x, .int .i64 k], [.arr (.prod .str (.prod (.int .i64) (.prod (.prod (.prod (.int .i64) (.int .i64)) (.prod (.int .i64) (.int .i64))) (.prod (.prod (.int .i64) (.int .i64)) (.prod (.int .i64) (.int .i64)))))) l 10 wr] => ⟨l = marks (fun k : Int => (mkTx k, k + 1, ((k + 1 + 1, k + 1 + 1 + 1), k + 1 + 1 + 1 + 1, k + 1 + 1 + 1 + 1 + 1), (k + 1 + 1 + 1 + 1 + 1 + 1, k + 1 + 1 + 1 + 1 + 1 + 1 + 1), k + 1 + 1 + 1 + 1 + 1 + 1 + 1 + 1, k + 1 + 1 + 1 + 1 + 1 + 1 + 1 + 1 + 1)) 10 k n ∧ n ≤ 1048576 ∧ 0 ≤ k ∧ k ≤ 1099511627776, .int .i64 (k + 10 * n), [.arr (.prod .str (.prod (.int .i64) (.prod (.prod (.prod (.int .i64) (.int .i64)) (.prod (.int .i64) (.int .i64))) (.prod (.prod (.int .i64) (.int .i64)) (.prod (.int .i64) (.int .i64)))))) l 10 wr]⟩
  | [.nils, .int .i64 k], [] => ⟨True, .int .i64 k, []⟩
  | _, _ => noSpec
theorem ok_heldStandardS : SpecOk Tryz.prog 71 s_heldStandardS := by
  intro args S h; unfold s_heldStandardS at h ⊢; (split at h <;> first | exact False.elim h | skip)
  dsimp only at h ⊢
  · rename_i n x k l wr
    obtain ⟨rfl, h1, h2, h3⟩ := h
    refine funW tabOk (E := [(175, s_mtext)]) ⟨ok_markText, trivial⟩ [(4, [(4, 1)])] (k := 1) (fn := Tryz.f71) rfl rfl rfl rfl rfl rfl ?_
    (repeat' ((try (conv => whnf)); first | (with_reducible first | refine And.intro ?_ ?_ | refine WX.of ?_) | exact zc | ((with_reducible refine VC.mk ?_); exact zw) | (with_reducible first | refine splitT ?_ | refine splitF ?_) | ((with_reducible refine splitM.mk (fun hsm => ?_) (fun hsm => ?_)) <;> (try exact zx)) | ((with_reducible refine splitB.mk (fun h => ?_) (fun h => ?_)) <;> (try simp only [zs, ne_eq] at h) <;> (try simp (disch := omega) only [w64] at h) <;> (try exact zx)) | (with_reducible intro hz; (try exact absurd hz (Nat.succ_ne_zero _)))))
    refine loopW tabOk (E := [(175, s_mtext)]) ⟨ok_markText, trivial⟩ [(4, [(4, 1)])] (σ := Nat) (fun i => [(0, .sl 0 0 n x), (1, .int .i64 (k + 10 * i)), (5, .int .i64 i)]) (fun i => [.arr (.prod .str (.prod (.int .i64) (.prod (.prod (.prod (.int .i64) (.int .i64)) (.prod (.int .i64) (.int .i64))) (.prod (.prod (.int .i64) (.int .i64)) (.prod (.int .i64) (.int .i64)))))) (marks (fun k : Int => (mkTx k, k + 1, ((k + 1 + 1, k + 1 + 1 + 1), k + 1 + 1 + 1 + 1, k + 1 + 1 + 1 + 1 + 1), (k + 1 + 1 + 1 + 1 + 1 + 1, k + 1 + 1 + 1 + 1 + 1 + 1 + 1), k + 1 + 1 + 1 + 1 + 1 + 1 + 1 + 1, k + 1 + 1 + 1 + 1 + 1 + 1 + 1 + 1 + 1)) 10 k n) 10 wr]) (fun i => n - i) (fun i => i ≤ n) 0 (Nat.zero_le _) ?_ ?_
    · (repeat' ((try (conv => whnf)); first | (with_reducible first | refine And.intro ?_ ?_ | refine WX.of ?_) | exact zc | ((with_reducible refine VC.mk ?_); exact zw) | (with_reducible first | refine splitT ?_ | refine splitF ?_) | ((with_reducible refine splitM.mk (fun hsm => ?_) (fun hsm => ?_)) <;> (try exact zx)) | ((with_reducible refine splitB.mk (fun h => ?_) (fun h => ?_)) <;> (try simp only [zs, ne_eq] at h) <;> (try simp (disch := omega) only [w64] at h) <;> (try exact zx)) | (with_reducible intro hz; (try exact absurd hz (Nat.succ_ne_zero _)))))
    · intro i hi
      by_cases hlt : i < n
      · have hb := marks_get (α := ET.T (.prod .str (.prod (.int .i64) (.prod (.prod (.prod (.int .i64) (.int .i64)) (.prod (.int .i64) (.int .i64))) (.prod (.prod (.int .i64) (.int .i64)) (.prod (.int .i64) (.int .i64))))))) (f := (fun k : Int => (mkTx k, k + 1, ((k + 1 + 1, k + 1 + 1 + 1), k + 1 + 1 + 1 + 1, k + 1 + 1 + 1 + 1 + 1), (k + 1 + 1 + 1 + 1 + 1 + 1, k + 1 + 1 + 1 + 1 + 1 + 1 + 1), k + 1 + 1 + 1 + 1 + 1 + 1 + 1 + 1, k + 1 + 1 + 1 + 1 + 1 + 1 + 1 + 1 + 1))) (c := 10) (k := k) hlt
        (try dsimp only at hb)
        (try rw [show ((10 : Nat) : Int) = 10 from rfl] at hb)
        (repeat' ((try (conv => whnf)); first | (with_reducible first | refine And.intro ?_ ?_ | refine WX.of ?_) | exact zc | ((with_reducible refine VC.mk ?_); exact zw) | with_reducible refine atL_0 hb ?_ | (with_reducible first | refine splitT ?_ | refine splitF ?_) | ((with_reducible refine splitM.mk (fun hsm => ?_) (fun hsm => ?_)) <;> (try exact zx)) | ((with_reducible refine splitB.mk (fun h => ?_) (fun h => ?_)) <;> (try simp only [zs, ne_eq] at h) <;> (try simp (disch := omega) only [w64] at h) <;> (try exact zx)) | (with_reducible intro hz; (try exact absurd hz (Nat.succ_ne_zero _)))))
        refine ⟨i + 1, by omega, hlt, ?_⟩
        (repeat' ((try (conv => whnf)); first | (with_reducible first | refine And.intro ?_ ?_ | refine WX.of ?_) | exact zc | ((with_reducible refine VC.mk ?_); exact zw) | (with_reducible first | refine splitT ?_ | refine splitF ?_) | ((with_reducible refine splitM.mk (fun hsm => ?_) (fun hsm => ?_)) <;> (try exact zx)) | ((with_reducible refine splitB.mk (fun h => ?_) (fun h => ?_)) <;> (try simp only [zs, ne_eq] at h) <;> (try simp (disch := omega) only [w64] at h) <;> (try exact zx)) | (with_reducible intro hz; (try exact absurd hz (Nat.succ_ne_zero _)))))
      · obtain rfl : i = n := by omega
        (repeat' ((try (conv => whnf)); first | (with_reducible first | refine And.intro ?_ ?_ | refine WX.of ?_) | exact zc | ((with_reducible refine VC.mk ?_); exact zw) | (with_reducible first | refine splitT ?_ | refine splitF ?_) | ((with_reducible refine splitM.mk (fun hsm => ?_) (fun hsm => ?_)) <;> (try exact zx)) | ((with_reducible refine splitB.mk (fun h => ?_) (fun h => ?_)) <;> (try simp only [zs, ne_eq] at h) <;> (try simp (disch := omega) only [w64] at h) <;> (try exact zx)) | (with_reducible intro hz; (try exact absurd hz (Nat.succ_ne_zero _)))))
  · refine funW tabOk (E := []) trivial [(4, [(4, 1)])] (k := 0) (fn := Tryz.f71) rfl rfl rfl rfl rfl rfl ?_
    (repeat' ((try (conv => whnf)); first | (with_reducible first | refine And.intro ?_ ?_ | refine WX.of ?_) | exact zc | ((with_reducible refine VC.mk ?_); exact zw) | (with_reducible first | refine splitT ?_ | refine splitF ?_) | ((with_reducible refine splitM.mk (fun hsm => ?_) (fun hsm => ?_)) <;> (try exact zx)) | ((with_reducible refine splitB.mk (fun h => ?_) (fun h => ?_)) <;> (try simp only [zs, ne_eq] at h) <;> (try simp (disch := omega) only [w64] at h) <;> (try exact zx)) | (with_reducible intro hz; (try exact absurd hz (Nat.succ_ne_zero _)))))
    refine loop1 tabOk (E := []) trivial [(4, [(4, 1)])] ?_
    (repeat' ((try (conv => whnf)); first | (with_reducible first | refine And.intro ?_ ?_ | refine WX.of ?_) | exact zc | ((with_reducible refine VC.mk ?_); exact zw) | (with_reducible first | refine splitT ?_ | refine splitF ?_) | ((with_reducible refine splitM.mk (fun hsm => ?_) (fun hsm => ?_)) <;> (try exact zx)) | ((with_reducible refine splitB.mk (fun h => ?_) (fun h => ?_)) <;> (try simp only [zs, ne_eq] at h) <;> (try simp (disch := omega) only [w64] at h) <;> (try exact zx)) | (with_reducible intro hz; (try exact absurd hz (Nat.succ_ne_zero _)))))
set_option maxHeartbeats 1600000 in
theorem law_readChain {t : List UInt8} (ho : t.length ≤ 9223372036854775807) : RunsS Tryz.prog 6 [.str t] [] (.bool true) [] := by
  by_cases hl : t.length ≤ 1048576
  rotate_left 1
  · refine funW tabOk (E := []) trivial [] (k := 0) (fn := Tryz.f6) rfl rfl rfl rfl rfl rfl ?_
    (repeat' ((try (conv => whnf)); first | (with_reducible first | refine And.intro ?_ ?_ | refine WX.of ?_) | exact zc | ((with_reducible refine VC.mk ?_); exact zw) | (with_reducible first | refine splitT ?_ | refine splitF ?_) | ((with_reducible refine splitM.mk (fun hsm => ?_) (fun hsm => ?_)) <;> (try exact zx)) | ((with_reducible refine splitB.mk (fun h => ?_) (fun h => ?_)) <;> (try simp only [zs, ne_eq] at h) <;> (try simp (disch := omega) only [w64] at h) <;> (try exact zx)) | (with_reducible intro hz; (try exact absurd hz (Nat.succ_ne_zero _)))))
  cases hR : chtR t with
  | none =>
    have hP : chtP t = none := (ch_same t).trans hR
    have h0 : t ≠ [] := fun e => by subst e; exact absurd hR (by decide)
    refine funW tabOk (E := [(68, s_chS0), (53, s_chI0), (69, s_eqStandardS), (70, s_markStandardS), (71, s_heldStandardS)]) ⟨ok_ReadChainS0, ok_ReadChainI0, ok_eqStandardS, ok_markStandardS, ok_heldStandardS, trivial⟩ [] (k := 0) (fn := Tryz.f6) rfl rfl rfl rfl rfl rfl ?_
    (repeat' ((try (conv => whnf)); first | (with_reducible first | refine And.intro ?_ ?_ | refine WX.of ?_) | exact zc | ((with_reducible refine VC.mk ?_); exact zw) | ((with_reducible refine VC.mk ?_); exact ⟨hl, hR⟩) | ((with_reducible refine VC.mk ?_); exact ⟨⟨hl, h0⟩, hP⟩) | (with_reducible first | refine splitT ?_ | refine splitF ?_) | ((with_reducible refine splitM.mk (fun hsm => ?_) (fun hsm => ?_)) <;> (try exact zx)) | ((with_reducible refine splitB.mk (fun h => ?_) (fun h => ?_)) <;> (try simp only [zs, ne_eq] at h) <;> (try simp (disch := omega) only [w64] at h) <;> (try exact zx)) | (with_reducible intro hz; (try exact absurd hz (Nat.succ_ne_zero _)))))
  | some R =>
    have hP : chtP t = some R := (ch_same t).trans hR
    obtain ⟨hA, hT⟩ := chtR_to hR
    have hn := ch_len hA
    have hsR : seg R 0 R.length = R := seg_full rfl
    by_cases h0 : t = []
    · have hR0 : R = [] := by
        subst h0
        have : chtR [] = some [] := by decide
        rw [this] at hR
        injection hR with hR
        exact hR.symm
      refine funW tabOk (E := [(68, (s_chS1 R)), (53, s_chIE), (69, s_eqStandardS), (70, s_markStandardS), (71, s_heldStandardS)]) ⟨(ok_ReadChainS1 R), ok_ReadChainIE, ok_eqStandardS, ok_markStandardS, ok_heldStandardS, trivial⟩ [] (k := 0) (fn := Tryz.f6) rfl rfl rfl rfl rfl rfl ?_
      subst hR0
      (repeat' ((try (conv => whnf)); first | (with_reducible first | refine And.intro ?_ ?_ | refine WX.of ?_) | exact zc | ((with_reducible refine VC.mk ?_); exact zw) | ((with_reducible refine VC.mk ?_); exact ⟨hl, hR⟩) | ((with_reducible refine VC.mk ?_); exact h0) | ((with_reducible refine VC.mk ?_); exact ⟨rfl, by decide, by decide, by decide⟩) | (with_reducible first | refine splitT ?_ | refine splitF ?_) | ((with_reducible refine splitM.mk (fun hsm => ?_) (fun hsm => ?_)) <;> (try exact zx)) | ((with_reducible refine splitB.mk (fun h => ?_) (fun h => ?_)) <;> (try simp only [zs, ne_eq] at h) <;> (try simp (disch := omega) only [w64] at h) <;> (try exact zx)) | (with_reducible intro hz; (try exact absurd hz (Nat.succ_ne_zero _)))))
      all_goals exact absurd rfl ‹¬ _›
    · have hn2 : R.length ≤ 1048576 := by omega
      refine funW tabOk (E := [(68, (s_chS1 R)), (53, (s_chI1 R)), (69, s_eqStandardS), (70, s_markStandardS), (71, s_heldStandardS)]) ⟨(ok_ReadChainS1 R), (ok_ReadChainI1 R), ok_eqStandardS, ok_markStandardS, ok_heldStandardS, trivial⟩ [] (k := 0) (fn := Tryz.f6) rfl rfl rfl rfl rfl rfl ?_
      (repeat' ((try (conv => whnf)); first | (with_reducible first | refine And.intro ?_ ?_ | refine WX.of ?_) | exact zc | ((with_reducible refine VC.mk ?_); exact zw) | ((with_reducible refine VC.mk ?_); exact ⟨hl, hR⟩) | ((with_reducible refine VC.mk ?_); exact ⟨⟨hl, h0⟩, hP⟩) | ((with_reducible refine VC.mk ?_); exact ⟨rfl, hn2, by decide, by decide⟩) | (with_reducible first | refine splitT ?_ | refine splitF ?_) | ((with_reducible refine splitM.mk (fun hsm => ?_) (fun hsm => ?_)) <;> (try exact zx)) | ((with_reducible refine splitB.mk (fun h => ?_) (fun h => ?_)) <;> (try simp only [zs, ne_eq] at h) <;> (try simp (disch := omega) only [w64] at h) <;> (try exact zx)) | (with_reducible intro hz; (try exact absurd hz (Nat.succ_ne_zero _)))))
end Go.Proofs.YtamachahlhlhlaaGreatDoor.Eng
