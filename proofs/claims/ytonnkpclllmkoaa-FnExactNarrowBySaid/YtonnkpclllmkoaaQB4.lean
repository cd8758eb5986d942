/- Lemmas for the proof, no conditions of their own. -/
import Derived.Test.YtonnkpclllmkoaaQB3
set_option linter.unusedVariables false
set_option linter.unusedSimpArgs false
namespace Go.Proofs.Ytonnkpclllmkoaa.Eng
open Go Go.RowKit
set_option maxRecDepth 100000
def ixB (L : List StT) (i : Int) : Bool := decide (0 ≤ i ∧ i ≤ (L.length : Int) - 1)
theorem ix_ok {L : List StT} {i : Int} (h : ixB L i = true) : 0 ≤ i ∧ i < L.length := by unfold ixB at h; simp at h; omega
def s_cc1 : Spec := fun args S => match args, S with
  | [.int .i64 i, .ptr 0 0 0], [.box [.sl 1 t m y] true false, .arr (.prod .str (.prod (.int .i64) (.prod (.prod (.prod (.int .i64) (.int .i64)) (.prod (.int .i64) (.int .i64))) (.prod (.prod (.int .i64) (.int .i64)) (.prod (.int .i64) (.int .i64)))))) l 10 wr] => ⟨t + m ≤ l.length ∧ m ≤ 1048576, .bool (!ixB (seg l t m) i), [.box [.sl 1 t m y] true false, .arr (.prod .str (.prod (.int .i64) (.prod (.prod (.prod (.int .i64) (.int .i64)) (.prod (.int .i64) (.int .i64))) (.prod (.prod (.int .i64) (.int .i64)) (.prod (.int .i64) (.int .i64)))))) l 10 wr]⟩
  | _, _ => noSpec
theorem ok_chainCode1 : SpecOk Try.prog 112 s_cc1 := by
  intro args S h; unfold s_cc1 at h ⊢; (split at h <;> first | exact False.elim h | skip)
  dsimp only at h ⊢
  rename_i i t m y l wr
  have hL := seg_len h.1
  have e : ixB (seg l t m) i = decide (0 ≤ i ∧ i ≤ (m : Int) - 1) := by unfold ixB; rw [hL]
  rw [e]
  refine funW tabOk (E := [(64, s_within)]) ⟨ok_within, trivial⟩ [] (k := 2) (fn := Try.f112) rfl rfl rfl rfl rfl rfl ?_
  (repeat' ((try (conv => whnf)); first | (with_reducible first | refine And.intro ?_ ?_ | refine WX.of ?_) | exact zc | ((with_reducible refine VC.mk ?_); exact zw) | (with_reducible first | refine splitT ?_ | refine splitF ?_) | ((with_reducible refine splitM.mk (fun hsm => ?_) (fun hsm => ?_)) <;> (try exact zx)) | ((with_reducible refine splitB.mk (fun h => ?_) (fun h => ?_)) <;> (try simp only [zs, ne_eq] at h) <;> (try simp (disch := omega) only [w64] at h) <;> (try exact zx)) | (with_reducible intro hz; (try exact absurd hz (Nat.succ_ne_zero _)))))
  all_goals exact ⟨by rw [w64 (by omega)]⟩
def s_cc2 : Spec := fun args S => match args, S with
  | [.int .i64 d], [] => ⟨True, .bool (!dyB d), []⟩
  | _, _ => noSpec
theorem ok_chainCode2 : SpecOk Try.prog 113 s_cc2 := by
  intro args S h; unfold s_cc2 at h ⊢; (split at h <;> first | exact False.elim h | skip)
  dsimp only at h ⊢
  refine funW tabOk (E := [(64, s_within)]) ⟨ok_within, trivial⟩ [] (k := 0) (fn := Try.f113) rfl rfl rfl rfl rfl rfl ?_
  (repeat' ((try (conv => whnf)); first | (with_reducible first | refine And.intro ?_ ?_ | refine WX.of ?_) | exact zc | ((with_reducible refine VC.mk ?_); exact zw) | (with_reducible first | refine splitT ?_ | refine splitF ?_) | ((with_reducible refine splitM.mk (fun hsm => ?_) (fun hsm => ?_)) <;> (try exact zx)) | ((with_reducible refine splitB.mk (fun h => ?_) (fun h => ?_)) <;> (try simp only [zs, ne_eq] at h) <;> (try simp (disch := omega) only [w64] at h) <;> (try exact zx)) | (with_reducible intro hz; (try exact absurd hz (Nat.succ_ne_zero _)))))
def s_idxZ (g1 g2 : Nat) : Spec := fun args S => match args, S with
  | [.sl 0 s n x, .fn g [.ptr 1 0 0]], [.arr (.int .i64) w 1 ww, .box [.sl 2 t m y] true false, .arr (.prod .str (.prod (.int .i64) (.prod (.prod (.prod (.int .i64) (.int .i64)) (.prod (.int .i64) (.int .i64))) (.prod (.prod (.int .i64) (.int .i64)) (.prod (.int .i64) (.int .i64)))))) l 10 wr] => ⟨g = g1 ∧ (s + n ≤ w.length ∧ n ≤ 1048576) ∧ t + m ≤ l.length ∧ m ≤ 1048576, .int .i64 (findI (fun i => !ixB (seg l t m) i) (seg w s n)), [.arr (.int .i64) w 1 ww, .box [.sl 2 t m y] true false, .arr (.prod .str (.prod (.int .i64) (.prod (.prod (.prod (.int .i64) (.int .i64)) (.prod (.int .i64) (.int .i64))) (.prod (.prod (.int .i64) (.int .i64)) (.prod (.int .i64) (.int .i64)))))) l 10 wr]⟩
  | [.nils, .fn g [.ptr 0 0 0]], [.box [.sl 1 t m y] true false, .arr (.prod .str (.prod (.int .i64) (.prod (.prod (.prod (.int .i64) (.int .i64)) (.prod (.int .i64) (.int .i64))) (.prod (.prod (.int .i64) (.int .i64)) (.prod (.int .i64) (.int .i64)))))) l 10 wr] => ⟨g = g1, .int .i64 (-1), [.box [.sl 1 t m y] true false, .arr (.prod .str (.prod (.int .i64) (.prod (.prod (.prod (.int .i64) (.int .i64)) (.prod (.int .i64) (.int .i64))) (.prod (.prod (.int .i64) (.int .i64)) (.prod (.int .i64) (.int .i64)))))) l 10 wr]⟩
  | [.sl 0 s n x, .fn g []], [.arr (.int .i64) w 1 ww] => ⟨g = g2 ∧ s + n ≤ w.length ∧ n ≤ 1048576, .int .i64 (findI (fun i => !dyB i) (seg w s n)), [.arr (.int .i64) w 1 ww]⟩
  | [.nils, .fn g []], [] => ⟨g = g2, .int .i64 (-1), []⟩
  | _, _ => noSpec
set_option maxHeartbeats 1600000 in
theorem ok_idxZ : SpecOk Try.prog 140 (s_idxZ 112 113) := by
  intro args S h; unfold s_idxZ at h ⊢; (split at h <;> first | exact False.elim h | skip)
  dsimp only at h ⊢
  · rename_i s n x g w ww t m y l wr
    obtain ⟨rfl, ⟨h1, h2⟩, h3⟩ := h
    have hL := seg_len h1
    refine funW tabOk (E := [(112, s_cc1)]) ⟨ok_chainCode1, trivial⟩ [] (k := 3) (fn := Try.f140) rfl rfl rfl rfl rfl rfl ?_
    (repeat' ((try (conv => whnf)); first | (with_reducible first | refine And.intro ?_ ?_ | refine WX.of ?_) | exact zc | ((with_reducible refine VC.mk ?_); exact zw) | (with_reducible first | refine splitT ?_ | refine splitF ?_) | ((with_reducible refine splitM.mk (fun hsm => ?_) (fun hsm => ?_)) <;> (try exact zx)) | ((with_reducible refine splitB.mk (fun h => ?_) (fun h => ?_)) <;> (try simp only [zs, ne_eq] at h) <;> (try simp (disch := omega) only [w64] at h) <;> (try exact zx)) | (with_reducible intro hz; (try exact absurd hz (Nat.succ_ne_zero _)))))
    refine loopW tabOk (E := [(112, s_cc1)]) ⟨ok_chainCode1, trivial⟩ [] (σ := Nat) (fun i => [(0, .sl 0 s n x), (1, .fn 112 [.ptr 1 0 0]), (7, .int .i64 n), (8, .int .i64 i)]) (fun i => [.arr (.int .i64) w 1 ww, .box [.sl 2 t m y] true false, .arr (.prod .str (.prod (.int .i64) (.prod (.prod (.prod (.int .i64) (.int .i64)) (.prod (.int .i64) (.int .i64))) (.prod (.prod (.int .i64) (.int .i64)) (.prod (.int .i64) (.int .i64)))))) l 10 wr]) (fun i => n - i) (fun i => i ≤ n ∧ ∀ (j : Nat) (a : Int), j < i → (seg w s n)[j]? = some a → (fun i => !ixB (seg l t m) i) a = false) 0 ⟨Nat.zero_le _, fun j a hj => by omega⟩ ?_ ?_
    · (repeat' ((try (conv => whnf)); first | (with_reducible first | refine And.intro ?_ ?_ | refine WX.of ?_) | exact zc | ((with_reducible refine VC.mk ?_); exact zw) | (with_reducible first | refine splitT ?_ | refine splitF ?_) | ((with_reducible refine splitM.mk (fun hsm => ?_) (fun hsm => ?_)) <;> (try exact zx)) | ((with_reducible refine splitB.mk (fun h => ?_) (fun h => ?_)) <;> (try simp only [zs, ne_eq] at h) <;> (try simp (disch := omega) only [w64] at h) <;> (try exact zx)) | (with_reducible intro hz; (try exact absurd hz (Nat.succ_ne_zero _)))))
    · intro i ⟨hi, hp⟩
      by_cases hlt : i < n
      · obtain ⟨a, ha⟩ := get_some (l := seg w s n) (i := i) (by omega)
        (repeat' ((try (conv => whnf)); first | (with_reducible first | refine And.intro ?_ ?_ | refine WX.of ?_) | exact zc | ((with_reducible refine VC.mk ?_); exact zw) | with_reducible refine atL_i ha ?_ | ((with_reducible refine VC.mk ?_); exact h3) | (with_reducible first | refine splitT ?_ | refine splitF ?_) | ((with_reducible refine splitM.mk (fun hsm => ?_) (fun hsm => ?_)) <;> (try exact zx)) | ((with_reducible refine splitB.mk (fun h => ?_) (fun h => ?_)) <;> (try simp only [zs, ne_eq] at h) <;> (try simp (disch := omega) only [w64] at h) <;> (try exact zx)) | (with_reducible intro hz; (try exact absurd hz (Nat.succ_ne_zero _)))))
        · exact ⟨by rw [findI_some (p := fun i => !ixB (seg l t m) i) ha (by simp [h]) hp]⟩
        · refine ⟨i + 1, by omega, ⟨hlt, upto_step ha (by simp [h]) hp⟩, ?_⟩
          (repeat' ((try (conv => whnf)); first | (with_reducible first | refine And.intro ?_ ?_ | refine WX.of ?_) | exact zc | ((with_reducible refine VC.mk ?_); exact zw) | (with_reducible first | refine splitT ?_ | refine splitF ?_) | ((with_reducible refine splitM.mk (fun hsm => ?_) (fun hsm => ?_)) <;> (try exact zx)) | ((with_reducible refine splitB.mk (fun h => ?_) (fun h => ?_)) <;> (try simp only [zs, ne_eq] at h) <;> (try simp (disch := omega) only [w64] at h) <;> (try exact zx)) | (with_reducible intro hz; (try exact absurd hz (Nat.succ_ne_zero _)))))
      · (repeat' ((try (conv => whnf)); first | (with_reducible first | refine And.intro ?_ ?_ | refine WX.of ?_) | exact zc | ((with_reducible refine VC.mk ?_); exact zw) | (with_reducible first | refine splitT ?_ | refine splitF ?_) | ((with_reducible refine splitM.mk (fun hsm => ?_) (fun hsm => ?_)) <;> (try exact zx)) | ((with_reducible refine splitB.mk (fun h => ?_) (fun h => ?_)) <;> (try simp only [zs, ne_eq] at h) <;> (try simp (disch := omega) only [w64] at h) <;> (try exact zx)) | (with_reducible intro hz; (try exact absurd hz (Nat.succ_ne_zero _)))))
        exact ⟨by rw [findI_none (p := fun i => !ixB (seg l t m) i) fun j a hj => hp j a (by have := (List.getElem?_eq_some_iff.1 hj).1; omega) hj]⟩
  · obtain rfl := h
    refine funW tabOk (E := [(112, s_cc1)]) ⟨ok_chainCode1, trivial⟩ [] (k := 2) (fn := Try.f140) rfl rfl rfl rfl rfl rfl ?_
    (repeat' ((try (conv => whnf)); first | (with_reducible first | refine And.intro ?_ ?_ | refine WX.of ?_) | exact zc | ((with_reducible refine VC.mk ?_); exact zw) | (with_reducible first | refine splitT ?_ | refine splitF ?_) | ((with_reducible refine splitM.mk (fun hsm => ?_) (fun hsm => ?_)) <;> (try exact zx)) | ((with_reducible refine splitB.mk (fun h => ?_) (fun h => ?_)) <;> (try simp only [zs, ne_eq] at h) <;> (try simp (disch := omega) only [w64] at h) <;> (try exact zx)) | (with_reducible intro hz; (try exact absurd hz (Nat.succ_ne_zero _)))))
    refine loop1 tabOk (E := [(112, s_cc1)]) ⟨ok_chainCode1, trivial⟩ [] ?_
    (repeat' ((try (conv => whnf)); first | (with_reducible first | refine And.intro ?_ ?_ | refine WX.of ?_) | exact zc | ((with_reducible refine VC.mk ?_); exact zw) | (with_reducible first | refine splitT ?_ | refine splitF ?_) | ((with_reducible refine splitM.mk (fun hsm => ?_) (fun hsm => ?_)) <;> (try exact zx)) | ((with_reducible refine splitB.mk (fun h => ?_) (fun h => ?_)) <;> (try simp only [zs, ne_eq] at h) <;> (try simp (disch := omega) only [w64] at h) <;> (try exact zx)) | (with_reducible intro hz; (try exact absurd hz (Nat.succ_ne_zero _)))))
  · rename_i s n x g w ww
    obtain ⟨rfl, h1, h2⟩ := h
    have hL := seg_len h1
    refine funW tabOk (E := [(113, s_cc2)]) ⟨ok_chainCode2, trivial⟩ [] (k := 1) (fn := Try.f140) rfl rfl rfl rfl rfl rfl ?_
    (repeat' ((try (conv => whnf)); first | (with_reducible first | refine And.intro ?_ ?_ | refine WX.of ?_) | exact zc | ((with_reducible refine VC.mk ?_); exact zw) | (with_reducible first | refine splitT ?_ | refine splitF ?_) | ((with_reducible refine splitM.mk (fun hsm => ?_) (fun hsm => ?_)) <;> (try exact zx)) | ((with_reducible refine splitB.mk (fun h => ?_) (fun h => ?_)) <;> (try simp only [zs, ne_eq] at h) <;> (try simp (disch := omega) only [w64] at h) <;> (try exact zx)) | (with_reducible intro hz; (try exact absurd hz (Nat.succ_ne_zero _)))))
    refine loopW tabOk (E := [(113, s_cc2)]) ⟨ok_chainCode2, trivial⟩ [] (σ := Nat) (fun i => [(0, .sl 0 s n x), (1, .fn 113 []), (7, .int .i64 n), (8, .int .i64 i)]) (fun i => [.arr (.int .i64) w 1 ww]) (fun i => n - i) (fun i => i ≤ n ∧ ∀ (j : Nat) (a : Int), j < i → (seg w s n)[j]? = some a → (fun i => !dyB i) a = false) 0 ⟨Nat.zero_le _, fun j a hj => by omega⟩ ?_ ?_
    · (repeat' ((try (conv => whnf)); first | (with_reducible first | refine And.intro ?_ ?_ | refine WX.of ?_) | exact zc | ((with_reducible refine VC.mk ?_); exact zw) | (with_reducible first | refine splitT ?_ | refine splitF ?_) | ((with_reducible refine splitM.mk (fun hsm => ?_) (fun hsm => ?_)) <;> (try exact zx)) | ((with_reducible refine splitB.mk (fun h => ?_) (fun h => ?_)) <;> (try simp only [zs, ne_eq] at h) <;> (try simp (disch := omega) only [w64] at h) <;> (try exact zx)) | (with_reducible intro hz; (try exact absurd hz (Nat.succ_ne_zero _)))))
    · intro i ⟨hi, hp⟩
      by_cases hlt : i < n
      · obtain ⟨a, ha⟩ := get_some (l := seg w s n) (i := i) (by omega)
        (repeat' ((try (conv => whnf)); first | (with_reducible first | refine And.intro ?_ ?_ | refine WX.of ?_) | exact zc | ((with_reducible refine VC.mk ?_); exact zw) | with_reducible refine atL_i ha ?_ | (with_reducible first | refine splitT ?_ | refine splitF ?_) | ((with_reducible refine splitM.mk (fun hsm => ?_) (fun hsm => ?_)) <;> (try exact zx)) | ((with_reducible refine splitB.mk (fun h => ?_) (fun h => ?_)) <;> (try simp only [zs, ne_eq] at h) <;> (try simp (disch := omega) only [w64] at h) <;> (try exact zx)) | (with_reducible intro hz; (try exact absurd hz (Nat.succ_ne_zero _)))))
        · exact ⟨by rw [findI_some (p := fun i => !dyB i) ha (by simp [h]) hp]⟩
        · refine ⟨i + 1, by omega, ⟨hlt, upto_step ha (by simp [h]) hp⟩, ?_⟩
          (repeat' ((try (conv => whnf)); first | (with_reducible first | refine And.intro ?_ ?_ | refine WX.of ?_) | exact zc | ((with_reducible refine VC.mk ?_); exact zw) | (with_reducible first | refine splitT ?_ | refine splitF ?_) | ((with_reducible refine splitM.mk (fun hsm => ?_) (fun hsm => ?_)) <;> (try exact zx)) | ((with_reducible refine splitB.mk (fun h => ?_) (fun h => ?_)) <;> (try simp only [zs, ne_eq] at h) <;> (try simp (disch := omega) only [w64] at h) <;> (try exact zx)) | (with_reducible intro hz; (try exact absurd hz (Nat.succ_ne_zero _)))))
      · (repeat' ((try (conv => whnf)); first | (with_reducible first | refine And.intro ?_ ?_ | refine WX.of ?_) | exact zc | ((with_reducible refine VC.mk ?_); exact zw) | (with_reducible first | refine splitT ?_ | refine splitF ?_) | ((with_reducible refine splitM.mk (fun hsm => ?_) (fun hsm => ?_)) <;> (try exact zx)) | ((with_reducible refine splitB.mk (fun h => ?_) (fun h => ?_)) <;> (try simp only [zs, ne_eq] at h) <;> (try simp (disch := omega) only [w64] at h) <;> (try exact zx)) | (with_reducible intro hz; (try exact absurd hz (Nat.succ_ne_zero _)))))
        exact ⟨by rw [findI_none (p := fun i => !dyB i) fun j a hj => hp j a (by have := (List.getElem?_eq_some_iff.1 hj).1; omega) hj]⟩
  · obtain rfl := h
    refine funW tabOk (E := [(113, s_cc2)]) ⟨ok_chainCode2, trivial⟩ [] (k := 0) (fn := Try.f140) rfl rfl rfl rfl rfl rfl ?_
    (repeat' ((try (conv => whnf)); first | (with_reducible first | refine And.intro ?_ ?_ | refine WX.of ?_) | exact zc | ((with_reducible refine VC.mk ?_); exact zw) | (with_reducible first | refine splitT ?_ | refine splitF ?_) | ((with_reducible refine splitM.mk (fun hsm => ?_) (fun hsm => ?_)) <;> (try exact zx)) | ((with_reducible refine splitB.mk (fun h => ?_) (fun h => ?_)) <;> (try simp only [zs, ne_eq] at h) <;> (try simp (disch := omega) only [w64] at h) <;> (try exact zx)) | (with_reducible intro hz; (try exact absurd hz (Nat.succ_ne_zero _)))))
    refine loop1 tabOk (E := [(113, s_cc2)]) ⟨ok_chainCode2, trivial⟩ [] ?_
    (repeat' ((try (conv => whnf)); first | (with_reducible first | refine And.intro ?_ ?_ | refine WX.of ?_) | exact zc | ((with_reducible refine VC.mk ?_); exact zw) | (with_reducible first | refine splitT ?_ | refine splitF ?_) | ((with_reducible refine splitM.mk (fun hsm => ?_) (fun hsm => ?_)) <;> (try exact zx)) | ((with_reducible refine splitB.mk (fun h => ?_) (fun h => ?_)) <;> (try simp only [zs, ne_eq] at h) <;> (try simp (disch := omega) only [w64] at h) <;> (try exact zx)) | (with_reducible intro hz; (try exact absurd hz (Nat.succ_ne_zero _)))))
def s_anyZ (g1 g2 : Nat) : Spec := fun args S => match args, S with
  | [.sl 0 s n x, .fn g [.ptr 1 0 0]], [.arr (.int .i64) w 1 ww, .box [.sl 2 t m y] true false, .arr (.prod .str (.prod (.int .i64) (.prod (.prod (.prod (.int .i64) (.int .i64)) (.prod (.int .i64) (.int .i64))) (.prod (.prod (.int .i64) (.int .i64)) (.prod (.int .i64) (.int .i64)))))) l 10 wr] => ⟨g = g1 ∧ (s + n ≤ w.length ∧ n ≤ 1048576) ∧ t + m ≤ l.length ∧ m ≤ 1048576, .bool ((seg w s n).any fun i => !ixB (seg l t m) i), [.arr (.int .i64) w 1 ww, .box [.sl 2 t m y] true false, .arr (.prod .str (.prod (.int .i64) (.prod (.prod (.prod (.int .i64) (.int .i64)) (.prod (.int .i64) (.int .i64))) (.prod (.prod (.int .i64) (.int .i64)) (.prod (.int .i64) (.int .i64)))))) l 10 wr]⟩
  | [.nils, .fn g [.ptr 0 0 0]], [.box [.sl 1 t m y] true false, .arr (.prod .str (.prod (.int .i64) (.prod (.prod (.prod (.int .i64) (.int .i64)) (.prod (.int .i64) (.int .i64))) (.prod (.prod (.int .i64) (.int .i64)) (.prod (.int .i64) (.int .i64)))))) l 10 wr] => ⟨g = g1, .bool false, [.box [.sl 1 t m y] true false, .arr (.prod .str (.prod (.int .i64) (.prod (.prod (.prod (.int .i64) (.int .i64)) (.prod (.int .i64) (.int .i64))) (.prod (.prod (.int .i64) (.int .i64)) (.prod (.int .i64) (.int .i64)))))) l 10 wr]⟩
  | [.sl 0 s n x, .fn g []], [.arr (.int .i64) w 1 ww] => ⟨g = g2 ∧ s + n ≤ w.length ∧ n ≤ 1048576, .bool ((seg w s n).any fun i => !dyB i), [.arr (.int .i64) w 1 ww]⟩
  | [.nils, .fn g []], [] => ⟨g = g2, .bool false, []⟩
  | _, _ => noSpec
theorem ok_anyZ : SpecOk Try.prog 111 (s_anyZ 112 113) := by
  intro args S h; unfold s_anyZ at h ⊢; (split at h <;> first | exact False.elim h | skip)
  dsimp only at h ⊢
  · have hq := h
    refine funW tabOk (E := [(140, (s_idxZ 112 113))]) ⟨ok_idxZ, trivial⟩ [] (k := 3) (fn := Try.f111) rfl rfl rfl rfl rfl rfl ?_
    (repeat' ((try (conv => whnf)); first | (with_reducible first | refine And.intro ?_ ?_ | refine WX.of ?_) | exact zc | ((with_reducible refine VC.mk ?_); exact zw) | ((with_reducible refine VC.mk ?_); exact hq) | (with_reducible first | refine splitT ?_ | refine splitF ?_) | ((with_reducible refine splitM.mk (fun hsm => ?_) (fun hsm => ?_)) <;> (try exact zx)) | ((with_reducible refine splitB.mk (fun h => ?_) (fun h => ?_)) <;> (try simp only [zs, ne_eq] at h) <;> (try simp (disch := omega) only [w64] at h) <;> (try exact zx)) | (with_reducible intro hz; (try exact absurd hz (Nat.succ_ne_zero _)))))
    exact ⟨by rw [findI_any]⟩
  · have hq := h
    refine funW tabOk (E := [(140, (s_idxZ 112 113))]) ⟨ok_idxZ, trivial⟩ [] (k := 2) (fn := Try.f111) rfl rfl rfl rfl rfl rfl ?_
    (repeat' ((try (conv => whnf)); first | (with_reducible first | refine And.intro ?_ ?_ | refine WX.of ?_) | exact zc | ((with_reducible refine VC.mk ?_); exact zw) | ((with_reducible refine VC.mk ?_); exact hq) | (with_reducible first | refine splitT ?_ | refine splitF ?_) | ((with_reducible refine splitM.mk (fun hsm => ?_) (fun hsm => ?_)) <;> (try exact zx)) | ((with_reducible refine splitB.mk (fun h => ?_) (fun h => ?_)) <;> (try simp only [zs, ne_eq] at h) <;> (try simp (disch := omega) only [w64] at h) <;> (try exact zx)) | (with_reducible intro hz; (try exact absurd hz (Nat.succ_ne_zero _)))))
  · have hq := h
    refine funW tabOk (E := [(140, (s_idxZ 112 113))]) ⟨ok_idxZ, trivial⟩ [] (k := 1) (fn := Try.f111) rfl rfl rfl rfl rfl rfl ?_
    (repeat' ((try (conv => whnf)); first | (with_reducible first | refine And.intro ?_ ?_ | refine WX.of ?_) | exact zc | ((with_reducible refine VC.mk ?_); exact zw) | ((with_reducible refine VC.mk ?_); exact hq) | (with_reducible first | refine splitT ?_ | refine splitF ?_) | ((with_reducible refine splitM.mk (fun hsm => ?_) (fun hsm => ?_)) <;> (try exact zx)) | ((with_reducible refine splitB.mk (fun h => ?_) (fun h => ?_)) <;> (try simp only [zs, ne_eq] at h) <;> (try simp (disch := omega) only [w64] at h) <;> (try exact zx)) | (with_reducible intro hz; (try exact absurd hz (Nat.succ_ne_zero _)))))
    exact ⟨by rw [findI_any]⟩
  · have hq := h
    refine funW tabOk (E := [(140, (s_idxZ 112 113))]) ⟨ok_idxZ, trivial⟩ [] (k := 0) (fn := Try.f111) rfl rfl rfl rfl rfl rfl ?_
    (repeat' ((try (conv => whnf)); first | (with_reducible first | refine And.intro ?_ ?_ | refine WX.of ?_) | exact zc | ((with_reducible refine VC.mk ?_); exact zw) | ((with_reducible refine VC.mk ?_); exact hq) | (with_reducible first | refine splitT ?_ | refine splitF ?_) | ((with_reducible refine splitM.mk (fun hsm => ?_) (fun hsm => ?_)) <;> (try exact zx)) | ((with_reducible refine splitB.mk (fun h => ?_) (fun h => ?_)) <;> (try simp only [zs, ne_eq] at h) <;> (try simp (disch := omega) only [w64] at h) <;> (try exact zx)) | (with_reducible intro hz; (try exact absurd hz (Nat.succ_ne_zero _)))))
/-- The code of a chain, indices and days. -/
def ccC (L : List StT) (ix dy : List Int) : Int := if chB L = true then (if (ix.any fun i => !ixB L i) = true then 2 else if (dy.any fun i => !dyB i) = true then 2 else 0) else 1
def chP (s n : Nat) (l : List StT) : Prop := (s + n ≤ l.length ∧ n ≤ 1048576) ∧ ∀ (j : Nat) (a : StT), l[j]? = some a → a.1.length < 9223372036854775808
def s_chC : Spec := fun args S => match args, S with
  | [.sl 0 s n x, .sl 1 t m y, .sl 2 t' m' y'], [.arr (.prod .str (.prod (.int .i64) (.prod (.prod (.prod (.int .i64) (.int .i64)) (.prod (.int .i64) (.int .i64))) (.prod (.prod (.int .i64) (.int .i64)) (.prod (.int .i64) (.int .i64)))))) l 10 wr, .arr (.int .i64) w 1 ww, .arr (.int .i64) w' 1 ww'] => ⟨chP s n l ∧ (t + m ≤ w.length ∧ m ≤ 1048576) ∧ t' + m' ≤ w'.length ∧ m' ≤ 1048576, .int .i64 (ccC (seg l s n) (seg w t m) (seg w' t' m')), [.arr (.prod .str (.prod (.int .i64) (.prod (.prod (.prod (.int .i64) (.int .i64)) (.prod (.int .i64) (.int .i64))) (.prod (.prod (.int .i64) (.int .i64)) (.prod (.int .i64) (.int .i64)))))) l 10 wr, .arr (.int .i64) w 1 ww, .arr (.int .i64) w' 1 ww']⟩
  | [.sl 0 s n x, .nils, .sl 1 t' m' y'], [.arr (.prod .str (.prod (.int .i64) (.prod (.prod (.prod (.int .i64) (.int .i64)) (.prod (.int .i64) (.int .i64))) (.prod (.prod (.int .i64) (.int .i64)) (.prod (.int .i64) (.int .i64)))))) l 10 wr, .arr (.int .i64) w' 1 ww'] => ⟨chP s n l ∧ t' + m' ≤ w'.length ∧ m' ≤ 1048576, .int .i64 (ccC (seg l s n) [] (seg w' t' m')), [.arr (.prod .str (.prod (.int .i64) (.prod (.prod (.prod (.int .i64) (.int .i64)) (.prod (.int .i64) (.int .i64))) (.prod (.prod (.int .i64) (.int .i64)) (.prod (.int .i64) (.int .i64)))))) l 10 wr, .arr (.int .i64) w' 1 ww']⟩
  | [.sl 0 s n x, .sl 1 t m y, .nils], [.arr (.prod .str (.prod (.int .i64) (.prod (.prod (.prod (.int .i64) (.int .i64)) (.prod (.int .i64) (.int .i64))) (.prod (.prod (.int .i64) (.int .i64)) (.prod (.int .i64) (.int .i64)))))) l 10 wr, .arr (.int .i64) w 1 ww] => ⟨chP s n l ∧ t + m ≤ w.length ∧ m ≤ 1048576, .int .i64 (ccC (seg l s n) (seg w t m) []), [.arr (.prod .str (.prod (.int .i64) (.prod (.prod (.prod (.int .i64) (.int .i64)) (.prod (.int .i64) (.int .i64))) (.prod (.prod (.int .i64) (.int .i64)) (.prod (.int .i64) (.int .i64)))))) l 10 wr, .arr (.int .i64) w 1 ww]⟩
  | _, _ => noSpec
theorem ok_chainCode : SpecOk Try.prog 60 s_chC := by
  intro args S h; unfold s_chC at h ⊢; (split at h <;> first | exact False.elim h | skip)
  dsimp only at h ⊢
  · obtain ⟨h1, h2, h3⟩ := h
    refine funW tabOk (E := [(110, s_l05Ok), (111, (s_anyZ 112 113))]) ⟨ok_ValidChainI, ok_anyZ, trivial⟩ [] (k := 3) (fn := Try.f60) rfl rfl rfl rfl rfl rfl ?_
    (repeat' ((try (conv => whnf)); first | (with_reducible first | refine And.intro ?_ ?_ | refine WX.of ?_) | exact zc | ((with_reducible refine VC.mk ?_); exact zw) | ((with_reducible refine VC.mk ?_); exact h1) | ((with_reducible refine VC.mk ?_); exact ⟨rfl, h2, h1.1⟩) | ((with_reducible refine VC.mk ?_); exact ⟨rfl, h3⟩) | (with_reducible first | refine splitT ?_ | refine splitF ?_) | ((with_reducible refine splitM.mk (fun hsm => ?_) (fun hsm => ?_)) <;> (try exact zx)) | ((with_reducible refine splitB.mk (fun h => ?_) (fun h => ?_)) <;> (try simp only [zs, ne_eq] at h) <;> (try simp (disch := omega) only [w64] at h) <;> (try exact zx)) | (with_reducible intro hz; (try exact absurd hz (Nat.succ_ne_zero _)))))
    all_goals (refine ⟨congrArg (SV.int .i64) ?_⟩; unfold ccC; simp [*])
  · obtain ⟨h1, h3⟩ := h
    refine funW tabOk (E := [(110, s_l05Ok), (111, (s_anyZ 112 113))]) ⟨ok_ValidChainI, ok_anyZ, trivial⟩ [] (k := 2) (fn := Try.f60) rfl rfl rfl rfl rfl rfl ?_
    (repeat' ((try (conv => whnf)); first | (with_reducible first | refine And.intro ?_ ?_ | refine WX.of ?_) | exact zc | ((with_reducible refine VC.mk ?_); exact zw) | ((with_reducible refine VC.mk ?_); exact h1) | ((with_reducible refine VC.mk ?_); exact ⟨rfl, h3⟩) | (with_reducible first | refine splitT ?_ | refine splitF ?_) | ((with_reducible refine splitM.mk (fun hsm => ?_) (fun hsm => ?_)) <;> (try exact zx)) | ((with_reducible refine splitB.mk (fun h => ?_) (fun h => ?_)) <;> (try simp only [zs, ne_eq] at h) <;> (try simp (disch := omega) only [w64] at h) <;> (try exact zx)) | (with_reducible intro hz; (try exact absurd hz (Nat.succ_ne_zero _)))))
    all_goals (refine ⟨congrArg (SV.int .i64) ?_⟩; unfold ccC; simp [*])
  · obtain ⟨h1, h2⟩ := h
    refine funW tabOk (E := [(110, s_l05Ok), (111, (s_anyZ 112 113))]) ⟨ok_ValidChainI, ok_anyZ, trivial⟩ [] (k := 2) (fn := Try.f60) rfl rfl rfl rfl rfl rfl ?_
    (repeat' ((try (conv => whnf)); first | (with_reducible first | refine And.intro ?_ ?_ | refine WX.of ?_) | exact zc | ((with_reducible refine VC.mk ?_); exact zw) | ((with_reducible refine VC.mk ?_); exact h1) | ((with_reducible refine VC.mk ?_); exact ⟨rfl, h2, h1.1⟩) | (with_reducible first | refine splitT ?_ | refine splitF ?_) | ((with_reducible refine splitM.mk (fun hsm => ?_) (fun hsm => ?_)) <;> (try exact zx)) | ((with_reducible refine splitB.mk (fun h => ?_) (fun h => ?_)) <;> (try simp only [zs, ne_eq] at h) <;> (try simp (disch := omega) only [w64] at h) <;> (try exact zx)) | (with_reducible intro hz; (try exact absurd hz (Nat.succ_ne_zero _)))))
    all_goals (refine ⟨congrArg (SV.int .i64) ?_⟩; unfold ccC; simp [*])
def s_l05At : Spec := fun args S => match args, S with
  | [.sl 0 s n x, .int .i64 i, .int .i64 d], [.arr (.prod .str (.prod (.int .i64) (.prod (.prod (.prod (.int .i64) (.int .i64)) (.prod (.int .i64) (.int .i64))) (.prod (.prod (.int .i64) (.int .i64)) (.prod (.int .i64) (.int .i64)))))) l 10 wr] => ⟨chP s n l, .int .i64 (ccC (seg l s n) [i] [d]), [.arr (.prod .str (.prod (.int .i64) (.prod (.prod (.prod (.int .i64) (.int .i64)) (.prod (.int .i64) (.int .i64))) (.prod (.prod (.int .i64) (.int .i64)) (.prod (.int .i64) (.int .i64)))))) l 10 wr]⟩
  | _, _ => noSpec
theorem ok_l05At : SpecOk Try.prog 51 s_l05At := by
  intro args S h; unfold s_l05At at h ⊢; (split at h <;> first | exact False.elim h | skip)
  dsimp only at h ⊢
  rename_i s n x i d l wr
  have hq := h
  have hL := seg_len h.1.1
  have hn := h.1.2
  have e : ixB (seg l s n) i = decide (0 ≤ i ∧ i ≤ (n : Int) - 1) := by unfold ixB; rw [hL]
  refine funW tabOk (E := [(49, s_l05Ok), (104, s_within), (59, s_l05Day)]) ⟨ok_l05Ok, ok_l00In, ok_l05Day, trivial⟩ [] (k := 1) (fn := Try.f51) rfl rfl rfl rfl rfl rfl ?_
  (repeat' ((try (conv => whnf)); first | (with_reducible first | refine And.intro ?_ ?_ | refine WX.of ?_) | exact zc | ((with_reducible refine VC.mk ?_); exact zw) | ((with_reducible refine VC.mk ?_); exact hq) | (with_reducible first | refine splitT ?_ | refine splitF ?_) | ((with_reducible refine splitM.mk (fun hsm => ?_) (fun hsm => ?_)) <;> (try exact zx)) | ((with_reducible refine splitB.mk (fun h => ?_) (fun h => ?_)) <;> (try simp only [zs, ne_eq] at h) <;> (try simp (disch := omega) only [w64] at h) <;> (try exact zx)) | (with_reducible intro hz; (try exact absurd hz (Nat.succ_ne_zero _)))))
  all_goals (refine ⟨congrArg (SV.int .i64) ?_⟩; unfold ccC; simp [*])
end Go.Proofs.Ytonnkpclllmkoaa.Eng
set_option linter.unusedVariables false
set_option linter.unusedSimpArgs false
namespace Go.Proofs.Ytonnkpclllmkoaa.Eng
open Go Go.RowKit
set_option maxRecDepth 100000
def soO (L : List StT) (i day : Int) : Option SpT := alO L day (pathL L i) ((0, 1), 0, 1)
/-- What comes of a code and of a span. -/
def coC (c : Int) (g : Bool) (o : Option SpT) : Int := if c = 0 then (if g = true then oCS o else 4) else c
def coV (c : Int) (g : Bool) (o : Option SpT) : SpT := if coC c g o = 0 then zsS o else ((0, 0), 0, 0)
def soC (L : List StT) (i day : Int) : Int := coC (ccC L [i] [day]) (gdB (stAt L i) day) (soO L i day)
def soV (L : List StT) (i day : Int) : SpT := coV (ccC L [i] [day]) (gdB (stAt L i) day) (soO L i day)
theorem co_1 {c : Int} {g : Bool} {o : Option SpT} (h : ¬ c = 0) : coC c g o = c ∧ coV c g o = ((0, 0), 0, 0) := by
  have e : coC c g o = c := by unfold coC; rw [if_neg h]
  exact ⟨e, by unfold coV; rw [e, if_neg h]⟩
theorem co_2 {g : Bool} {o : Option SpT} (h : g = false) : coC 0 g o = 4 ∧ coV 0 g o = ((0, 0), 0, 0) := by
  have e : coC 0 g o = 4 := by unfold coC; rw [h]; rfl
  exact ⟨e, by unfold coV; rw [e]; rfl⟩
theorem co_3 {g : Bool} {o : Option SpT} (h : g = true) : coC 0 g o = oCS o ∧ coV 0 g o = zsS o := by
  have e : coC 0 g o = oCS o := by unfold coC; rw [h]; rfl
  refine ⟨e, ?_⟩
  unfold coV; rw [e]
  cases o <;> simp [oCS, zsS]
theorem cc_ok {L : List StT} {ix dy : List Int} (h : ccC L ix dy = 0) : chB L = true ∧ (∀ i ∈ ix, 0 ≤ i ∧ i < L.length) ∧ ∀ d ∈ dy, 0 ≤ d ∧ d ≤ 100000 := by
  unfold ccC at h
  split at h
  · rename_i hc
    split at h
    · simp at h
    · rename_i h1
      split at h
      · simp at h
      · rename_i h2
        simp only [Bool.not_eq_true, List.any_eq_false, Bool.not_eq_true', Bool.not_eq_false] at h1 h2
        exact ⟨hc, fun i hi => ix_ok (h1 i hi), fun d hd => by have := h2 d hd; unfold dyB at this; simpa using this⟩
  · simp at h
def s_spanOnC : Spec := fun args S => match args, S with
  | [.ptr b 0 0, .sl 1 s n x, .int .i64 i, .int .i64 day], [.arr .bool [bad] 0 true, .arr (.prod .str (.prod (.int .i64) (.prod (.prod (.prod (.int .i64) (.int .i64)) (.prod (.int .i64) (.int .i64))) (.prod (.prod (.int .i64) (.int .i64)) (.prod (.int .i64) (.int .i64)))))) l 10 wr] => ⟨b = 0 ∧ (s + n ≤ l.length ∧ chB (seg l s n) = true) ∧ (0 ≤ i ∧ i < n) ∧ (0 ≤ day ∧ day ≤ 100000), .agg [.int .i64 (alT (seg l s n) day (pathL (seg l s n) i) (((0, 1), 0, 1), bad)).1.1.1, .int .i64 (alT (seg l s n) day (pathL (seg l s n) i) (((0, 1), 0, 1), bad)).1.1.2, .int .i64 (alT (seg l s n) day (pathL (seg l s n) i) (((0, 1), 0, 1), bad)).1.2.1, .int .i64 (alT (seg l s n) day (pathL (seg l s n) i) (((0, 1), 0, 1), bad)).1.2.2], [.arr .bool [(alT (seg l s n) day (pathL (seg l s n) i) (((0, 1), 0, 1), bad)).2] 0 true, .arr (.prod .str (.prod (.int .i64) (.prod (.prod (.prod (.int .i64) (.int .i64)) (.prod (.int .i64) (.int .i64))) (.prod (.prod (.int .i64) (.int .i64)) (.prod (.int .i64) (.int .i64)))))) l 10 wr]⟩
  | _, _ => noSpec
theorem ok_spanOnC : SpecOk Try.prog 75 s_spanOnC := by
  intro args S h; unfold s_spanOnC at h ⊢; (split at h <;> first | exact False.elim h | skip)
  dsimp only at h ⊢
  rename_i b s n x i day bad l wr
  obtain ⟨rfl, ⟨h1, hc⟩, hi, hd⟩ := h
  have hL := seg_len h1
  have hp30 := path_30 hc (i := i) (by omega)
  have hsg := seg_all (pathL (seg l s n) i)
  have hW : ∀ j ∈ seg (pathL (seg l s n) i) 0 (pathL (seg l s n) i).length, 0 ≤ j ∧ j < (seg l s n).length := fun j hj => by
    rw [hsg] at hj; have := path_mem hc (i := i) (by omega) j hj; omega
  refine funW tabOk (E := [(71, s_path), (72, s_none), (77, s_alongI)]) ⟨ok_pathI, ok_none, ok_alongI, trivial⟩ [] (k := 2) (fn := Try.f75) rfl rfl rfl rfl rfl rfl ?_
  (repeat' ((try (conv => whnf)); first | (with_reducible first | refine And.intro ?_ ?_ | refine WX.of ?_) | exact zc | ((with_reducible refine VC.mk ?_); exact zw) | ((with_reducible refine VC.mk ?_); exact ⟨h1, hc, hi.2⟩) | ((with_reducible refine VC.mk ?_); exact ⟨rfl, ⟨h1, hc⟩, ⟨by omega, by omega, hW⟩, hd, smS_0⟩) | (with_reducible first | refine splitT ?_ | refine splitF ?_) | ((with_reducible refine splitM.mk (fun hsm => ?_) (fun hsm => ?_)) <;> (try exact zx)) | ((with_reducible refine splitB.mk (fun h => ?_) (fun h => ?_)) <;> (try simp only [zs, ne_eq] at h) <;> (try simp (disch := omega) only [w64] at h) <;> (try exact zx)) | (with_reducible intro hz; (try exact absurd hz (Nat.succ_ne_zero _)))))
  all_goals exact ⟨by rw [hsg]⟩
def s_l05Span : Spec := fun args S => match args, S with
  | [.sl 0 s n x, .int .i64 i, .int .i64 day], [.arr (.prod .str (.prod (.int .i64) (.prod (.prod (.prod (.int .i64) (.int .i64)) (.prod (.int .i64) (.int .i64))) (.prod (.prod (.int .i64) (.int .i64)) (.prod (.int .i64) (.int .i64)))))) l 10 wr] => ⟨(s + n ≤ l.length ∧ chB (seg l s n) = true) ∧ (0 ≤ i ∧ i < n) ∧ (0 ≤ day ∧ day ≤ 100000), .tup [.agg [.int .i64 (coV 0 (gdB (stAt (seg l s n) i) day) (soO (seg l s n) i day)).1.1, .int .i64 (coV 0 (gdB (stAt (seg l s n) i) day) (soO (seg l s n) i day)).1.2, .int .i64 (coV 0 (gdB (stAt (seg l s n) i) day) (soO (seg l s n) i day)).2.1, .int .i64 (coV 0 (gdB (stAt (seg l s n) i) day) (soO (seg l s n) i day)).2.2], .int .i64 (coC 0 (gdB (stAt (seg l s n) i) day) (soO (seg l s n) i day))], [.arr (.prod .str (.prod (.int .i64) (.prod (.prod (.prod (.int .i64) (.int .i64)) (.prod (.int .i64) (.int .i64))) (.prod (.prod (.int .i64) (.int .i64)) (.prod (.int .i64) (.int .i64)))))) l 10 wr]⟩
  | _, _ => noSpec
theorem ok_l05Span : SpecOk Try.prog 52 s_l05Span := by
  intro args S h; unfold s_l05Span at h ⊢; (split at h <;> first | exact False.elim h | skip)
  dsimp only at h ⊢
  rename_i s n x i day l wr
  obtain ⟨⟨h1, hc⟩, hi, hd⟩ := h
  have hL := seg_len h1
  have hp30 := path_30 hc (i := i) (by omega)
  have hsg := seg_all (pathL (seg l s n) i)
  have hW : ∀ j ∈ seg (pathL (seg l s n) i) 0 (pathL (seg l s n) i).length, 0 ≤ j ∧ j < (seg l s n).length := fun j hj => by
    rw [hsg] at hj; have := path_mem hc (i := i) (by omega) j hj; omega
  obtain ⟨a, ha, hst, ho⟩ := ch_z hc (i := i) (by omega)
  have hla := (seg_get ha).1
  have hgo : s + i.toNat < l.length ∧ (0 ≤ ((l[s + i.toNat]?).getD stD).2.2.2.2.1 ∧ ((l[s + i.toNat]?).getD stD).2.2.2.2.1 ≤ 100000) ∧ 0 ≤ ((l[s + i.toNat]?).getD stD).2.2.2.2.2 ∧ ((l[s + i.toNat]?).getD stD).2.2.2.2.2 ≤ 100000 := by
    rw [hla]; exact ⟨(List.getElem?_eq_some_iff.1 hla).1, ho.md, ho.gd⟩
  have hgd : gdB ((l[s + i.toNat]?).getD stD) day = gdB (stAt (seg l s n) i) day := by rw [hla, hst]; rfl
  rw [← hgd]
  refine funW tabOk (E := [(92, s_l05Good), (93, s_path), (95, s_none), (94, s_alongS)]) ⟨ok_l05Good, ok_l05Path, ok_l05Nothing, ok_l05Along, trivial⟩ [] (k := 1) (fn := Try.f52) rfl rfl rfl rfl rfl rfl ?_
  (repeat' ((try (conv => whnf)); first | (with_reducible first | refine And.intro ?_ ?_ | refine WX.of ?_) | exact zc | ((with_reducible refine VC.mk ?_); exact zw) | ((with_reducible refine VC.mk ?_); exact hi) | ((with_reducible refine VC.mk ?_); exact hgo) | ((with_reducible refine VC.mk ?_); exact ⟨h1, hc, hi.2⟩) | ((with_reducible refine VC.mk ?_); exact ⟨⟨h1, hc⟩, ⟨by omega, by omega, hW⟩, hd, smS_0⟩) | (with_reducible first | refine splitT ?_ | refine splitF ?_) | ((with_reducible refine splitM.mk (fun hsm => ?_) (fun hsm => ?_)) <;> (try exact zx)) | ((with_reducible refine splitB.mk (fun h => ?_) (fun h => ?_)) <;> (try simp only [zs, ne_eq] at h) <;> (try simp (disch := omega) only [w64] at h) <;> (try exact zx)) | (with_reducible intro hz; (try exact absurd hz (Nat.succ_ne_zero _)))))
  · exact ⟨by rw [(co_2 h).1, (co_2 h).2]⟩
  · exact ⟨by rw [(co_3 h).1, (co_3 h).2, hsg]; rfl⟩
def s_SpanOn : Spec := fun args S => match args, S with
  | [.sl 0 s n x, .int .i64 i, .int .i64 day], [.arr (.prod .str (.prod (.int .i64) (.prod (.prod (.prod (.int .i64) (.int .i64)) (.prod (.int .i64) (.int .i64))) (.prod (.prod (.int .i64) (.int .i64)) (.prod (.int .i64) (.int .i64)))))) l 10 wr] => ⟨chP s n l, .tup [.agg [.int .i64 (soV (seg l s n) i day).1.1, .int .i64 (soV (seg l s n) i day).1.2, .int .i64 (soV (seg l s n) i day).2.1, .int .i64 (soV (seg l s n) i day).2.2], .int .i64 (soC (seg l s n) i day)], [.arr (.prod .str (.prod (.int .i64) (.prod (.prod (.prod (.int .i64) (.int .i64)) (.prod (.int .i64) (.int .i64))) (.prod (.prod (.int .i64) (.int .i64)) (.prod (.int .i64) (.int .i64)))))) l 10 wr]⟩
  | _, _ => noSpec
theorem ok_SpanOnI : SpecOk Try.prog 56 s_SpanOn := by
  intro args S h; unfold s_SpanOn at h ⊢; (split at h <;> first | exact False.elim h | skip)
  dsimp only at h ⊢
  rename_i s n x i day l wr
  have hq := h
  have hL := seg_len h.1.1
  unfold soV soC
  by_cases hcc : ccC (seg l s n) [i] [day] = 0
  rotate_left 1
  · rw [(co_1 hcc).1, (co_1 hcc).2]
    have hcc : ¬ ccC (seg l s n) (seg [i] 0 1) (seg [day] 0 1) = 0 := hcc
    refine funW tabOk (E := [(60, s_chC)]) ⟨ok_chainCode, trivial⟩ [] (k := 1) (fn := Try.f56) rfl rfl rfl rfl rfl rfl ?_
    (repeat' ((try (conv => whnf)); first | (with_reducible first | refine And.intro ?_ ?_ | refine WX.of ?_) | exact zc | ((with_reducible refine VC.mk ?_); exact zw) | ((with_reducible refine VC.mk ?_); exact ⟨hq, ⟨Nat.le_refl 1, by omega⟩, Nat.le_refl 1, by omega⟩) | ((with_reducible refine splitT_of ?_ ?_); (focus (simp only [hcc, Bool.not_true, Bool.not_false, decide_true, decide_false]; done))) | ((with_reducible refine splitF_of ?_ ?_); (focus (simp only [hcc, Bool.not_true, Bool.not_false, decide_true, decide_false]; done))) | (with_reducible first | refine splitT ?_ | refine splitF ?_) | ((with_reducible refine splitM.mk (fun hsm => ?_) (fun hsm => ?_)) <;> (try exact zx)) | ((with_reducible refine splitB.mk (fun h => ?_) (fun h => ?_)) <;> (try simp only [zs, ne_eq] at h) <;> (try simp (disch := omega) only [w64] at h) <;> (try exact zx)) | (with_reducible intro hz; (try exact absurd hz (Nat.succ_ne_zero _)))))
  · rw [hcc]
    obtain ⟨hc, h1, h2⟩ := cc_ok hcc
    have hi := ir_n (h1 i (by simp)) hL
    have hd := h2 day (by simp)
    obtain ⟨⟨nm, fr, ⟨⟨p, q⟩, p', q'⟩, ⟨dp, dq⟩, md, gd⟩, ha, hst, ho⟩ := ch_z hc (i := i) (by omega)
    have hgb : (0 ≤ md ∧ md ≤ 100000) ∧ 0 ≤ gd ∧ gd ≤ 100000 := ⟨ho.md, ho.gd⟩
    rw [hst]
    have hcc : ccC (seg l s n) (seg [i] 0 1) (seg [day] 0 1) = 0 := hcc
    refine funW tabOk (E := [(60, s_chC), (70, s_good), (75, s_spanOnC), (73, s_spanC)]) ⟨ok_chainCode, ok_good, ok_spanOnC, ok_spanC, trivial⟩ [] (k := 1) (fn := Try.f56) rfl rfl rfl rfl rfl rfl ?_
    (repeat' ((try (conv => whnf)); first | (with_reducible first | refine And.intro ?_ ?_ | refine WX.of ?_) | exact zc | ((with_reducible refine VC.mk ?_); exact zw) | with_reducible refine atL_p (seg_get ha).1 ?_ | ((with_reducible refine VC.mk ?_); exact ⟨hq, ⟨Nat.le_refl 1, by omega⟩, Nat.le_refl 1, by omega⟩) | ((with_reducible refine VC.mk ?_); exact hi) | ((with_reducible refine VC.mk ?_); exact hgb) | ((with_reducible refine VC.mk ?_); exact ⟨rfl, ⟨hq.1.1, hc⟩, hi, hd⟩) | ((with_reducible refine splitT_of ?_ ?_); (focus (simp only [hcc, Bool.not_true, Bool.not_false, decide_true, decide_false]; done))) | ((with_reducible refine splitF_of ?_ ?_); (focus (simp only [hcc, Bool.not_true, Bool.not_false, decide_true, decide_false]; done))) | (with_reducible first | refine splitT ?_ | refine splitF ?_) | ((with_reducible refine splitM.mk (fun hsm => ?_) (fun hsm => ?_)) <;> (try exact zx)) | ((with_reducible refine splitB.mk (fun h => ?_) (fun h => ?_)) <;> (try simp only [zs, ne_eq] at h) <;> (try simp (disch := omega) only [w64] at h) <;> (try exact zx)) | (with_reducible intro hz; (try exact absurd hz (Nat.succ_ne_zero _)))))
    · exact ⟨by rw [(co_2 h).1, (co_2 h).2]⟩
    · refine ⟨?_⟩
      rw [(co_3 h).1, (co_3 h).2]
      unfold soO
      rcases al_tol (seg l s n) day (pathL (seg l s n) i) ((0, 1), 0, 1) with ⟨hb, ho⟩ | ⟨hb, ho⟩
      · rw [ho]; simp only [hb, if_true]; rfl
      · rw [ho]; simp only [hb, if_false, Bool.false_eq_true]; rfl
end Go.Proofs.Ytonnkpclllmkoaa.Eng
set_option linter.unusedVariables false
set_option linter.unusedSimpArgs false
namespace Go.Proofs.Ytonnkpclllmkoaa.Eng
open Go Go.RowKit
set_option maxRecDepth 100000
def cpN : List Int → List Int → Nat
  | x :: a, y :: b => if x = y then cpN a b + 1 else 0
  | _, _ => 0
theorem cp_le : ∀ (a b : List Int), cpN a b ≤ a.length ∧ cpN a b ≤ b.length
  | [], b => by simp [cpN]
  | x :: a, [] => by simp [cpN]
  | x :: a, y :: b => by
    rw [cpN]; split
    · have := cp_le a b; simp; omega
    · simp
theorem cp_self : ∀ (a : List Int), cpN a a = a.length
  | [] => rfl
  | x :: a => by rw [cpN, if_pos rfl, cp_self a]; rfl
theorem cp_step {a b : List Int} {n : Nat} {x : Int} (ha : a[n]? = some x) (hb : b[n]? = some x) : cpN (a.drop n) (b.drop n) = cpN (a.drop (n + 1)) (b.drop (n + 1)) + 1 := by
  rw [drop_at ha, drop_at hb, cpN, if_pos rfl]
theorem cp_stop {a b : List Int} {n : Nat} {x y : Int} (ha : a[n]? = some x) (hb : b[n]? = some y) (h : ¬ x = y) : cpN (a.drop n) (b.drop n) = 0 := by
  rw [drop_at ha, drop_at hb, cpN, if_neg h]
theorem cp_end {a b : List Int} {n : Nat} (h : a.length ≤ n ∨ b.length ≤ n) : cpN (a.drop n) (b.drop n) = 0 := by
  rcases h with h | h
  · rw [drop_nil h]; cases b.drop n <;> rfl
  · rw [drop_nil h]; cases a.drop n <;> rfl
def absZ (n : Int) : Int := (n.natAbs : Int)
def s00 : SpT := ((0, 1), 0, 1)
/-- The span of the difference behind n common ones. -/
def dfN (L : List StT) (day : Int) (a b : List Int) (n : Nat) : Option SpT :=
  (alO L day (a.drop n) s00).bind fun s => (alO L day (b.drop n) s00).bind fun t => (miO s t).bind fun d => if n = 0 then some d else drO d (stAt L ((a[n - 1]?).getD 0)).2.2.2.1 (absZ (nxD L day (a.drop n) - nxD L day (b.drop n)))
def dfO (L : List StT) (i k day : Int) : Option SpT := dfN L day (pathL L i) (pathL L k) (cpN (pathL L i) (pathL L k))
theorem Tol.bind {o : Option SpT} {v : SpT} {b : Bool} {f : SpT → Option SpT} {v' : SpT} {b' : Bool} (h : Tol o v b) (h' : Tol (f v) v' b') : Tol (o.bind f) v' (b || b') := by
  rcases h with ⟨h1, h2⟩ | ⟨h1, h2⟩
  · subst h1; subst h2; exact .inl ⟨rfl, rfl⟩
  · subst h1; subst h2; simpa using h'
theorem mi_tol (s t : SpT) : Tol (miO s t) (miV s t) (!(sbO s.1 t.2).isSome || !(sbO s.2 t.1).isSome) := sp_tol _ _
def drB (s : SpT) (d : FrT) (n : Int) : Bool := !(muO d (n, 1)).isSome || (!(sbO s.1 (tv (muO d (n, 1)))).isSome || !(adO s.2 (tv (muO d (n, 1)))).isSome)
theorem dr_tol (s : SpT) (d : FrT) (n : Int) : Tol (drO s d n) (drV s d n) (drB s d n) := by
  unfold drO drV drB
  rcases Tol.of (muO d (n, 1)) with ⟨h3, h4⟩ | ⟨h3, h4⟩
  · rw [h3, h4]; exact .inl ⟨rfl, rfl⟩
  · rw [h3]
    generalize muO d (n, 1) = o at *
    rw [show (o.bind fun m => wdO s m) = wdO s (tv o) from by rw [h4]; rfl]
    exact sp_tol _ _
def dfA (L : List StT) (day : Int) (a : List Int) (n : Nat) : SpT × Bool := alT L day (a.drop n) (s00, false)
theorem df_tol0 (L : List StT) (day : Int) (a b : List Int) : Tol (dfN L day a b 0) (miV (dfA L day a 0).1 (dfA L day b 0).1) ((dfA L day a 0).2 || ((dfA L day b 0).2 || (!(sbO (dfA L day a 0).1.1 (dfA L day b 0).1.2).isSome || !(sbO (dfA L day a 0).1.2 (dfA L day b 0).1.1).isSome))) := by
  unfold dfN
  refine Tol.bind (al_tol L day _ s00) (Tol.bind (al_tol L day _ s00) ?_)
  rw [show ((miO (alT L day (a.drop 0) (s00, false)).1 (alT L day (b.drop 0) (s00, false)).1).bind fun d => if (0 : Nat) = 0 then some d else drO d (stAt L ((a[0 - 1]?).getD 0)).2.2.2.1 (absZ (nxD L day (a.drop 0) - nxD L day (b.drop 0)))) = miO (alT L day (a.drop 0) (s00, false)).1 (alT L day (b.drop 0) (s00, false)).1 from by simp]
  exact mi_tol _ _
theorem df_tol1 (L : List StT) (day : Int) (a b : List Int) {n : Nat} (hn : ¬ n = 0) : Tol (dfN L day a b n)
    (drV (miV (dfA L day a n).1 (dfA L day b n).1) (stAt L ((a[n - 1]?).getD 0)).2.2.2.1 (absZ (nxD L day (a.drop n) - nxD L day (b.drop n))))
    ((dfA L day a n).2 || ((dfA L day b n).2 || ((!(sbO (dfA L day a n).1.1 (dfA L day b n).1.2).isSome || !(sbO (dfA L day a n).1.2 (dfA L day b n).1.1).isSome) || drB (miV (dfA L day a n).1 (dfA L day b n).1) (stAt L ((a[n - 1]?).getD 0)).2.2.2.1 (absZ (nxD L day (a.drop n) - nxD L day (b.drop n)))))) := by
  unfold dfN
  refine Tol.bind (al_tol L day _ s00) (Tol.bind (al_tol L day _ s00) (Tol.bind (mi_tol _ _) ?_))
  rw [if_neg hn]
  exact dr_tol _ _ _
theorem rO_0 {q : Int} (hq : 1 ≤ q) : rO 0 q = some (0, 1) := by
  have hg : redG 0 q = q := by unfold redG; rw [Int.gcd_zero_left]; omega
  have e := red_pos (p := 0) (q := q) (by omega)
  rw [hg] at e
  have e1 : redP 0 q = 0 := by rw [e.1]; simp
  have e2 : redQ 0 q = 1 := by rw [e.2]; exact Int.ediv_self (by omega)
  unfold rO redOk; rw [e1, e2]; rfl
theorem df_same {L : List StT} (hc : chB L = true) {i : Int} (hi : 0 ≤ i ∧ i < L.length) (day : Int) : dfO L i i day = some s00 := by
  unfold dfO dfN
  rw [cp_self, drop_nil (Nat.le_refl _)]
  have hne : ¬ (pathL L i).length = 0 := by rw [path_step hc hi]; simp
  have hlast : ((pathL L i)[(pathL L i).length - 1]?).getD 0 = i := by rw [path_step hc hi]; simp
  obtain ⟨a, ha, hst, ho⟩ := ch_z hc hi
  have hdq := fOk_q ho.dr
  rw [hlast, hst]
  have e1 : miO s00 s00 = some s00 := by decide
  have e2 : drO s00 a.2.2.2.1 0 = some s00 := by
    unfold drO
    rw [show muO a.2.2.2.1 (0, 1) = some (0, 1) from by unfold muO; dsimp only; rw [Int.mul_zero, Int.mul_one]; exact rO_0 (by omega)]
    decide
  simp only [alO, Option.bind_some, e1, if_neg hne, nxD, Int.sub_self]
  exact e2
end Go.Proofs.Ytonnkpclllmkoaa.Eng
set_option linter.unusedVariables false
set_option linter.unusedSimpArgs false
namespace Go.Proofs.Ytonnkpclllmkoaa.Eng
open Go Go.RowKit
set_option maxRecDepth 100000
def s_bhd : Spec := fun args S => match args, S with
  | [.sl 0 t m y, .ptr 1 0 0, .ptr 2 0 0, .ptr 3 0 0, .ptr 4 0 0], [.arr (.int .i64) w 1 ww, .arr (.int .i64) [c] 0 true, .arr (.int .i64) [day] 0 true, .box [.ptr 5 0 0] true false, .box [.sl 6 s n x] true false, .arr .bool [bad] 0 true, .arr (.prod .str (.prod (.int .i64) (.prod (.prod (.prod (.int .i64) (.int .i64)) (.prod (.int .i64) (.int .i64))) (.prod (.prod (.int .i64) (.int .i64)) (.prod (.int .i64) (.int .i64)))))) l 10 wr] => ⟨(s + n ≤ l.length ∧ chB (seg l s n) = true) ∧ (t + m ≤ w.length ∧ m ≤ 40 ∧ ∀ j ∈ seg w t m, 0 ≤ j ∧ j < (seg l s n).length) ∧ (0 ≤ day ∧ day ≤ 100000) ∧ 0 ≤ c ∧ c ≤ m, .tup [.agg [.int .i64 (alT (seg l s n) day ((seg w t m).drop c.toNat) (s00, bad)).1.1.1, .int .i64 (alT (seg l s n) day ((seg w t m).drop c.toNat) (s00, bad)).1.1.2, .int .i64 (alT (seg l s n) day ((seg w t m).drop c.toNat) (s00, bad)).1.2.1, .int .i64 (alT (seg l s n) day ((seg w t m).drop c.toNat) (s00, bad)).1.2.2], .int .i64 (nxD (seg l s n) day ((seg w t m).drop c.toNat))], [.arr (.int .i64) w 1 ww, .arr (.int .i64) [c] 0 true, .arr (.int .i64) [day] 0 true, .box [.ptr 5 0 0] true false, .box [.sl 6 s n x] true false, .arr .bool [(alT (seg l s n) day ((seg w t m).drop c.toNat) (s00, bad)).2] 0 true, .arr (.prod .str (.prod (.int .i64) (.prod (.prod (.prod (.int .i64) (.int .i64)) (.prod (.int .i64) (.int .i64))) (.prod (.prod (.int .i64) (.int .i64)) (.prod (.int .i64) (.int .i64)))))) l 10 wr]⟩
  | _, _ => noSpec
theorem seg_drop {α : Type} {w : List α} {t m c : Nat} (hc : c ≤ m) : seg w (t + c) (m - c) = (seg w t m).drop c := by
  unfold seg; rw [List.drop_take, List.drop_drop]
theorem cb_ok {c : Int} {m : Nat} (h5 : 0 ≤ c) (h6 : c ≤ m) : c.toNat ≤ m ∧ (¬ (m : Int) = c → c.toNat < m ∧ (0 ≤ c ∧ c < m)) ∧ (0 ≤ c ∧ c ≤ m) := by omega
theorem ok_bhd : SpecOk Try.prog 76 s_bhd := by
  intro args S h; unfold s_bhd at h ⊢; (split at h <;> first | exact False.elim h | skip)
  dsimp only at h ⊢
  rename_i t m y w ww c day s n x bad l wr
  obtain ⟨⟨h1, hc⟩, ⟨h3, h4, hW⟩, hd, h5, h6⟩ := h
  have hL := seg_len h1
  have hM := seg_len h3
  have hcb := cb_ok h5 h6
  have hsd := seg_drop (w := w) (t := t) (m := m) (c := c.toNat) hcb.1
  have hWd : ∀ j ∈ seg w (t + c.toNat) (m - c.toNat), 0 ≤ j ∧ j < (seg l s n).length := fun j hj => hW j (by rw [hsd] at hj; exact List.mem_of_mem_drop hj)
  by_cases hcm : (m : Int) = c
  · have e : (seg w t m).drop c.toNat = [] := drop_nil (by omega)
    rw [e]
    refine funW tabOk (E := [(72, s_none)]) ⟨ok_none, trivial⟩ [(2, [(1, 0), (1, 2)]), (3, [(0, 1), (1, 1), (3, 1), (4, 1), (5, 1), (8, 0), (8, 1), (8, 3), (10, 0), (10, 1), (10, 3), (12, 0), (12, 1), (12, 3), (15, 0), (15, 1), (15, 3)])] (k := 7) (fn := Try.f76) rfl rfl rfl rfl rfl rfl ?_
    (repeat' ((try (conv => whnf)); first | (with_reducible first | refine And.intro ?_ ?_ | refine WX.of ?_) | exact zc | ((with_reducible refine VC.mk ?_); exact zw) | (with_reducible first | refine splitT ?_ | refine splitF ?_) | ((with_reducible refine splitM.mk (fun hsm => ?_) (fun hsm => ?_)) <;> (try exact zx)) | ((with_reducible refine splitB.mk (fun h => ?_) (fun h => ?_)) <;> (try simp only [zs, ne_eq] at h) <;> (try simp (disch := omega) only [w64] at h) <;> (try exact zx)) | (with_reducible intro hz; (try exact absurd hz (Nat.succ_ne_zero _)))))
  · have hcb2 := hcb.2.1 hcm
    obtain ⟨i, hi⟩ := get_some (l := seg w t m) (i := c.toNat) (by rw [hM]; exact hcb2.1)
    have hir := hW i (List.mem_of_getElem? hi)
    have hir' := ir_n hir hL
    obtain ⟨⟨nm, fr, ⟨⟨p, q⟩, p', q'⟩, ⟨dp, dq⟩, md, gd⟩, ha, hst, ho⟩ := ch_z hc hir
    have e : nxD (seg l s n) day ((seg w t m).drop c.toNat) = md := by rw [drop_at hi]; show stMd _ = md; rw [hst]; rfl
    rw [e, ← hsd]
    refine funW tabOk (E := [(72, s_none), (77, s_alongI)]) ⟨ok_none, ok_alongI, trivial⟩ [(2, [(1, 0), (1, 2)]), (3, [(0, 1), (1, 1), (3, 1), (4, 1), (5, 1), (8, 0), (8, 1), (8, 3), (10, 0), (10, 1), (10, 3), (12, 0), (12, 1), (12, 3), (15, 0), (15, 1), (15, 3)])] (k := 7) (fn := Try.f76) rfl rfl rfl rfl rfl rfl ?_
    (repeat' ((try (conv => whnf)); first | (with_reducible first | refine And.intro ?_ ?_ | refine WX.of ?_) | exact zc | ((with_reducible refine VC.mk ?_); exact zw) | with_reducible refine atL_p (seg_get hi).1 ?_ | with_reducible refine atL_p (seg_get ha).1 ?_ | ((with_reducible refine VC.mk ?_); exact hir') | ((with_reducible refine VC.mk ?_); exact hcb.2.2) | ((with_reducible refine VC.mk ?_); exact hcb2.2) | ((with_reducible refine VC.mk ?_); exact ⟨rfl, ⟨h1, hc⟩, ⟨by omega, by omega, hWd⟩, hd, smS_0⟩) | (with_reducible first | refine splitT ?_ | refine splitF ?_) | ((with_reducible refine splitM.mk (fun hsm => ?_) (fun hsm => ?_)) <;> (try exact zx)) | ((with_reducible refine splitB.mk (fun h => ?_) (fun h => ?_)) <;> (try simp only [zs, ne_eq] at h) <;> (try simp (disch := omega) only [w64] at h) <;> (try exact zx)) | (with_reducible intro hz; (try exact absurd hz (Nat.succ_ne_zero _)))))
def dcC (L : List StT) (i k day : Int) : Int := coC (ccC L [i, k] [day]) (gdB (stAt L i) day && gdB (stAt L k) day) (dfO L i k day)
def dcV (L : List StT) (i k day : Int) : SpT := coV (ccC L [i, k] [day]) (gdB (stAt L i) day && gdB (stAt L k) day) (dfO L i k day)
def s_diff : Spec := fun args S => match args, S with
  | [.sl 0 s n x, .int .i64 i, .int .i64 k, .int .i64 day], [.arr (.prod .str (.prod (.int .i64) (.prod (.prod (.prod (.int .i64) (.int .i64)) (.prod (.int .i64) (.int .i64))) (.prod (.prod (.int .i64) (.int .i64)) (.prod (.int .i64) (.int .i64)))))) l 10 wr] => ⟨chP s n l, .tup [.agg [.int .i64 (dcV (seg l s n) i k day).1.1, .int .i64 (dcV (seg l s n) i k day).1.2, .int .i64 (dcV (seg l s n) i k day).2.1, .int .i64 (dcV (seg l s n) i k day).2.2], .int .i64 (dcC (seg l s n) i k day)], [.arr (.prod .str (.prod (.int .i64) (.prod (.prod (.prod (.int .i64) (.int .i64)) (.prod (.int .i64) (.int .i64))) (.prod (.prod (.int .i64) (.int .i64)) (.prod (.int .i64) (.int .i64)))))) l 10 wr]⟩
  | _, _ => noSpec
theorem prE {α β : Type} (p : α × β) : (p.1, p.2) = p := rfl
theorem mx_ok {a b : Int} (ha : 0 ≤ a ∧ a ≤ 100000) (hb : 0 ≤ b ∧ b ≤ 100000) : IntKind.i64.wrap (a - b) = a - b ∧ IntKind.i64.wrap (b - a) = b - a ∧ (if b - a > a - b then b - a else a - b) = absZ (a - b) ∧ smF (absZ (a - b)) 1 ∧ -1000000000 ≤ absZ (a - b) ∧ absZ (a - b) ≤ 1000000000 := by
  unfold absZ
  refine ⟨w64 (by omega), w64 (by omega), by split <;> omega, smF_1 (by omega), by omega, by omega⟩
set_option maxHeartbeats 3200000 in
theorem ok_DifferenceOnI : SpecOk Try.prog 26 s_diff := by
  intro args S h; unfold s_diff at h ⊢; (split at h <;> first | exact False.elim h | skip)
  dsimp only at h ⊢
  rename_i s n x i k day l wr
  have hq := h
  have hL := seg_len h.1.1
  unfold dcV dcC
  by_cases hcc : ccC (seg l s n) [i, k] [day] = 0
  rotate_left 1
  · rw [(co_1 hcc).1, (co_1 hcc).2]
    have hcc : ¬ ccC (seg l s n) (seg [i, k] 0 2) (seg [day] 0 1) = 0 := hcc
    refine funW tabOk (E := [(60, s_chC)]) ⟨ok_chainCode, trivial⟩ [(6, [(1, 1), (1, 2), (5, 0), (8, 0), (8, 1), (9, 0), (9, 1)]), (12, [(0, 1), (0, 2), (0, 3), (1, 1), (1, 2), (7, 0), (8, 0), (10, 0)]), (17, [(0, 1), (0, 2), (0, 3), (0, 4), (1, 1), (1, 2), (1, 3), (6, 0), (6, 2), (7, 0), (7, 2), (9, 0), (9, 2), (12, 0), (12, 2), (15, 0), (15, 2)])] (k := 1) (fn := Try.f26) rfl rfl rfl rfl rfl rfl ?_
    (repeat' ((try (conv => whnf)); first | (with_reducible first | refine And.intro ?_ ?_ | refine WX.of ?_) | exact zc | ((with_reducible refine VC.mk ?_); exact zw) | ((with_reducible refine VC.mk ?_); exact ⟨hq, ⟨Nat.le_refl 2, by omega⟩, Nat.le_refl 1, by omega⟩) | ((with_reducible refine splitT_of ?_ ?_); (focus (simp only [hcc, Bool.not_true, Bool.not_false, decide_true, decide_false]; done))) | ((with_reducible refine splitF_of ?_ ?_); (focus (simp only [hcc, Bool.not_true, Bool.not_false, decide_true, decide_false]; done))) | (with_reducible first | refine splitT ?_ | refine splitF ?_) | ((with_reducible refine splitM.mk (fun hsm => ?_) (fun hsm => ?_)) <;> (try exact zx)) | ((with_reducible refine splitB.mk (fun h => ?_) (fun h => ?_)) <;> (try simp only [zs, ne_eq] at h) <;> (try simp (disch := omega) only [w64] at h) <;> (try exact zx)) | (with_reducible intro hz; (try exact absurd hz (Nat.succ_ne_zero _)))))
  rw [hcc]
  obtain ⟨hc, h1, h2⟩ := cc_ok hcc
  have hi0 := h1 i (by simp)
  have hk0 := h1 k (by simp)
  have hi := ir_n hi0 hL
  have hk := ir_n hk0 hL
  have hd := h2 day (by simp)
  have hcc : ccC (seg l s n) (seg [i, k] 0 2) (seg [day] 0 1) = 0 := hcc
  obtain ⟨⟨nm, fr, ⟨⟨p, q⟩, p', q'⟩, ⟨dp, dq⟩, md, gd⟩, ha, hst, ho⟩ := ch_z hc hi0
  have hgb : (0 ≤ md ∧ md ≤ 100000) ∧ 0 ≤ gd ∧ gd ≤ 100000 := ⟨ho.md, ho.gd⟩
  obtain ⟨⟨nm0, fr0, ⟨⟨p0, q0⟩, p0', q0'⟩, ⟨dp0, dq0⟩, md0, gd0⟩, hb, hst0, ho0⟩ := ch_z hc hk0
  have hgb0 : (0 ≤ md0 ∧ md0 ≤ 100000) ∧ 0 ≤ gd0 ∧ gd0 ≤ 100000 := ⟨ho0.md, ho0.gd⟩
  rw [hst, hst0]
  cases hg : (gdB (nm, fr, ((p, q), p', q'), (dp, dq), md, gd) day && gdB (nm0, fr0, ((p0, q0), p0', q0'), (dp0, dq0), md0, gd0) day) with
  | false =>
    rw [(co_2 rfl).1, (co_2 rfl).2]
    refine funW tabOk (E := [(60, s_chC), (70, s_good)]) ⟨ok_chainCode, ok_good, trivial⟩ [(6, [(1, 1), (1, 2), (5, 0), (8, 0), (8, 1), (9, 0), (9, 1)]), (12, [(0, 1), (0, 2), (0, 3), (1, 1), (1, 2), (7, 0), (8, 0), (10, 0)]), (17, [(0, 1), (0, 2), (0, 3), (0, 4), (1, 1), (1, 2), (1, 3), (6, 0), (6, 2), (7, 0), (7, 2), (9, 0), (9, 2), (12, 0), (12, 2), (15, 0), (15, 2)])] (k := 1) (fn := Try.f26) rfl rfl rfl rfl rfl rfl ?_
    (repeat' ((try (conv => whnf)); first | (with_reducible first | refine And.intro ?_ ?_ | refine WX.of ?_) | exact zc | ((with_reducible refine VC.mk ?_); exact zw) | with_reducible refine atL_p (seg_get ha).1 ?_ | with_reducible refine atL_p (seg_get hb).1 ?_ | ((with_reducible refine VC.mk ?_); exact ⟨hq, ⟨Nat.le_refl 2, by omega⟩, Nat.le_refl 1, by omega⟩) | ((with_reducible refine VC.mk ?_); exact hi) | ((with_reducible refine VC.mk ?_); exact hk) | ((with_reducible refine VC.mk ?_); exact hgb) | ((with_reducible refine VC.mk ?_); exact hgb0) | ((with_reducible refine splitT_of ?_ ?_); (focus (simp only [hcc, Bool.not_true, Bool.not_false, decide_true, decide_false]; done))) | ((with_reducible refine splitF_of ?_ ?_); (focus (simp only [hcc, Bool.not_true, Bool.not_false, decide_true, decide_false]; done))) | (with_reducible first | refine splitT ?_ | refine splitF ?_) | ((with_reducible refine splitM.mk (fun hsm => ?_) (fun hsm => ?_)) <;> (try exact zx)) | ((with_reducible refine splitB.mk (fun h => ?_) (fun h => ?_)) <;> (try simp only [zs, ne_eq] at h) <;> (try simp (disch := omega) only [w64] at h) <;> (try exact zx)) | (with_reducible intro hz; (try exact absurd hz (Nat.succ_ne_zero _)))))
    rename_i hx
    rw [hx, h] at hg
    simp at hg
  | true =>
    rw [(co_3 rfl).1, (co_3 rfl).2]
    rw [Bool.and_eq_true] at hg
    have hpa := path_30 hc hi0.2
    have hpb := path_30 hc hk0.2
    have hsA := seg_all (pathL (seg l s n) i)
    have hsB := seg_all (pathL (seg l s n) k)
    have hcl := cp_le (pathL (seg l s n) i) (pathL (seg l s n) k)
    have hWA : ∀ j ∈ seg (pathL (seg l s n) i) 0 (pathL (seg l s n) i).length, 0 ≤ j ∧ j < (seg l s n).length := fun j hj => by
      rw [hsA] at hj; have := path_mem hc hi0.2 j hj; omega
    have hWB : ∀ j ∈ seg (pathL (seg l s n) k) 0 (pathL (seg l s n) k).length, 0 ≤ j ∧ j < (seg l s n).length := fun j hj => by
      rw [hsB] at hj; have := path_mem hc hk0.2 j hj; omega
    refine funW tabOk (E := [(60, s_chC), (70, s_good), (71, s_path), (72, s_none), (75, s_spanOnC), (74, s_miOI), (73, s_spanC), (76, s_bhd), (80, s_num), (79, s_mulO), (78, s_wdI)]) ⟨ok_chainCode, ok_good, ok_pathI, ok_none, ok_spanOnC, ok_miOI, ok_spanC, ok_bhd, ok_num, ok_mulO, ok_wdI, trivial⟩ [(6, [(1, 1), (1, 2), (5, 0), (8, 0), (8, 1), (9, 0), (9, 1)]), (12, [(0, 1), (0, 2), (0, 3), (1, 1), (1, 2), (7, 0), (8, 0), (10, 0)]), (17, [(0, 1), (0, 2), (0, 3), (0, 4), (1, 1), (1, 2), (1, 3), (6, 0), (6, 2), (7, 0), (7, 2), (9, 0), (9, 2), (12, 0), (12, 2), (15, 0), (15, 2)])] (k := 1) (fn := Try.f26) rfl rfl rfl rfl rfl rfl ?_
    (repeat' ((try (conv => whnf)); first | (with_reducible first | refine And.intro ?_ ?_ | refine WX.of ?_) | exact zc | ((with_reducible refine VC.mk ?_); exact zw) | with_reducible refine atL_p (seg_get ha).1 ?_ | with_reducible refine atL_p (seg_get hb).1 ?_ | ((with_reducible refine VC.mk ?_); exact ⟨hq, ⟨Nat.le_refl 2, by omega⟩, Nat.le_refl 1, by omega⟩) | ((with_reducible refine VC.mk ?_); exact hi) | ((with_reducible refine VC.mk ?_); exact hk) | ((with_reducible refine VC.mk ?_); exact hgb) | ((with_reducible refine VC.mk ?_); exact hgb0) | ((with_reducible refine VC.mk ?_); exact ⟨hq.1.1, hc, hi.2⟩) | ((with_reducible refine VC.mk ?_); exact ⟨hq.1.1, hc, hk.2⟩) | ((with_reducible refine splitT_of ?_ ?_); (focus (simp only [hcc, hg.1, hg.2, Bool.not_true, Bool.not_false, decide_true, decide_false]; done))) | ((with_reducible refine splitF_of ?_ ?_); (focus (simp only [hcc, hg.1, hg.2, Bool.not_true, Bool.not_false, decide_true, decide_false]; done))) | (with_reducible first | refine splitT ?_ | refine splitF ?_) | ((with_reducible refine splitM.mk (fun hsm => ?_) (fun hsm => ?_)) <;> (try exact zx)) | ((with_reducible refine splitB.mk (fun h => ?_) (fun h => ?_)) <;> (try simp only [zs, ne_eq] at h) <;> (try simp (disch := omega) only [w64] at h) <;> (try exact zx)) | (with_reducible intro hz; (try exact absurd hz (Nat.succ_ne_zero _)))))
    refine loopW tabOk (E := [(60, s_chC), (70, s_good), (71, s_path), (72, s_none), (75, s_spanOnC), (74, s_miOI), (73, s_spanC), (76, s_bhd), (80, s_num), (79, s_mulO), (78, s_wdI)]) ⟨ok_chainCode, ok_good, ok_pathI, ok_none, ok_spanOnC, ok_miOI, ok_spanC, ok_bhd, ok_num, ok_mulO, ok_wdI, trivial⟩ [(6, [(1, 1), (1, 2), (5, 0), (8, 0), (8, 1), (9, 0), (9, 1)]), (12, [(0, 1), (0, 2), (0, 3), (1, 1), (1, 2), (7, 0), (8, 0), (10, 0)]), (17, [(0, 1), (0, 2), (0, 3), (0, 4), (1, 1), (1, 2), (1, 3), (6, 0), (6, 2), (7, 0), (7, 2), (9, 0), (9, 2), (12, 0), (12, 2), (15, 0), (15, 2)])] (σ := Nat) (fun z => [(0, .sl 0 s n x), (1, .int .i64 i), (2, .int .i64 k), (4, .ptr 1 0 0), (7, .ptr 2 0 0), (8, .ptr 3 0 0), (11, .ptr 7 0 0), (12, .sl 9 0 (pathL (seg l s n) i).length 0), (13, .sl 10 0 (pathL (seg l s n) k).length 0), (14, .ptr 8 0 0)]) (fun z => [.arr (.prod .str (.prod (.int .i64) (.prod (.prod (.prod (.int .i64) (.int .i64)) (.prod (.int .i64) (.int .i64))) (.prod (.prod (.int .i64) (.int .i64)) (.prod (.int .i64) (.int .i64)))))) l 10 wr, .box [.sl 0 s n x] true false, .arr (.int .i64) [day] 0 true, .arr (.prod (.prod (.int .i64) (.int .i64)) (.prod (.int .i64) (.int .i64))) [((0, 0), 0, 0)] 0 true, .gone, .gone, .arr .bool [false] 0 true, .box [.ptr 6 0 0] true false, .arr (.int .i64) [(z : Int)] 0 true, .arr (.int .i64) (pathL (seg l s n) i) 1 true, .arr (.int .i64) (pathL (seg l s n) k) 1 true]) (fun z => (pathL (seg l s n) i).length - z) (fun z => z ≤ (pathL (seg l s n) i).length ∧ z ≤ (pathL (seg l s n) k).length ∧ cpN (pathL (seg l s n) i) (pathL (seg l s n) k) = z + cpN ((pathL (seg l s n) i).drop z) ((pathL (seg l s n) k).drop z)) 0 ⟨Nat.zero_le _, Nat.zero_le _, by simp⟩ ?_ ?_
    · (repeat' ((try (conv => whnf)); first | (with_reducible first | refine And.intro ?_ ?_ | refine WX.of ?_) | exact zc | ((with_reducible refine VC.mk ?_); exact zw) | (with_reducible first | refine splitT ?_ | refine splitF ?_) | ((with_reducible refine splitM.mk (fun hsm => ?_) (fun hsm => ?_)) <;> (try exact zx)) | ((with_reducible refine splitB.mk (fun h => ?_) (fun h => ?_)) <;> (try simp only [zs, ne_eq] at h) <;> (try simp (disch := omega) only [w64] at h) <;> (try exact zx)) | (with_reducible intro hz; (try exact absurd hz (Nat.succ_ne_zero _)))))
    · intro z ⟨hz1, hz2, hz⟩
      by_cases hstop : z < (pathL (seg l s n) i).length ∧ z < (pathL (seg l s n) k).length
      · obtain ⟨u, hu⟩ := get_some (l := (pathL (seg l s n) i)) (i := z) hstop.1
        obtain ⟨v, hv⟩ := get_some (l := (pathL (seg l s n) k)) (i := z) hstop.2
        by_cases huv : u = v
        · subst huv
          have hst2 := cp_step hu hv
          (repeat' ((try (conv => whnf)); first | (with_reducible first | refine And.intro ?_ ?_ | refine WX.of ?_) | exact zc | ((with_reducible refine VC.mk ?_); exact zw) | with_reducible refine atL_0 hu ?_ | with_reducible refine atL_0 hv ?_ | (with_reducible first | refine splitT ?_ | refine splitF ?_) | ((with_reducible refine splitM.mk (fun hsm => ?_) (fun hsm => ?_)) <;> (try exact zx)) | ((with_reducible refine splitB.mk (fun h => ?_) (fun h => ?_)) <;> (try simp only [zs, ne_eq] at h) <;> (try simp (disch := omega) only [w64] at h) <;> (try exact zx)) | (with_reducible intro hz; (try exact absurd hz (Nat.succ_ne_zero _)))))
          refine ⟨z + 1, by omega, ⟨hstop.1, hstop.2, by omega⟩, ?_⟩
          (repeat' ((try (conv => whnf)); first | (with_reducible first | refine And.intro ?_ ?_ | refine WX.of ?_) | exact zc | ((with_reducible refine VC.mk ?_); exact zw) | (with_reducible first | refine splitT ?_ | refine splitF ?_) | ((with_reducible refine splitM.mk (fun hsm => ?_) (fun hsm => ?_)) <;> (try exact zx)) | ((with_reducible refine splitB.mk (fun h => ?_) (fun h => ?_)) <;> (try simp only [zs, ne_eq] at h) <;> (try simp (disch := omega) only [w64] at h) <;> (try exact zx)) | (with_reducible intro hz; (try exact absurd hz (Nat.succ_ne_zero _)))))
          all_goals exact ⟨by rw [w64 (by omega)]; rfl⟩
        · have hst2 := cp_stop hu hv huv
          rw [hst2, Nat.add_zero] at hz
          have hds : dfO (seg l s n) i k day = dfN (seg l s n) day (pathL (seg l s n) i) (pathL (seg l s n) k) z := by unfold dfO; rw [hz]
          by_cases hik : i = k
          · exact absurd (by subst hik; rw [hu] at hv; exact Option.some.inj hv) huv
          by_cases hz0 : z = 0
          · subst hz0
            have ht := df_tol0 (seg l s n) day (pathL (seg l s n) i) (pathL (seg l s n) k)
            rw [← hds] at ht
            have e1 : dfA (seg l s n) day (pathL (seg l s n) i) 0 = alT (seg l s n) day (pathL (seg l s n) i) (((0, 1), 0, 1), false) := rfl
            have e2 : dfA (seg l s n) day (pathL (seg l s n) k) 0 = alT (seg l s n) day (pathL (seg l s n) k) (((0, 1), 0, 1), false) := rfl
            rw [e1, e2] at ht
            have e3 := alT_or (seg l s n) day (pathL (seg l s n) k) (((0, 1), 0, 1), (alT (seg l s n) day (pathL (seg l s n) i) (((0, 1), 0, 1), false)).2)
            dsimp only at e3
            have hsm1 := smS_al (seg l s n) day (pathL (seg l s n) i) (((0, 1), 0, 1), false) smS_0
            have hsm2 := smS_al (seg l s n) day (pathL (seg l s n) k) (((0, 1), 0, 1), (alT (seg l s n) day (pathL (seg l s n) i) (((0, 1), 0, 1), false)).2) smS_0
            (repeat' ((try dsimp only); (try (conv => whnf)); first | (with_reducible first | refine And.intro ?_ ?_ | refine WX.of ?_) | exact zc | ((with_reducible refine VC.mk ?_); exact zw) | with_reducible refine atL_0 hu ?_ | with_reducible refine atL_0 hv ?_ | ((with_reducible refine splitT_of ?_ ?_); (focus (simp only [huv, hik, Bool.not_true, Bool.not_false, decide_true, decide_false]; done))) | ((with_reducible refine splitF_of ?_ ?_); (focus (simp only [huv, hik, Bool.not_true, Bool.not_false, decide_true, decide_false]; done))) | ((with_reducible refine VC.mk ?_); exact ⟨rfl, ⟨hq.1.1, hc⟩, hi, hd⟩) | ((with_reducible refine VC.mk ?_); exact ⟨rfl, ⟨hq.1.1, hc⟩, hk, hd⟩) | ((with_reducible refine VC.mk ?_); exact ⟨rfl, hsm1, hsm2⟩) | (with_reducible first | refine splitT ?_ | refine splitF ?_) | ((with_reducible refine splitM.mk (fun hsm => ?_) (fun hsm => ?_)) <;> (try exact zx)) | ((with_reducible refine splitB.mk (fun h => ?_) (fun h => ?_)) <;> (try simp only [zs, ne_eq] at h) <;> (try simp (disch := omega) only [w64] at h) <;> (try exact zx)) | (with_reducible intro hz; (try exact absurd hz (Nat.succ_ne_zero _)))))
            refine ⟨?_⟩
            rw [e3]
            rcases ht with ⟨hb, ho⟩ | ⟨hb, ho⟩
            · rw [← Bool.or_assoc] at hb
              rw [ho]; simp only [prE, hb, if_true]; rfl
            · rw [← Bool.or_assoc] at hb
              rw [ho]; simp only [prE, hb, Bool.false_eq_true, if_false]; rfl
          · have ht := df_tol1 (seg l s n) day (pathL (seg l s n) i) (pathL (seg l s n) k) hz0
            rw [← hds] at ht
            have hsdA : (seg (pathL (seg l s n) i) 0 (pathL (seg l s n) i).length).drop ((z : Nat) : Int).toNat = (pathL (seg l s n) i).drop z := by rw [hsA, Int.toNat_natCast]
            have hsdB : (seg (pathL (seg l s n) k) 0 (pathL (seg l s n) k).length).drop ((z : Nat) : Int).toNat = (pathL (seg l s n) k).drop z := by rw [hsB, Int.toNat_natCast]
            have e3 := alT_or (seg l s n) day ((pathL (seg l s n) k).drop z) (s00, (alT (seg l s n) day ((pathL (seg l s n) i).drop z) (s00, false)).2)
            dsimp only at e3
            obtain ⟨g, hg1⟩ := get_some (l := (pathL (seg l s n) i)) (i := z - 1) (by omega)
            have hgr := path_mem hc hi0.2 g (List.mem_of_getElem? hg1)
            have hgr1 : 0 ≤ g ∧ g < (seg l s n).length := by omega
            have hgr2 := ir_n hgr1 hL
            obtain ⟨⟨nm1, fr1, ⟨⟨p1, q1⟩, p1', q1'⟩, ⟨dp1, dq1⟩, md1, gd1⟩, hga, hgst, hgo⟩ := ch_z hc hgr1
            have hgdr := smF_ok hgo.dr
            dsimp only at hgdr
            have hWA' : ∀ j ∈ (pathL (seg l s n) i), 0 ≤ j ∧ j < (seg l s n).length := by rw [← hsA]; exact hWA
            have hWB' : ∀ j ∈ (pathL (seg l s n) k), 0 ≤ j ∧ j < (seg l s n).length := by rw [← hsB]; exact hWB
            have hda := dB hc hd hWA' z
            have hdb := dB hc hd hWB' z
            have hmx := mx_ok hda hdb
            rw [hg1] at ht
            dsimp only [Option.getD_some] at ht
            rw [hgst] at ht
            have hAl : (pathL (seg l s n) i).length ≤ 40 := by omega
            have hBl : (pathL (seg l s n) k).length ≤ 40 := by omega
            (repeat' ((try dsimp only); (try (conv => whnf)); first | (with_reducible first | refine And.intro ?_ ?_ | refine WX.of ?_) | exact zc | ((with_reducible refine VC.mk ?_); exact zw) | with_reducible refine atL_0 hu ?_ | with_reducible refine atL_0 hv ?_ | with_reducible refine atL_e (j := z - 1) (by simp (disch := omega) only [w64]; omega) hg1 ?_ | with_reducible refine atL_p (seg_get hga).1 ?_ | ((with_reducible refine splitT_of ?_ ?_); (focus (simp only [huv, hik, hz0, Int.natCast_eq_zero, Bool.not_true, Bool.not_false, decide_true, decide_false]; done))) | ((with_reducible refine splitF_of ?_ ?_); (focus (simp only [huv, hik, hz0, Int.natCast_eq_zero, Bool.not_true, Bool.not_false, decide_true, decide_false]; done))) | ((with_reducible refine VC.mk ?_); exact ⟨⟨hq.1.1, hc⟩, ⟨Nat.le_of_eq (Nat.zero_add _), hAl, hWA⟩, hd, Int.natCast_nonneg _, Int.ofNat_le.2 hz1⟩) | ((with_reducible refine VC.mk ?_); exact ⟨⟨hq.1.1, hc⟩, ⟨Nat.le_of_eq (Nat.zero_add _), hBl, hWB⟩, hd, Int.natCast_nonneg _, Int.ofNat_le.2 hz2⟩) | ((with_reducible refine VC.mk ?_); exact hgr2) | ((with_reducible refine VC.mk ?_); exact ⟨rfl, smS_al _ _ _ _ smS_0, smS_al _ _ _ _ smS_0⟩) | ((with_reducible refine VC.mk ?_); exact ⟨rfl, hgdr, by rw [hsdA, hsdB, hmx.1, hmx.2.1, hmx.2.2.1]; exact hmx.2.2.2.1⟩) | ((with_reducible refine VC.mk ?_); exact ⟨rfl, smS_mi _ _, smF_mu _ _⟩) | (with_reducible first | refine splitT ?_ | refine splitF ?_) | ((with_reducible refine splitM.mk (fun hsm => ?_) (fun hsm => ?_)) <;> (try exact zx)) | ((with_reducible refine splitB.mk (fun h => ?_) (fun h => ?_)) <;> (try simp only [zs, ne_eq] at h) <;> (try simp (disch := omega) only [w64] at h) <;> (try exact zx)) | (with_reducible intro hz; (try exact absurd hz (Nat.succ_ne_zero _)))))
            refine ⟨?_⟩
            rw [hsdA, hsdB, hmx.1, hmx.2.1, hmx.2.2.1, e3]
            unfold dfA drV drB at ht
            generalize alT (seg l s n) day ((pathL (seg l s n) i).drop z) (s00, false) = X at *
            generalize alT (seg l s n) day ((pathL (seg l s n) k).drop z) (s00, false) = Y at *
            rcases ht with ⟨hb, ho⟩ | ⟨hb, ho⟩
            · simp only [← Bool.or_assoc] at hb
              rw [ho]; simp only [prE, ← Bool.or_assoc, hb, if_true]; rfl
            · simp only [← Bool.or_assoc] at hb
              rw [ho]; simp only [prE, ← Bool.or_assoc, hb, Bool.false_eq_true, if_false]; rfl
      · rcases Nat.lt_or_ge z (pathL (seg l s n) i).length with hlt | hge
        · obtain ⟨u, hu⟩ := get_some (l := (pathL (seg l s n) i)) (i := z) hlt
          have hzB : z = (pathL (seg l s n) k).length := by omega
          have hst2 := cp_end (a := (pathL (seg l s n) i)) (b := (pathL (seg l s n) k)) (n := z) (.inr (by omega))
          rw [hst2, Nat.add_zero] at hz
          have hds : dfO (seg l s n) i k day = dfN (seg l s n) day (pathL (seg l s n) i) (pathL (seg l s n) k) z := by unfold dfO; rw [hz]
          by_cases hik : i = k
          · exact absurd hlt (by subst hik; omega)
          by_cases hz0 : z = 0
          · subst hz0
            have ht := df_tol0 (seg l s n) day (pathL (seg l s n) i) (pathL (seg l s n) k)
            rw [← hds] at ht
            have e1 : dfA (seg l s n) day (pathL (seg l s n) i) 0 = alT (seg l s n) day (pathL (seg l s n) i) (((0, 1), 0, 1), false) := rfl
            have e2 : dfA (seg l s n) day (pathL (seg l s n) k) 0 = alT (seg l s n) day (pathL (seg l s n) k) (((0, 1), 0, 1), false) := rfl
            rw [e1, e2] at ht
            have e3 := alT_or (seg l s n) day (pathL (seg l s n) k) (((0, 1), 0, 1), (alT (seg l s n) day (pathL (seg l s n) i) (((0, 1), 0, 1), false)).2)
            dsimp only at e3
            have hsm1 := smS_al (seg l s n) day (pathL (seg l s n) i) (((0, 1), 0, 1), false) smS_0
            have hsm2 := smS_al (seg l s n) day (pathL (seg l s n) k) (((0, 1), 0, 1), (alT (seg l s n) day (pathL (seg l s n) i) (((0, 1), 0, 1), false)).2) smS_0
            (repeat' ((try dsimp only); (try (conv => whnf)); first | (with_reducible first | refine And.intro ?_ ?_ | refine WX.of ?_) | exact zc | ((with_reducible refine VC.mk ?_); exact zw) | ((with_reducible refine splitT_of ?_ ?_); (focus (simp only [hik, Bool.not_true, Bool.not_false, decide_true, decide_false]; done))) | ((with_reducible refine splitF_of ?_ ?_); (focus (simp only [hik, Bool.not_true, Bool.not_false, decide_true, decide_false]; done))) | ((with_reducible refine VC.mk ?_); exact ⟨rfl, ⟨hq.1.1, hc⟩, hi, hd⟩) | ((with_reducible refine VC.mk ?_); exact ⟨rfl, ⟨hq.1.1, hc⟩, hk, hd⟩) | ((with_reducible refine VC.mk ?_); exact ⟨rfl, hsm1, hsm2⟩) | (with_reducible first | refine splitT ?_ | refine splitF ?_) | ((with_reducible refine splitM.mk (fun hsm => ?_) (fun hsm => ?_)) <;> (try exact zx)) | ((with_reducible refine splitB.mk (fun h => ?_) (fun h => ?_)) <;> (try simp only [zs, ne_eq] at h) <;> (try simp (disch := omega) only [w64] at h) <;> (try exact zx)) | (with_reducible intro hz; (try exact absurd hz (Nat.succ_ne_zero _)))))
            refine ⟨?_⟩
            rw [e3]
            rcases ht with ⟨hb, ho⟩ | ⟨hb, ho⟩
            · rw [← Bool.or_assoc] at hb
              rw [ho]; simp only [prE, hb, if_true]; rfl
            · rw [← Bool.or_assoc] at hb
              rw [ho]; simp only [prE, hb, Bool.false_eq_true, if_false]; rfl
          · have ht := df_tol1 (seg l s n) day (pathL (seg l s n) i) (pathL (seg l s n) k) hz0
            rw [← hds] at ht
            have hsdA : (seg (pathL (seg l s n) i) 0 (pathL (seg l s n) i).length).drop ((z : Nat) : Int).toNat = (pathL (seg l s n) i).drop z := by rw [hsA, Int.toNat_natCast]
            have hsdB : (seg (pathL (seg l s n) k) 0 (pathL (seg l s n) k).length).drop ((z : Nat) : Int).toNat = (pathL (seg l s n) k).drop z := by rw [hsB, Int.toNat_natCast]
            have e3 := alT_or (seg l s n) day ((pathL (seg l s n) k).drop z) (s00, (alT (seg l s n) day ((pathL (seg l s n) i).drop z) (s00, false)).2)
            dsimp only at e3
            obtain ⟨g, hg1⟩ := get_some (l := (pathL (seg l s n) i)) (i := z - 1) (by omega)
            have hgr := path_mem hc hi0.2 g (List.mem_of_getElem? hg1)
            have hgr1 : 0 ≤ g ∧ g < (seg l s n).length := by omega
            have hgr2 := ir_n hgr1 hL
            obtain ⟨⟨nm1, fr1, ⟨⟨p1, q1⟩, p1', q1'⟩, ⟨dp1, dq1⟩, md1, gd1⟩, hga, hgst, hgo⟩ := ch_z hc hgr1
            have hgdr := smF_ok hgo.dr
            dsimp only at hgdr
            have hWA' : ∀ j ∈ (pathL (seg l s n) i), 0 ≤ j ∧ j < (seg l s n).length := by rw [← hsA]; exact hWA
            have hWB' : ∀ j ∈ (pathL (seg l s n) k), 0 ≤ j ∧ j < (seg l s n).length := by rw [← hsB]; exact hWB
            have hda := dB hc hd hWA' z
            have hdb := dB hc hd hWB' z
            have hmx := mx_ok hda hdb
            rw [hg1] at ht
            dsimp only [Option.getD_some] at ht
            rw [hgst] at ht
            have hAl : (pathL (seg l s n) i).length ≤ 40 := by omega
            have hBl : (pathL (seg l s n) k).length ≤ 40 := by omega
            (repeat' ((try dsimp only); (try (conv => whnf)); first | (with_reducible first | refine And.intro ?_ ?_ | refine WX.of ?_) | exact zc | ((with_reducible refine VC.mk ?_); exact zw) | with_reducible refine atL_e (j := z - 1) (by simp (disch := omega) only [w64]; omega) hg1 ?_ | with_reducible refine atL_p (seg_get hga).1 ?_ | ((with_reducible refine splitT_of ?_ ?_); (focus (simp only [hik, hz0, Int.natCast_eq_zero, Bool.not_true, Bool.not_false, decide_true, decide_false]; done))) | ((with_reducible refine splitF_of ?_ ?_); (focus (simp only [hik, hz0, Int.natCast_eq_zero, Bool.not_true, Bool.not_false, decide_true, decide_false]; done))) | ((with_reducible refine VC.mk ?_); exact ⟨⟨hq.1.1, hc⟩, ⟨Nat.le_of_eq (Nat.zero_add _), hAl, hWA⟩, hd, Int.natCast_nonneg _, Int.ofNat_le.2 hz1⟩) | ((with_reducible refine VC.mk ?_); exact ⟨⟨hq.1.1, hc⟩, ⟨Nat.le_of_eq (Nat.zero_add _), hBl, hWB⟩, hd, Int.natCast_nonneg _, Int.ofNat_le.2 hz2⟩) | ((with_reducible refine VC.mk ?_); exact hgr2) | ((with_reducible refine VC.mk ?_); exact ⟨rfl, smS_al _ _ _ _ smS_0, smS_al _ _ _ _ smS_0⟩) | ((with_reducible refine VC.mk ?_); exact ⟨rfl, hgdr, by rw [hsdA, hsdB, hmx.1, hmx.2.1, hmx.2.2.1]; exact hmx.2.2.2.1⟩) | ((with_reducible refine VC.mk ?_); exact ⟨rfl, smS_mi _ _, smF_mu _ _⟩) | (with_reducible first | refine splitT ?_ | refine splitF ?_) | ((with_reducible refine splitM.mk (fun hsm => ?_) (fun hsm => ?_)) <;> (try exact zx)) | ((with_reducible refine splitB.mk (fun h => ?_) (fun h => ?_)) <;> (try simp only [zs, ne_eq] at h) <;> (try simp (disch := omega) only [w64] at h) <;> (try exact zx)) | (with_reducible intro hz; (try exact absurd hz (Nat.succ_ne_zero _)))))
            refine ⟨?_⟩
            rw [hsdA, hsdB, hmx.1, hmx.2.1, hmx.2.2.1, e3]
            unfold dfA drV drB at ht
            generalize alT (seg l s n) day ((pathL (seg l s n) i).drop z) (s00, false) = X at *
            generalize alT (seg l s n) day ((pathL (seg l s n) k).drop z) (s00, false) = Y at *
            rcases ht with ⟨hb, ho⟩ | ⟨hb, ho⟩
            · simp only [← Bool.or_assoc] at hb
              rw [ho]; simp only [prE, ← Bool.or_assoc, hb, if_true]; rfl
            · simp only [← Bool.or_assoc] at hb
              rw [ho]; simp only [prE, ← Bool.or_assoc, hb, Bool.false_eq_true, if_false]; rfl
        · have hzA : z = (pathL (seg l s n) i).length := by omega
          have hst2 := cp_end (a := (pathL (seg l s n) i)) (b := (pathL (seg l s n) k)) (n := z) (.inl (by omega))
          rw [hst2, Nat.add_zero] at hz
          have hds : dfO (seg l s n) i k day = dfN (seg l s n) day (pathL (seg l s n) i) (pathL (seg l s n) k) z := by unfold dfO; rw [hz]
          by_cases hik : i = k
          · have hds2 := df_same hc hi0 day
            subst hik
            rw [hds2]
            (repeat' ((try dsimp only); (try (conv => whnf)); first | (with_reducible first | refine And.intro ?_ ?_ | refine WX.of ?_) | exact zc | ((with_reducible refine VC.mk ?_); exact zw) | (with_reducible first | refine splitT ?_ | refine splitF ?_) | ((with_reducible refine splitM.mk (fun hsm => ?_) (fun hsm => ?_)) <;> (try exact zx)) | ((with_reducible refine splitB.mk (fun h => ?_) (fun h => ?_)) <;> (try simp only [zs, ne_eq] at h) <;> (try simp (disch := omega) only [w64] at h) <;> (try exact zx)) | (with_reducible intro hz; (try exact absurd hz (Nat.succ_ne_zero _)))))
          by_cases hz0 : z = 0
          · subst hz0
            have ht := df_tol0 (seg l s n) day (pathL (seg l s n) i) (pathL (seg l s n) k)
            rw [← hds] at ht
            have e1 : dfA (seg l s n) day (pathL (seg l s n) i) 0 = alT (seg l s n) day (pathL (seg l s n) i) (((0, 1), 0, 1), false) := rfl
            have e2 : dfA (seg l s n) day (pathL (seg l s n) k) 0 = alT (seg l s n) day (pathL (seg l s n) k) (((0, 1), 0, 1), false) := rfl
            rw [e1, e2] at ht
            have e3 := alT_or (seg l s n) day (pathL (seg l s n) k) (((0, 1), 0, 1), (alT (seg l s n) day (pathL (seg l s n) i) (((0, 1), 0, 1), false)).2)
            dsimp only at e3
            have hsm1 := smS_al (seg l s n) day (pathL (seg l s n) i) (((0, 1), 0, 1), false) smS_0
            have hsm2 := smS_al (seg l s n) day (pathL (seg l s n) k) (((0, 1), 0, 1), (alT (seg l s n) day (pathL (seg l s n) i) (((0, 1), 0, 1), false)).2) smS_0
            (repeat' ((try dsimp only); (try (conv => whnf)); first | (with_reducible first | refine And.intro ?_ ?_ | refine WX.of ?_) | exact zc | ((with_reducible refine VC.mk ?_); exact zw) | ((with_reducible refine splitT_of ?_ ?_); (focus (simp only [hik, Bool.not_true, Bool.not_false, decide_true, decide_false]; done))) | ((with_reducible refine splitF_of ?_ ?_); (focus (simp only [hik, Bool.not_true, Bool.not_false, decide_true, decide_false]; done))) | ((with_reducible refine VC.mk ?_); exact ⟨rfl, ⟨hq.1.1, hc⟩, hi, hd⟩) | ((with_reducible refine VC.mk ?_); exact ⟨rfl, ⟨hq.1.1, hc⟩, hk, hd⟩) | ((with_reducible refine VC.mk ?_); exact ⟨rfl, hsm1, hsm2⟩) | (with_reducible first | refine splitT ?_ | refine splitF ?_) | ((with_reducible refine splitM.mk (fun hsm => ?_) (fun hsm => ?_)) <;> (try exact zx)) | ((with_reducible refine splitB.mk (fun h => ?_) (fun h => ?_)) <;> (try simp only [zs, ne_eq] at h) <;> (try simp (disch := omega) only [w64] at h) <;> (try exact zx)) | (with_reducible intro hz; (try exact absurd hz (Nat.succ_ne_zero _)))))
            refine ⟨?_⟩
            rw [e3]
            rcases ht with ⟨hb, ho⟩ | ⟨hb, ho⟩
            · rw [← Bool.or_assoc] at hb
              rw [ho]; simp only [prE, hb, if_true]; rfl
            · rw [← Bool.or_assoc] at hb
              rw [ho]; simp only [prE, hb, Bool.false_eq_true, if_false]; rfl
          · have ht := df_tol1 (seg l s n) day (pathL (seg l s n) i) (pathL (seg l s n) k) hz0
            rw [← hds] at ht
            have hsdA : (seg (pathL (seg l s n) i) 0 (pathL (seg l s n) i).length).drop ((z : Nat) : Int).toNat = (pathL (seg l s n) i).drop z := by rw [hsA, Int.toNat_natCast]
            have hsdB : (seg (pathL (seg l s n) k) 0 (pathL (seg l s n) k).length).drop ((z : Nat) : Int).toNat = (pathL (seg l s n) k).drop z := by rw [hsB, Int.toNat_natCast]
            have e3 := alT_or (seg l s n) day ((pathL (seg l s n) k).drop z) (s00, (alT (seg l s n) day ((pathL (seg l s n) i).drop z) (s00, false)).2)
            dsimp only at e3
            obtain ⟨g, hg1⟩ := get_some (l := (pathL (seg l s n) i)) (i := z - 1) (by omega)
            have hgr := path_mem hc hi0.2 g (List.mem_of_getElem? hg1)
            have hgr1 : 0 ≤ g ∧ g < (seg l s n).length := by omega
            have hgr2 := ir_n hgr1 hL
            obtain ⟨⟨nm1, fr1, ⟨⟨p1, q1⟩, p1', q1'⟩, ⟨dp1, dq1⟩, md1, gd1⟩, hga, hgst, hgo⟩ := ch_z hc hgr1
            have hgdr := smF_ok hgo.dr
            dsimp only at hgdr
            have hWA' : ∀ j ∈ (pathL (seg l s n) i), 0 ≤ j ∧ j < (seg l s n).length := by rw [← hsA]; exact hWA
            have hWB' : ∀ j ∈ (pathL (seg l s n) k), 0 ≤ j ∧ j < (seg l s n).length := by rw [← hsB]; exact hWB
            have hda := dB hc hd hWA' z
            have hdb := dB hc hd hWB' z
            have hmx := mx_ok hda hdb
            rw [hg1] at ht
            dsimp only [Option.getD_some] at ht
            rw [hgst] at ht
            have hAl : (pathL (seg l s n) i).length ≤ 40 := by omega
            have hBl : (pathL (seg l s n) k).length ≤ 40 := by omega
            (repeat' ((try dsimp only); (try (conv => whnf)); first | (with_reducible first | refine And.intro ?_ ?_ | refine WX.of ?_) | exact zc | ((with_reducible refine VC.mk ?_); exact zw) | with_reducible refine atL_e (j := z - 1) (by simp (disch := omega) only [w64]; omega) hg1 ?_ | with_reducible refine atL_p (seg_get hga).1 ?_ | ((with_reducible refine splitT_of ?_ ?_); (focus (simp only [hik, hz0, Int.natCast_eq_zero, Bool.not_true, Bool.not_false, decide_true, decide_false]; done))) | ((with_reducible refine splitF_of ?_ ?_); (focus (simp only [hik, hz0, Int.natCast_eq_zero, Bool.not_true, Bool.not_false, decide_true, decide_false]; done))) | ((with_reducible refine VC.mk ?_); exact ⟨⟨hq.1.1, hc⟩, ⟨Nat.le_of_eq (Nat.zero_add _), hAl, hWA⟩, hd, Int.natCast_nonneg _, Int.ofNat_le.2 hz1⟩) | ((with_reducible refine VC.mk ?_); exact ⟨⟨hq.1.1, hc⟩, ⟨Nat.le_of_eq (Nat.zero_add _), hBl, hWB⟩, hd, Int.natCast_nonneg _, Int.ofNat_le.2 hz2⟩) | ((with_reducible refine VC.mk ?_); exact hgr2) | ((with_reducible refine VC.mk ?_); exact ⟨rfl, smS_al _ _ _ _ smS_0, smS_al _ _ _ _ smS_0⟩) | ((with_reducible refine VC.mk ?_); exact ⟨rfl, hgdr, by rw [hsdA, hsdB, hmx.1, hmx.2.1, hmx.2.2.1]; exact hmx.2.2.2.1⟩) | ((with_reducible refine VC.mk ?_); exact ⟨rfl, smS_mi _ _, smF_mu _ _⟩) | (with_reducible first | refine splitT ?_ | refine splitF ?_) | ((with_reducible refine splitM.mk (fun hsm => ?_) (fun hsm => ?_)) <;> (try exact zx)) | ((with_reducible refine splitB.mk (fun h => ?_) (fun h => ?_)) <;> (try simp only [zs, ne_eq] at h) <;> (try simp (disch := omega) only [w64] at h) <;> (try exact zx)) | (with_reducible intro hz; (try exact absurd hz (Nat.succ_ne_zero _)))))
            refine ⟨?_⟩
            rw [hsdA, hsdB, hmx.1, hmx.2.1, hmx.2.2.1, e3]
            unfold dfA drV drB at ht
            generalize alT (seg l s n) day ((pathL (seg l s n) i).drop z) (s00, false) = X at *
            generalize alT (seg l s n) day ((pathL (seg l s n) k).drop z) (s00, false) = Y at *
            rcases ht with ⟨hb, ho⟩ | ⟨hb, ho⟩
            · simp only [← Bool.or_assoc] at hb
              rw [ho]; simp only [prE, ← Bool.or_assoc, hb, if_true]; rfl
            · simp only [← Bool.or_assoc] at hb
              rw [ho]; simp only [prE, ← Bool.or_assoc, hb, Bool.false_eq_true, if_false]; rfl
end Go.Proofs.Ytonnkpclllmkoaa.Eng
set_option linter.unusedVariables false
set_option linter.unusedSimpArgs false
namespace Go.Proofs.Ytonnkpclllmkoaa.Eng
open Go Go.RowKit
set_option maxRecDepth 100000
def s_begin : Spec := fun args S => match args, S with
  | [.sl 0 s n x, .sl 1 t m y, .int .i64 day], [.arr (.prod .str (.prod (.int .i64) (.prod (.prod (.prod (.int .i64) (.int .i64)) (.prod (.int .i64) (.int .i64))) (.prod (.prod (.int .i64) (.int .i64)) (.prod (.int .i64) (.int .i64)))))) l 10 wr, .arr (.int .i64) w 1 ww] => ⟨(s + n ≤ l.length ∧ chB (seg l s n) = true) ∧ (t + m ≤ w.length ∧ m ≤ 40 ∧ ∀ j ∈ seg w t m, 0 ≤ j ∧ j < (seg l s n).length), .int .i64 (nxD (seg l s n) day (seg w t m)), [.arr (.prod .str (.prod (.int .i64) (.prod (.prod (.prod (.int .i64) (.int .i64)) (.prod (.int .i64) (.int .i64))) (.prod (.prod (.int .i64) (.int .i64)) (.prod (.int .i64) (.int .i64)))))) l 10 wr, .arr (.int .i64) w 1 ww]⟩
  | _, _ => noSpec
theorem ok_l05Begin : SpecOk Try.prog 98 s_begin := by
  intro args S h; unfold s_begin at h ⊢; (split at h <;> first | exact False.elim h | skip)
  dsimp only at h ⊢
  rename_i s n x t m y day l wr w ww
  obtain ⟨⟨h1, hc⟩, ⟨h3, h4, hW⟩⟩ := h
  have hL := seg_len h1
  have hM := seg_len h3
  by_cases hm : m = 0
  · have e : seg w t m = [] := List.eq_nil_of_length_eq_zero (by omega)
    rw [e]
    subst hm
    refine funW tabOk (E := []) trivial [] (k := 2) (fn := Try.f98) rfl rfl rfl rfl rfl rfl ?_
    (repeat' ((try (conv => whnf)); first | (with_reducible first | refine And.intro ?_ ?_ | refine WX.of ?_) | exact zc | ((with_reducible refine VC.mk ?_); exact zw) | (with_reducible first | refine splitT ?_ | refine splitF ?_) | ((with_reducible refine splitM.mk (fun hsm => ?_) (fun hsm => ?_)) <;> (try exact zx)) | ((with_reducible refine splitB.mk (fun h => ?_) (fun h => ?_)) <;> (try simp only [zs, ne_eq] at h) <;> (try simp (disch := omega) only [w64] at h) <;> (try exact zx)) | (with_reducible intro hz; (try exact absurd hz (Nat.succ_ne_zero _)))))
  · obtain ⟨i, hi⟩ := get_some (l := seg w t m) (i := 0) (by omega)
    have hir := hW i (List.mem_of_getElem? hi)
    have hir' := ir_n hir hL
    obtain ⟨⟨nm, fr, ⟨⟨p, q⟩, p', q'⟩, ⟨dp, dq⟩, md, gd⟩, ha, hst, ho⟩ := ch_z hc hir
    have e : nxD (seg l s n) day (seg w t m) = md := by
      have := drop_at hi
      rw [List.drop_zero] at this
      rw [this]; show stMd _ = md; rw [hst]; rfl
    rw [e]
    have hmz : ¬ (m : Int) = 0 := by omega
    refine funW tabOk (E := []) trivial [] (k := 2) (fn := Try.f98) rfl rfl rfl rfl rfl rfl ?_
    have hi2 : w[t + (0 : Int).toNat]? = some i := by simpa using (seg_get hi).1
    (repeat' ((try (conv => whnf)); first | (with_reducible first | refine And.intro ?_ ?_ | refine WX.of ?_) | exact zc | ((with_reducible refine VC.mk ?_); exact zw) | with_reducible refine atL_p hi2 ?_ | with_reducible refine atL_p (seg_get ha).1 ?_ | ((with_reducible refine splitT_of ?_ ?_); (focus (simp only [hmz, Bool.not_true, Bool.not_false, decide_true, decide_false]; done))) | ((with_reducible refine splitF_of ?_ ?_); (focus (simp only [hmz, Bool.not_true, Bool.not_false, decide_true, decide_false]; done))) | ((with_reducible refine VC.mk ?_); exact hir') | (with_reducible first | refine splitT ?_ | refine splitF ?_) | ((with_reducible refine splitM.mk (fun hsm => ?_) (fun hsm => ?_)) <;> (try exact zx)) | ((with_reducible refine splitB.mk (fun h => ?_) (fun h => ?_)) <;> (try simp only [zs, ne_eq] at h) <;> (try simp (disch := omega) only [w64] at h) <;> (try exact zx)) | (with_reducible intro hz; (try exact absurd hz (Nat.succ_ne_zero _)))))
theorem df_1 {L : List StT} {day : Int} {a b : List Int} {n : Nat} (h : ¬ oCS (alO L day (a.drop n) s00) = 0) : dfN L day a b n = none ∧ oCS (alO L day (a.drop n) s00) = 3 := by
  have := oCS_n h
  unfold dfN; rw [this]; exact ⟨rfl, rfl⟩
theorem df_2 {L : List StT} {day : Int} {a b : List Int} {n : Nat} {s : SpT} (h : alO L day (a.drop n) s00 = some s) (h2 : ¬ oCS (alO L day (b.drop n) s00) = 0) : dfN L day a b n = none ∧ oCS (alO L day (b.drop n) s00) = 3 := by
  have := oCS_n h2
  unfold dfN; rw [h, this]; exact ⟨rfl, rfl⟩
theorem df_3 {L : List StT} {day : Int} {a b : List Int} {n : Nat} {s t : SpT} (h : alO L day (a.drop n) s00 = some s) (h2 : alO L day (b.drop n) s00 = some t) (h3 : ¬ oCS (miO s t) = 0) : dfN L day a b n = none ∧ oCS (miO s t) = 3 := by
  have := oCS_n h3
  unfold dfN; rw [h, h2]; simp only [Option.bind_some]; rw [this]; exact ⟨rfl, rfl⟩
theorem df_4 {L : List StT} {day : Int} {a b : List Int} {s t : SpT} (h : alO L day (a.drop 0) s00 = some s) (h2 : alO L day (b.drop 0) s00 = some t) : dfN L day a b 0 = miO s t := by
  unfold dfN; rw [h, h2]; simp
theorem df_5 {L : List StT} {day : Int} {a b : List Int} {n : Nat} {s t d : SpT} (h : alO L day (a.drop n) s00 = some s) (h2 : alO L day (b.drop n) s00 = some t) (h3 : miO s t = some d) (hn : ¬ n = 0) : dfN L day a b n = drO d (stAt L ((a[n - 1]?).getD 0)).2.2.2.1 (absZ (nxD L day (a.drop n) - nxD L day (b.drop n))) := by
  unfold dfN; rw [h, h2]; simp only [Option.bind_some, h3]; rw [if_neg hn]
theorem smS_alO {L : List StT} {day : Int} : ∀ {W : List Int} {s v : SpT}, smS s → alO L day W s = some v → smS v
  | [], s, v, hs, e => by obtain rfl := Option.some.inj e; exact hs
  | i :: W, s, v, hs, e => by
    rw [alO] at e
    obtain ⟨u, h1, e⟩ := Option.bind_eq_some_iff.1 e
    refine smS_alO ?_ e
    unfold alO1 at h1
    obtain ⟨w, _, h1⟩ := Option.bind_eq_some_iff.1 h1
    exact smS_drO h1
theorem sd_A {W : List Int} {z : Nat} {y : Nat} (h : y = z) : seg W (0 + y) (W.length - y) = W.drop z := by subst h; rw [Nat.zero_add]; unfold seg; rw [List.take_of_length_le (by simp)]
def s_l05Diff : Spec := fun args S => match args, S with
  | [.sl 0 s n x, .int .i64 i, .int .i64 k, .int .i64 day], [.arr (.prod .str (.prod (.int .i64) (.prod (.prod (.prod (.int .i64) (.int .i64)) (.prod (.int .i64) (.int .i64))) (.prod (.prod (.int .i64) (.int .i64)) (.prod (.int .i64) (.int .i64)))))) l 10 wr] => ⟨(s + n ≤ l.length ∧ chB (seg l s n) = true) ∧ (0 ≤ i ∧ i < n) ∧ (0 ≤ k ∧ k < n) ∧ 0 ≤ day ∧ day ≤ 100000, .tup [.agg [.int .i64 (coV 0 (gdB (stAt (seg l s n) i) day && gdB (stAt (seg l s n) k) day) (dfO (seg l s n) i k day)).1.1, .int .i64 (coV 0 (gdB (stAt (seg l s n) i) day && gdB (stAt (seg l s n) k) day) (dfO (seg l s n) i k day)).1.2, .int .i64 (coV 0 (gdB (stAt (seg l s n) i) day && gdB (stAt (seg l s n) k) day) (dfO (seg l s n) i k day)).2.1, .int .i64 (coV 0 (gdB (stAt (seg l s n) i) day && gdB (stAt (seg l s n) k) day) (dfO (seg l s n) i k day)).2.2], .int .i64 (coC 0 (gdB (stAt (seg l s n) i) day && gdB (stAt (seg l s n) k) day) (dfO (seg l s n) i k day))], [.arr (.prod .str (.prod (.int .i64) (.prod (.prod (.prod (.int .i64) (.int .i64)) (.prod (.int .i64) (.int .i64))) (.prod (.prod (.int .i64) (.int .i64)) (.prod (.int .i64) (.int .i64)))))) l 10 wr]⟩
  | _, _ => noSpec
set_option maxHeartbeats 3200000 in
theorem ok_l05Diff : SpecOk Try.prog 44 s_l05Diff := by
  intro args S h; unfold s_l05Diff at h ⊢; (split at h <;> first | exact False.elim h | skip)
  dsimp only at h ⊢
  rename_i s n x i k day l wr
  obtain ⟨⟨h1, hc⟩, hi, hk, hd⟩ := h
  have hL := seg_len h1
  have hi0 : 0 ≤ i ∧ i < (seg l s n).length := by omega
  have hk0 : 0 ≤ k ∧ k < (seg l s n).length := by omega
  obtain ⟨a, ha, hst, ho⟩ := ch_z hc hi0
  obtain ⟨b, hb, hst0, ho0⟩ := ch_z hc hk0
  have hla := (seg_get ha).1
  have hlb := (seg_get hb).1
  have hgo : s + i.toNat < l.length ∧ (0 ≤ ((l[s + i.toNat]?).getD stD).2.2.2.2.1 ∧ ((l[s + i.toNat]?).getD stD).2.2.2.2.1 ≤ 100000) ∧ 0 ≤ ((l[s + i.toNat]?).getD stD).2.2.2.2.2 ∧ ((l[s + i.toNat]?).getD stD).2.2.2.2.2 ≤ 100000 := by
    rw [hla]; exact ⟨(List.getElem?_eq_some_iff.1 hla).1, ho.md, ho.gd⟩
  have hgo0 : s + k.toNat < l.length ∧ (0 ≤ ((l[s + k.toNat]?).getD stD).2.2.2.2.1 ∧ ((l[s + k.toNat]?).getD stD).2.2.2.2.1 ≤ 100000) ∧ 0 ≤ ((l[s + k.toNat]?).getD stD).2.2.2.2.2 ∧ ((l[s + k.toNat]?).getD stD).2.2.2.2.2 ≤ 100000 := by
    rw [hlb]; exact ⟨(List.getElem?_eq_some_iff.1 hlb).1, ho0.md, ho0.gd⟩
  have hga : ((l[s + i.toNat]?).getD stD) = stAt (seg l s n) i := by rw [hla, hst]; rfl
  have hgb : ((l[s + k.toNat]?).getD stD) = stAt (seg l s n) k := by rw [hlb, hst0]; rfl
  rw [← hga, ← hgb]
  cases hg : (gdB ((l[s + i.toNat]?).getD stD) day && gdB ((l[s + k.toNat]?).getD stD) day) with
  | false =>
    rw [(co_2 rfl).1, (co_2 rfl).2]
    refine funW tabOk (E := [(92, s_l05Good)]) ⟨ok_l05Good, trivial⟩ [(8, [(3, 1), (10, 0), (10, 1)]), (11, [(3, 1), (10, 0), (10, 1)]), (17, [(9, 0)])] (k := 1) (fn := Try.f44) rfl rfl rfl rfl rfl rfl ?_
    (repeat' ((try (conv => whnf)); first | (with_reducible first | refine And.intro ?_ ?_ | refine WX.of ?_) | exact zc | ((with_reducible refine VC.mk ?_); exact zw) | ((with_reducible refine VC.mk ?_); exact hi) | ((with_reducible refine VC.mk ?_); exact hk) | ((with_reducible refine VC.mk ?_); exact hgo) | ((with_reducible refine VC.mk ?_); exact hgo0) | (with_reducible first | refine splitT ?_ | refine splitF ?_) | ((with_reducible refine splitM.mk (fun hsm => ?_) (fun hsm => ?_)) <;> (try exact zx)) | ((with_reducible refine splitB.mk (fun h => ?_) (fun h => ?_)) <;> (try simp only [zs, ne_eq] at h) <;> (try simp (disch := omega) only [w64] at h) <;> (try exact zx)) | (with_reducible intro hz; (try exact absurd hz (Nat.succ_ne_zero _)))))
    rename_i hx
    rw [hx, h] at hg
    simp at hg
  | true =>
    rw [(co_3 rfl).1, (co_3 rfl).2]
    rw [Bool.and_eq_true] at hg
    have hpa := path_30 hc hi0.2
    have hpb := path_30 hc hk0.2
    have hsA := seg_all (pathL (seg l s n) i)
    have hsB := seg_all (pathL (seg l s n) k)
    have hcl := cp_le (pathL (seg l s n) i) (pathL (seg l s n) k)
    have hWA' : ∀ j ∈ (pathL (seg l s n) i), 0 ≤ j ∧ j < (seg l s n).length := fun j hj => by have := path_mem hc hi0.2 j hj; omega
    have hWB' : ∀ j ∈ (pathL (seg l s n) k), 0 ≤ j ∧ j < (seg l s n).length := fun j hj => by have := path_mem hc hk0.2 j hj; omega
    refine funW tabOk (E := [(92, s_l05Good), (93, s_path), (95, s_none), (94, s_alongS), (96, s_agst), (98, s_begin), (97, s_abs), (99, s_wider)]) ⟨ok_l05Good, ok_l05Path, ok_l05Nothing, ok_l05Along, ok_l01Against, ok_l05Begin, ok_l01Abs, ok_l05Wider, trivial⟩ [(8, [(3, 1), (10, 0), (10, 1)]), (11, [(3, 1), (10, 0), (10, 1)]), (17, [(9, 0)])] (k := 1) (fn := Try.f44) rfl rfl rfl rfl rfl rfl ?_
    (repeat' ((try (conv => whnf)); first | (with_reducible first | refine And.intro ?_ ?_ | refine WX.of ?_) | exact zc | ((with_reducible refine VC.mk ?_); exact zw) | ((with_reducible refine VC.mk ?_); exact hi) | ((with_reducible refine VC.mk ?_); exact hk) | ((with_reducible refine VC.mk ?_); exact hgo) | ((with_reducible refine VC.mk ?_); exact hgo0) | ((with_reducible refine VC.mk ?_); exact ⟨h1, hc, hi.2⟩) | ((with_reducible refine VC.mk ?_); exact ⟨h1, hc, hk.2⟩) | ((with_reducible refine splitT_of ?_ ?_); (focus (simp only [hg.1, hg.2, Bool.not_true, Bool.not_false, decide_true, decide_false]; done))) | ((with_reducible refine splitF_of ?_ ?_); (focus (simp only [hg.1, hg.2, Bool.not_true, Bool.not_false, decide_true, decide_false]; done))) | (with_reducible first | refine splitT ?_ | refine splitF ?_) | ((with_reducible refine splitM.mk (fun hsm => ?_) (fun hsm => ?_)) <;> (try exact zx)) | ((with_reducible refine splitB.mk (fun h => ?_) (fun h => ?_)) <;> (try simp only [zs, ne_eq] at h) <;> (try simp (disch := omega) only [w64] at h) <;> (try exact zx)) | (with_reducible intro hz; (try exact absurd hz (Nat.succ_ne_zero _)))))
    refine loopW tabOk (E := [(92, s_l05Good), (93, s_path), (95, s_none), (94, s_alongS), (96, s_agst), (98, s_begin), (97, s_abs), (99, s_wider)]) ⟨ok_l05Good, ok_l05Path, ok_l05Nothing, ok_l05Along, ok_l01Against, ok_l05Begin, ok_l01Abs, ok_l05Wider, trivial⟩ [(8, [(3, 1), (10, 0), (10, 1)]), (11, [(3, 1), (10, 0), (10, 1)]), (17, [(9, 0)])] (σ := Nat) (fun z => [(0, .sl 0 s n x), (1, .int .i64 i), (2, .int .i64 k), (3, .int .i64 day), (8, .ptr 1 0 0), (9, .int .i64 0), (10, .sl 2 0 (pathL (seg l s n) i).length 0), (11, .sl 3 0 (pathL (seg l s n) k).length 0), (12, .int .i64 z)]) (fun z => [.arr (.prod .str (.prod (.int .i64) (.prod (.prod (.prod (.int .i64) (.int .i64)) (.prod (.int .i64) (.int .i64))) (.prod (.prod (.int .i64) (.int .i64)) (.prod (.int .i64) (.int .i64)))))) l 10 wr, .arr (.prod (.prod (.int .i64) (.int .i64)) (.prod (.int .i64) (.int .i64))) [((0, 0), 0, 0)] 0 true, .arr (.int .i64) (pathL (seg l s n) i) 1 true, .arr (.int .i64) (pathL (seg l s n) k) 1 true]) (fun z => (pathL (seg l s n) i).length - z) (fun z => z ≤ (pathL (seg l s n) i).length ∧ z ≤ (pathL (seg l s n) k).length ∧ cpN (pathL (seg l s n) i) (pathL (seg l s n) k) = z + cpN ((pathL (seg l s n) i).drop z) ((pathL (seg l s n) k).drop z)) 0 ⟨Nat.zero_le _, Nat.zero_le _, by simp⟩ ?_ ?_
    · (repeat' ((try (conv => whnf)); first | (with_reducible first | refine And.intro ?_ ?_ | refine WX.of ?_) | exact zc | ((with_reducible refine VC.mk ?_); exact zw) | (with_reducible first | refine splitT ?_ | refine splitF ?_) | ((with_reducible refine splitM.mk (fun hsm => ?_) (fun hsm => ?_)) <;> (try exact zx)) | ((with_reducible refine splitB.mk (fun h => ?_) (fun h => ?_)) <;> (try simp only [zs, ne_eq] at h) <;> (try simp (disch := omega) only [w64] at h) <;> (try exact zx)) | (with_reducible intro hz; (try exact absurd hz (Nat.succ_ne_zero _)))))
    · intro z ⟨hz1, hz2, hz⟩
      by_cases hstop : z < (pathL (seg l s n) i).length ∧ z < (pathL (seg l s n) k).length
      · obtain ⟨u, hu⟩ := get_some (l := (pathL (seg l s n) i)) (i := z) hstop.1
        obtain ⟨v, hv⟩ := get_some (l := (pathL (seg l s n) k)) (i := z) hstop.2
        by_cases huv : u = v
        · subst huv
          have hst2 := cp_step hu hv
          (repeat' ((try (conv => whnf)); first | (with_reducible first | refine And.intro ?_ ?_ | refine WX.of ?_) | exact zc | ((with_reducible refine VC.mk ?_); exact zw) | with_reducible refine atL_0 hu ?_ | with_reducible refine atL_0 hv ?_ | (with_reducible first | refine splitT ?_ | refine splitF ?_) | ((with_reducible refine splitM.mk (fun hsm => ?_) (fun hsm => ?_)) <;> (try exact zx)) | ((with_reducible refine splitB.mk (fun h => ?_) (fun h => ?_)) <;> (try simp only [zs, ne_eq] at h) <;> (try simp (disch := omega) only [w64] at h) <;> (try exact zx)) | (with_reducible intro hz; (try exact absurd hz (Nat.succ_ne_zero _)))))
          refine ⟨z + 1, by omega, ⟨hstop.1, hstop.2, by omega⟩, ?_⟩
          (repeat' ((try (conv => whnf)); first | (with_reducible first | refine And.intro ?_ ?_ | refine WX.of ?_) | exact zc | ((with_reducible refine VC.mk ?_); exact zw) | (with_reducible first | refine splitT ?_ | refine splitF ?_) | ((with_reducible refine splitM.mk (fun hsm => ?_) (fun hsm => ?_)) <;> (try exact zx)) | ((with_reducible refine splitB.mk (fun h => ?_) (fun h => ?_)) <;> (try simp only [zs, ne_eq] at h) <;> (try simp (disch := omega) only [w64] at h) <;> (try exact zx)) | (with_reducible intro hz; (try exact absurd hz (Nat.succ_ne_zero _)))))
        · have hst2 := cp_stop hu hv huv
          rw [hst2, Nat.add_zero] at hz
          have hds : dfO (seg l s n) i k day = dfN (seg l s n) day (pathL (seg l s n) i) (pathL (seg l s n) k) z := by unfold dfO; rw [hz]
          have hzn : ((z : Nat) : Int).toNat = z := Int.toNat_natCast z
          have hsdA := sd_A (W := (pathL (seg l s n) i)) hzn
          have hsdB := sd_A (W := (pathL (seg l s n) k)) hzn
          have hrA : 0 + ((z : Nat) : Int).toNat + ((pathL (seg l s n) i).length - ((z : Nat) : Int).toNat) ≤ (pathL (seg l s n) i).length ∧ (pathL (seg l s n) i).length - ((z : Nat) : Int).toNat ≤ 40 ∧ ∀ j ∈ seg (pathL (seg l s n) i) (0 + ((z : Nat) : Int).toNat) ((pathL (seg l s n) i).length - ((z : Nat) : Int).toNat), 0 ≤ j ∧ j < (seg l s n).length := ⟨by omega, by omega, fun j hj => hWA' j (by rw [hsdA] at hj; exact List.mem_of_mem_drop hj)⟩
          have hrB : 0 + ((z : Nat) : Int).toNat + ((pathL (seg l s n) k).length - ((z : Nat) : Int).toNat) ≤ (pathL (seg l s n) k).length ∧ (pathL (seg l s n) k).length - ((z : Nat) : Int).toNat ≤ 40 ∧ ∀ j ∈ seg (pathL (seg l s n) k) (0 + ((z : Nat) : Int).toNat) ((pathL (seg l s n) k).length - ((z : Nat) : Int).toNat), 0 ≤ j ∧ j < (seg l s n).length := ⟨by omega, by omega, fun j hj => hWB' j (by rw [hsdB] at hj; exact List.mem_of_mem_drop hj)⟩
          have hzA : 0 ≤ ((z : Nat) : Int) ∧ ((z : Nat) : Int) ≤ (pathL (seg l s n) i).length := ⟨Int.natCast_nonneg _, Int.ofNat_le.2 hz1⟩
          have hzB : 0 ≤ ((z : Nat) : Int) ∧ ((z : Nat) : Int) ≤ (pathL (seg l s n) k).length := ⟨Int.natCast_nonneg _, Int.ofNat_le.2 hz2⟩
          rw [hds]
          by_cases c1 : oCS (alO (seg l s n) day ((pathL (seg l s n) i).drop z) s00) = 0
          rotate_left 1
          · have c1' := df_1 (b := (pathL (seg l s n) k)) c1
            rw [c1'.1]
            rw [← hsdA] at c1 c1'
            have c1 : ¬ oCS (alO (seg l s n) day (seg (pathL (seg l s n) i) (0 + ((z : Nat) : Int).toNat) ((pathL (seg l s n) i).length - ((z : Nat) : Int).toNat)) ((0, 1), 0, 1)) = 0 := c1
            (repeat' ((try dsimp only); (try (conv => whnf)); first | (with_reducible first | refine And.intro ?_ ?_ | refine WX.of ?_) | exact zc | ((with_reducible refine VC.mk ?_); exact zw) | with_reducible refine atL_0 hu ?_ | with_reducible refine atL_0 hv ?_ | ((with_reducible refine splitT_of ?_ ?_); (focus (simp only [huv, c1, Bool.not_true, Bool.not_false, decide_true, decide_false]; done))) | ((with_reducible refine splitF_of ?_ ?_); (focus (simp only [huv, c1, Bool.not_true, Bool.not_false, decide_true, decide_false]; done))) | ((with_reducible refine VC.mk ?_); exact hzA) | ((with_reducible refine VC.mk ?_); exact ⟨⟨h1, hc⟩, hrA, hd, smS_0⟩) | (with_reducible first | refine splitT ?_ | refine splitF ?_) | ((with_reducible refine splitM.mk (fun hsm => ?_) (fun hsm => ?_)) <;> (try exact zx)) | ((with_reducible refine splitB.mk (fun h => ?_) (fun h => ?_)) <;> (try simp only [zs, ne_eq] at h) <;> (try simp (disch := omega) only [w64] at h) <;> (try exact zx)) | (with_reducible intro hz; (try exact absurd hz (Nat.succ_ne_zero _)))))
            have e3 : oCS (alO (seg l s n) day (seg (pathL (seg l s n) i) (0 + ((z : Nat) : Int).toNat) ((pathL (seg l s n) i).length - ((z : Nat) : Int).toNat)) ((0, 1), 0, 1)) = 3 := c1'.2
            exact ⟨by rw [e3]; rfl⟩
          obtain ⟨v1, hv1⟩ := oCS_s c1
          by_cases c2 : oCS (alO (seg l s n) day ((pathL (seg l s n) k).drop z) s00) = 0
          rotate_left 1
          · have c2' := df_2 hv1 c2
            rw [c2'.1]
            rw [← hsdA] at c1
            rw [← hsdB] at c2 c2'
            have c1 : oCS (alO (seg l s n) day (seg (pathL (seg l s n) i) (0 + ((z : Nat) : Int).toNat) ((pathL (seg l s n) i).length - ((z : Nat) : Int).toNat)) ((0, 1), 0, 1)) = 0 := c1
            have c2 : ¬ oCS (alO (seg l s n) day (seg (pathL (seg l s n) k) (0 + ((z : Nat) : Int).toNat) ((pathL (seg l s n) k).length - ((z : Nat) : Int).toNat)) ((0, 1), 0, 1)) = 0 := c2
            (repeat' ((try dsimp only); (try (conv => whnf)); first | (with_reducible first | refine And.intro ?_ ?_ | refine WX.of ?_) | exact zc | ((with_reducible refine VC.mk ?_); exact zw) | with_reducible refine atL_0 hu ?_ | with_reducible refine atL_0 hv ?_ | ((with_reducible refine splitT_of ?_ ?_); (focus (simp only [huv, c1, c2, Bool.not_true, Bool.not_false, decide_true, decide_false]; done))) | ((with_reducible refine splitF_of ?_ ?_); (focus (simp only [huv, c1, c2, Bool.not_true, Bool.not_false, decide_true, decide_false]; done))) | ((with_reducible refine VC.mk ?_); exact hzA) | ((with_reducible refine VC.mk ?_); exact hzB) | ((with_reducible refine VC.mk ?_); exact ⟨⟨h1, hc⟩, hrA, hd, smS_0⟩) | ((with_reducible refine VC.mk ?_); exact ⟨⟨h1, hc⟩, hrB, hd, smS_0⟩) | (with_reducible first | refine splitT ?_ | refine splitF ?_) | ((with_reducible refine splitM.mk (fun hsm => ?_) (fun hsm => ?_)) <;> (try exact zx)) | ((with_reducible refine splitB.mk (fun h => ?_) (fun h => ?_)) <;> (try simp only [zs, ne_eq] at h) <;> (try simp (disch := omega) only [w64] at h) <;> (try exact zx)) | (with_reducible intro hz; (try exact absurd hz (Nat.succ_ne_zero _)))))
            have e3 : oCS (alO (seg l s n) day (seg (pathL (seg l s n) k) (0 + ((z : Nat) : Int).toNat) ((pathL (seg l s n) k).length - ((z : Nat) : Int).toNat)) ((0, 1), 0, 1)) = 3 := c2'.2
            exact ⟨by rw [e3]; rfl⟩
          obtain ⟨v2, hv2⟩ := oCS_s c2
          have w1 : alO (seg l s n) day (seg (pathL (seg l s n) i) (0 + ((z : Nat) : Int).toNat) ((pathL (seg l s n) i).length - ((z : Nat) : Int).toNat)) ((0, 1), 0, 1) = some v1 := by rw [hsdA]; exact hv1
          have w2 : alO (seg l s n) day (seg (pathL (seg l s n) k) (0 + ((z : Nat) : Int).toNat) ((pathL (seg l s n) k).length - ((z : Nat) : Int).toNat)) ((0, 1), 0, 1) = some v2 := by rw [hsdB]; exact hv2
          have k1 : oCS (alO (seg l s n) day (seg (pathL (seg l s n) i) (0 + ((z : Nat) : Int).toNat) ((pathL (seg l s n) i).length - ((z : Nat) : Int).toNat)) ((0, 1), 0, 1)) = 0 := by rw [w1]; rfl
          have k2 : oCS (alO (seg l s n) day (seg (pathL (seg l s n) k) (0 + ((z : Nat) : Int).toNat) ((pathL (seg l s n) k).length - ((z : Nat) : Int).toNat)) ((0, 1), 0, 1)) = 0 := by rw [w2]; rfl
          have y1 : smS v1 := smS_alO smS_0 hv1
          have y2 : smS v2 := smS_alO smS_0 hv2
          have x1 : zsS (alO (seg l s n) day (seg (pathL (seg l s n) i) (0 + ((z : Nat) : Int).toNat) ((pathL (seg l s n) i).length - ((z : Nat) : Int).toNat)) ((0, 1), 0, 1)) = v1 := by rw [w1]; rfl
          have x2 : zsS (alO (seg l s n) day (seg (pathL (seg l s n) k) (0 + ((z : Nat) : Int).toNat) ((pathL (seg l s n) k).length - ((z : Nat) : Int).toNat)) ((0, 1), 0, 1)) = v2 := by rw [w2]; rfl
          by_cases hz0 : z = 0
          · subst hz0
            rw [df_4 hv1 hv2, ← x1, ← x2]
            rw [← x1] at y1
            rw [← x2] at y2
            (repeat' ((try dsimp only); (try (conv => whnf)); first | (with_reducible first | refine And.intro ?_ ?_ | refine WX.of ?_) | exact zc | ((with_reducible refine VC.mk ?_); exact zw) | with_reducible refine atL_0 hu ?_ | with_reducible refine atL_0 hv ?_ | ((with_reducible refine splitT_of ?_ ?_); (focus (simp only [huv, k1, k2, Bool.not_true, Bool.not_false, decide_true, decide_false]; done))) | ((with_reducible refine splitF_of ?_ ?_); (focus (simp only [huv, k1, k2, Bool.not_true, Bool.not_false, decide_true, decide_false]; done))) | ((with_reducible refine VC.mk ?_); exact hzA) | ((with_reducible refine VC.mk ?_); exact hzB) | ((with_reducible refine VC.mk ?_); exact ⟨⟨h1, hc⟩, hrA, hd, smS_0⟩) | ((with_reducible refine VC.mk ?_); exact ⟨⟨h1, hc⟩, hrB, hd, smS_0⟩) | ((with_reducible refine VC.mk ?_); exact ⟨y1, y2⟩) | (with_reducible first | refine splitT ?_ | refine splitF ?_) | ((with_reducible refine splitM.mk (fun hsm => ?_) (fun hsm => ?_)) <;> (try exact zx)) | ((with_reducible refine splitB.mk (fun h => ?_) (fun h => ?_)) <;> (try simp only [zs, ne_eq] at h) <;> (try simp (disch := omega) only [w64] at h) <;> (try exact zx)) | (with_reducible intro hz; (try exact absurd hz (Nat.succ_ne_zero _)))))
          by_cases c3 : oCS (miO v1 v2) = 0
          rotate_left 1
          · have c3' := df_3 hv1 hv2 c3
            rw [c3'.1]
            rw [← x1, ← x2] at c3 c3'
            have c3 : ¬ oCS (miO (((zsS (alO (seg l s n) day (seg (pathL (seg l s n) i) (0 + ((z : Nat) : Int).toNat) ((pathL (seg l s n) i).length - ((z : Nat) : Int).toNat)) ((0, 1), 0, 1))).1.1, (zsS (alO (seg l s n) day (seg (pathL (seg l s n) i) (0 + ((z : Nat) : Int).toNat) ((pathL (seg l s n) i).length - ((z : Nat) : Int).toNat)) ((0, 1), 0, 1))).1.2), (zsS (alO (seg l s n) day (seg (pathL (seg l s n) i) (0 + ((z : Nat) : Int).toNat) ((pathL (seg l s n) i).length - ((z : Nat) : Int).toNat)) ((0, 1), 0, 1))).2.1, (zsS (alO (seg l s n) day (seg (pathL (seg l s n) i) (0 + ((z : Nat) : Int).toNat) ((pathL (seg l s n) i).length - ((z : Nat) : Int).toNat)) ((0, 1), 0, 1))).2.2) (((zsS (alO (seg l s n) day (seg (pathL (seg l s n) k) (0 + ((z : Nat) : Int).toNat) ((pathL (seg l s n) k).length - ((z : Nat) : Int).toNat)) ((0, 1), 0, 1))).1.1, (zsS (alO (seg l s n) day (seg (pathL (seg l s n) k) (0 + ((z : Nat) : Int).toNat) ((pathL (seg l s n) k).length - ((z : Nat) : Int).toNat)) ((0, 1), 0, 1))).1.2), (zsS (alO (seg l s n) day (seg (pathL (seg l s n) k) (0 + ((z : Nat) : Int).toNat) ((pathL (seg l s n) k).length - ((z : Nat) : Int).toNat)) ((0, 1), 0, 1))).2.1, (zsS (alO (seg l s n) day (seg (pathL (seg l s n) k) (0 + ((z : Nat) : Int).toNat) ((pathL (seg l s n) k).length - ((z : Nat) : Int).toNat)) ((0, 1), 0, 1))).2.2)) = 0 := c3
            rw [← x1] at y1
            rw [← x2] at y2
            (repeat' ((try dsimp only); (try (conv => whnf)); first | (with_reducible first | refine And.intro ?_ ?_ | refine WX.of ?_) | exact zc | ((with_reducible refine VC.mk ?_); exact zw) | with_reducible refine atL_0 hu ?_ | with_reducible refine atL_0 hv ?_ | ((with_reducible refine splitT_of ?_ ?_); (focus (simp only [huv, k1, k2, c3, Bool.not_true, Bool.not_false, decide_true, decide_false]; done))) | ((with_reducible refine splitF_of ?_ ?_); (focus (simp only [huv, k1, k2, c3, Bool.not_true, Bool.not_false, decide_true, decide_false]; done))) | ((with_reducible refine VC.mk ?_); exact hzA) | ((with_reducible refine VC.mk ?_); exact hzB) | ((with_reducible refine VC.mk ?_); exact ⟨⟨h1, hc⟩, hrA, hd, smS_0⟩) | ((with_reducible refine VC.mk ?_); exact ⟨⟨h1, hc⟩, hrB, hd, smS_0⟩) | ((with_reducible refine VC.mk ?_); exact ⟨y1, y2⟩) | (with_reducible first | refine splitT ?_ | refine splitF ?_) | ((with_reducible refine splitM.mk (fun hsm => ?_) (fun hsm => ?_)) <;> (try exact zx)) | ((with_reducible refine splitB.mk (fun h => ?_) (fun h => ?_)) <;> (try simp only [zs, ne_eq] at h) <;> (try simp (disch := omega) only [w64] at h) <;> (try exact zx)) | (with_reducible intro hz; (try exact absurd hz (Nat.succ_ne_zero _)))))
            all_goals exact ⟨by rw [oCS_n c3]⟩
          obtain ⟨d, hd3⟩ := oCS_s c3
          have y3 : smS d := smS_miO hd3
          obtain ⟨g, hg1⟩ := get_some (l := (pathL (seg l s n) i)) (i := z - 1) (by omega)
          have hgr := path_mem hc hi0.2 g (List.mem_of_getElem? hg1)
          have hgr1 : 0 ≤ g ∧ g < (seg l s n).length := by omega
          have hgr2 := ir_n hgr1 hL
          obtain ⟨⟨nm1, fr1, ⟨⟨p1, q1⟩, p1', q1'⟩, ⟨dp1, dq1⟩, md1, gd1⟩, hga1, hgst, hgo1⟩ := ch_z hc hgr1
          have hgdr := smF_ok hgo1.dr
          dsimp only at hgdr
          have hda := dB hc hd hWA' z
          have hdb := dB hc hd hWB' z
          have hmx := mx_ok hda hdb
          have hab : -9223372036854775808 < nxD (seg l s n) day ((pathL (seg l s n) i).drop z) - nxD (seg l s n) day ((pathL (seg l s n) k).drop z) ∧ nxD (seg l s n) day ((pathL (seg l s n) i).drop z) - nxD (seg l s n) day ((pathL (seg l s n) k).drop z) < 9223372036854775808 := by omega
          rw [df_5 hv1 hv2 hd3 hz0, hg1]
          dsimp only [Option.getD_some]
          rw [hgst]
          have x3 : zsS (miO (zsS (alO (seg l s n) day (seg (pathL (seg l s n) i) (0 + ((z : Nat) : Int).toNat) ((pathL (seg l s n) i).length - ((z : Nat) : Int).toNat)) ((0, 1), 0, 1))) (zsS (alO (seg l s n) day (seg (pathL (seg l s n) k) (0 + ((z : Nat) : Int).toNat) ((pathL (seg l s n) k).length - ((z : Nat) : Int).toNat)) ((0, 1), 0, 1)))) = d := by rw [x1, x2, hd3]; rfl
          rw [← x1, ← x2] at c3
          have c3 : oCS (miO (((zsS (alO (seg l s n) day (seg (pathL (seg l s n) i) (0 + ((z : Nat) : Int).toNat) ((pathL (seg l s n) i).length - ((z : Nat) : Int).toNat)) ((0, 1), 0, 1))).1.1, (zsS (alO (seg l s n) day (seg (pathL (seg l s n) i) (0 + ((z : Nat) : Int).toNat) ((pathL (seg l s n) i).length - ((z : Nat) : Int).toNat)) ((0, 1), 0, 1))).1.2), (zsS (alO (seg l s n) day (seg (pathL (seg l s n) i) (0 + ((z : Nat) : Int).toNat) ((pathL (seg l s n) i).length - ((z : Nat) : Int).toNat)) ((0, 1), 0, 1))).2.1, (zsS (alO (seg l s n) day (seg (pathL (seg l s n) i) (0 + ((z : Nat) : Int).toNat) ((pathL (seg l s n) i).length - ((z : Nat) : Int).toNat)) ((0, 1), 0, 1))).2.2) (((zsS (alO (seg l s n) day (seg (pathL (seg l s n) k) (0 + ((z : Nat) : Int).toNat) ((pathL (seg l s n) k).length - ((z : Nat) : Int).toNat)) ((0, 1), 0, 1))).1.1, (zsS (alO (seg l s n) day (seg (pathL (seg l s n) k) (0 + ((z : Nat) : Int).toNat) ((pathL (seg l s n) k).length - ((z : Nat) : Int).toNat)) ((0, 1), 0, 1))).1.2), (zsS (alO (seg l s n) day (seg (pathL (seg l s n) k) (0 + ((z : Nat) : Int).toNat) ((pathL (seg l s n) k).length - ((z : Nat) : Int).toNat)) ((0, 1), 0, 1))).2.1, (zsS (alO (seg l s n) day (seg (pathL (seg l s n) k) (0 + ((z : Nat) : Int).toNat) ((pathL (seg l s n) k).length - ((z : Nat) : Int).toNat)) ((0, 1), 0, 1))).2.2)) = 0 := c3
          rw [← x3] at y3 ⊢
          rw [← x1] at y1
          rw [← x2] at y2
          (repeat' ((try dsimp only); (try (conv => whnf)); first | (with_reducible first | refine And.intro ?_ ?_ | refine WX.of ?_) | exact zc | ((with_reducible refine VC.mk ?_); exact zw) | with_reducible refine atL_0 hu ?_ | with_reducible refine atL_0 hv ?_ | with_reducible refine atL_e (j := z - 1) (by simp (disch := omega) only [w64]; omega) hg1 ?_ | with_reducible refine atL_p (seg_get hga1).1 ?_ | ((with_reducible refine splitT_of ?_ ?_); (focus (simp only [huv, k1, k2, c3, hz0, Int.natCast_eq_zero, Bool.not_true, Bool.not_false, decide_true, decide_false]; done))) | ((with_reducible refine splitF_of ?_ ?_); (focus (simp only [huv, k1, k2, c3, hz0, Int.natCast_eq_zero, Bool.not_true, Bool.not_false, decide_true, decide_false]; done))) | ((with_reducible refine VC.mk ?_); exact hzA) | ((with_reducible refine VC.mk ?_); exact hzB) | ((with_reducible refine VC.mk ?_); exact ⟨⟨h1, hc⟩, hrA, hd, smS_0⟩) | ((with_reducible refine VC.mk ?_); exact ⟨⟨h1, hc⟩, hrB, hd, smS_0⟩) | ((with_reducible refine VC.mk ?_); exact ⟨y1, y2⟩) | ((with_reducible refine VC.mk ?_); exact ⟨⟨h1, hc⟩, hrA⟩) | ((with_reducible refine VC.mk ?_); exact ⟨⟨h1, hc⟩, hrB⟩) | ((with_reducible refine VC.mk ?_); exact hgr2) | ((with_reducible refine VC.mk ?_); exact (by rw [hsdA, hsdB, hmx.1]; exact hab)) | ((with_reducible refine VC.mk ?_); exact ⟨y3, hgdr, by rw [hsdA, hsdB, hmx.1]; exact hmx.2.2.2.2⟩) | (with_reducible first | refine splitT ?_ | refine splitF ?_) | ((with_reducible refine splitM.mk (fun hsm => ?_) (fun hsm => ?_)) <;> (try exact zx)) | ((with_reducible refine splitB.mk (fun h => ?_) (fun h => ?_)) <;> (try simp only [zs, ne_eq] at h) <;> (try simp (disch := omega) only [w64] at h) <;> (try exact zx)) | (with_reducible intro hz; (try exact absurd hz (Nat.succ_ne_zero _)))))
          all_goals exact ⟨by rw [hsdA, hsdB, hmx.1]; rfl⟩
      · rcases Nat.lt_or_ge z (pathL (seg l s n) i).length with hlt | hge
        · obtain ⟨u, hu⟩ := get_some (l := (pathL (seg l s n) i)) (i := z) hlt
          have hst2 := cp_end (a := (pathL (seg l s n) i)) (b := (pathL (seg l s n) k)) (n := z) (.inr (by omega))
          rw [hst2, Nat.add_zero] at hz
          have hds : dfO (seg l s n) i k day = dfN (seg l s n) day (pathL (seg l s n) i) (pathL (seg l s n) k) z := by unfold dfO; rw [hz]
          have hzB' : z = (pathL (seg l s n) k).length := by omega
          have hzn : ((z : Nat) : Int).toNat = z := Int.toNat_natCast z
          have hsdA := sd_A (W := (pathL (seg l s n) i)) hzn
          have hsdB := sd_A (W := (pathL (seg l s n) k)) hzn
          have hrA : 0 + ((z : Nat) : Int).toNat + ((pathL (seg l s n) i).length - ((z : Nat) : Int).toNat) ≤ (pathL (seg l s n) i).length ∧ (pathL (seg l s n) i).length - ((z : Nat) : Int).toNat ≤ 40 ∧ ∀ j ∈ seg (pathL (seg l s n) i) (0 + ((z : Nat) : Int).toNat) ((pathL (seg l s n) i).length - ((z : Nat) : Int).toNat), 0 ≤ j ∧ j < (seg l s n).length := ⟨by omega, by omega, fun j hj => hWA' j (by rw [hsdA] at hj; exact List.mem_of_mem_drop hj)⟩
          have hrB : 0 + ((z : Nat) : Int).toNat + ((pathL (seg l s n) k).length - ((z : Nat) : Int).toNat) ≤ (pathL (seg l s n) k).length ∧ (pathL (seg l s n) k).length - ((z : Nat) : Int).toNat ≤ 40 ∧ ∀ j ∈ seg (pathL (seg l s n) k) (0 + ((z : Nat) : Int).toNat) ((pathL (seg l s n) k).length - ((z : Nat) : Int).toNat), 0 ≤ j ∧ j < (seg l s n).length := ⟨by omega, by omega, fun j hj => hWB' j (by rw [hsdB] at hj; exact List.mem_of_mem_drop hj)⟩
          have hzA : 0 ≤ ((z : Nat) : Int) ∧ ((z : Nat) : Int) ≤ (pathL (seg l s n) i).length := ⟨Int.natCast_nonneg _, Int.ofNat_le.2 hz1⟩
          have hzB : 0 ≤ ((z : Nat) : Int) ∧ ((z : Nat) : Int) ≤ (pathL (seg l s n) k).length := ⟨Int.natCast_nonneg _, Int.ofNat_le.2 hz2⟩
          rw [hds]
          by_cases c1 : oCS (alO (seg l s n) day ((pathL (seg l s n) i).drop z) s00) = 0
          rotate_left 1
          · have c1' := df_1 (b := (pathL (seg l s n) k)) c1
            rw [c1'.1]
            rw [← hsdA] at c1 c1'
            have c1 : ¬ oCS (alO (seg l s n) day (seg (pathL (seg l s n) i) (0 + ((z : Nat) : Int).toNat) ((pathL (seg l s n) i).length - ((z : Nat) : Int).toNat)) ((0, 1), 0, 1)) = 0 := c1
            (repeat' ((try dsimp only); (try (conv => whnf)); first | (with_reducible first | refine And.intro ?_ ?_ | refine WX.of ?_) | exact zc | ((with_reducible refine VC.mk ?_); exact zw) | ((with_reducible refine splitT_of ?_ ?_); (focus (simp only [c1, Bool.not_true, Bool.not_false, decide_true, decide_false]; done))) | ((with_reducible refine splitF_of ?_ ?_); (focus (simp only [c1, Bool.not_true, Bool.not_false, decide_true, decide_false]; done))) | ((with_reducible refine VC.mk ?_); exact hzA) | ((with_reducible refine VC.mk ?_); exact ⟨⟨h1, hc⟩, hrA, hd, smS_0⟩) | (with_reducible first | refine splitT ?_ | refine splitF ?_) | ((with_reducible refine splitM.mk (fun hsm => ?_) (fun hsm => ?_)) <;> (try exact zx)) | ((with_reducible refine splitB.mk (fun h => ?_) (fun h => ?_)) <;> (try simp only [zs, ne_eq] at h) <;> (try simp (disch := omega) only [w64] at h) <;> (try exact zx)) | (with_reducible intro hz; (try exact absurd hz (Nat.succ_ne_zero _)))))
            have e3 : oCS (alO (seg l s n) day (seg (pathL (seg l s n) i) (0 + ((z : Nat) : Int).toNat) ((pathL (seg l s n) i).length - ((z : Nat) : Int).toNat)) ((0, 1), 0, 1)) = 3 := c1'.2
            exact ⟨by rw [e3]; rfl⟩
          obtain ⟨v1, hv1⟩ := oCS_s c1
          by_cases c2 : oCS (alO (seg l s n) day ((pathL (seg l s n) k).drop z) s00) = 0
          rotate_left 1
          · have c2' := df_2 hv1 c2
            rw [c2'.1]
            rw [← hsdA] at c1
            rw [← hsdB] at c2 c2'
            have c1 : oCS (alO (seg l s n) day (seg (pathL (seg l s n) i) (0 + ((z : Nat) : Int).toNat) ((pathL (seg l s n) i).length - ((z : Nat) : Int).toNat)) ((0, 1), 0, 1)) = 0 := c1
            have c2 : ¬ oCS (alO (seg l s n) day (seg (pathL (seg l s n) k) (0 + ((z : Nat) : Int).toNat) ((pathL (seg l s n) k).length - ((z : Nat) : Int).toNat)) ((0, 1), 0, 1)) = 0 := c2
            (repeat' ((try dsimp only); (try (conv => whnf)); first | (with_reducible first | refine And.intro ?_ ?_ | refine WX.of ?_) | exact zc | ((with_reducible refine VC.mk ?_); exact zw) | ((with_reducible refine splitT_of ?_ ?_); (focus (simp only [c1, c2, Bool.not_true, Bool.not_false, decide_true, decide_false]; done))) | ((with_reducible refine splitF_of ?_ ?_); (focus (simp only [c1, c2, Bool.not_true, Bool.not_false, decide_true, decide_false]; done))) | ((with_reducible refine VC.mk ?_); exact hzA) | ((with_reducible refine VC.mk ?_); exact hzB) | ((with_reducible refine VC.mk ?_); exact ⟨⟨h1, hc⟩, hrA, hd, smS_0⟩) | ((with_reducible refine VC.mk ?_); exact ⟨⟨h1, hc⟩, hrB, hd, smS_0⟩) | (with_reducible first | refine splitT ?_ | refine splitF ?_) | ((with_reducible refine splitM.mk (fun hsm => ?_) (fun hsm => ?_)) <;> (try exact zx)) | ((with_reducible refine splitB.mk (fun h => ?_) (fun h => ?_)) <;> (try simp only [zs, ne_eq] at h) <;> (try simp (disch := omega) only [w64] at h) <;> (try exact zx)) | (with_reducible intro hz; (try exact absurd hz (Nat.succ_ne_zero _)))))
            have e3 : oCS (alO (seg l s n) day (seg (pathL (seg l s n) k) (0 + ((z : Nat) : Int).toNat) ((pathL (seg l s n) k).length - ((z : Nat) : Int).toNat)) ((0, 1), 0, 1)) = 3 := c2'.2
            exact ⟨by rw [e3]; rfl⟩
          obtain ⟨v2, hv2⟩ := oCS_s c2
          have w1 : alO (seg l s n) day (seg (pathL (seg l s n) i) (0 + ((z : Nat) : Int).toNat) ((pathL (seg l s n) i).length - ((z : Nat) : Int).toNat)) ((0, 1), 0, 1) = some v1 := by rw [hsdA]; exact hv1
          have w2 : alO (seg l s n) day (seg (pathL (seg l s n) k) (0 + ((z : Nat) : Int).toNat) ((pathL (seg l s n) k).length - ((z : Nat) : Int).toNat)) ((0, 1), 0, 1) = some v2 := by rw [hsdB]; exact hv2
          have k1 : oCS (alO (seg l s n) day (seg (pathL (seg l s n) i) (0 + ((z : Nat) : Int).toNat) ((pathL (seg l s n) i).length - ((z : Nat) : Int).toNat)) ((0, 1), 0, 1)) = 0 := by rw [w1]; rfl
          have k2 : oCS (alO (seg l s n) day (seg (pathL (seg l s n) k) (0 + ((z : Nat) : Int).toNat) ((pathL (seg l s n) k).length - ((z : Nat) : Int).toNat)) ((0, 1), 0, 1)) = 0 := by rw [w2]; rfl
          have y1 : smS v1 := smS_alO smS_0 hv1
          have y2 : smS v2 := smS_alO smS_0 hv2
          have x1 : zsS (alO (seg l s n) day (seg (pathL (seg l s n) i) (0 + ((z : Nat) : Int).toNat) ((pathL (seg l s n) i).length - ((z : Nat) : Int).toNat)) ((0, 1), 0, 1)) = v1 := by rw [w1]; rfl
          have x2 : zsS (alO (seg l s n) day (seg (pathL (seg l s n) k) (0 + ((z : Nat) : Int).toNat) ((pathL (seg l s n) k).length - ((z : Nat) : Int).toNat)) ((0, 1), 0, 1)) = v2 := by rw [w2]; rfl
          by_cases hz0 : z = 0
          · subst hz0
            rw [df_4 hv1 hv2, ← x1, ← x2]
            rw [← x1] at y1
            rw [← x2] at y2
            (repeat' ((try dsimp only); (try (conv => whnf)); first | (with_reducible first | refine And.intro ?_ ?_ | refine WX.of ?_) | exact zc | ((with_reducible refine VC.mk ?_); exact zw) | ((with_reducible refine splitT_of ?_ ?_); (focus (simp only [k1, k2, Bool.not_true, Bool.not_false, decide_true, decide_false]; done))) | ((with_reducible refine splitF_of ?_ ?_); (focus (simp only [k1, k2, Bool.not_true, Bool.not_false, decide_true, decide_false]; done))) | ((with_reducible refine VC.mk ?_); exact hzA) | ((with_reducible refine VC.mk ?_); exact hzB) | ((with_reducible refine VC.mk ?_); exact ⟨⟨h1, hc⟩, hrA, hd, smS_0⟩) | ((with_reducible refine VC.mk ?_); exact ⟨⟨h1, hc⟩, hrB, hd, smS_0⟩) | ((with_reducible refine VC.mk ?_); exact ⟨y1, y2⟩) | (with_reducible first | refine splitT ?_ | refine splitF ?_) | ((with_reducible refine splitM.mk (fun hsm => ?_) (fun hsm => ?_)) <;> (try exact zx)) | ((with_reducible refine splitB.mk (fun h => ?_) (fun h => ?_)) <;> (try simp only [zs, ne_eq] at h) <;> (try simp (disch := omega) only [w64] at h) <;> (try exact zx)) | (with_reducible intro hz; (try exact absurd hz (Nat.succ_ne_zero _)))))
          by_cases c3 : oCS (miO v1 v2) = 0
          rotate_left 1
          · have c3' := df_3 hv1 hv2 c3
            rw [c3'.1]
            rw [← x1, ← x2] at c3 c3'
            have c3 : ¬ oCS (miO (((zsS (alO (seg l s n) day (seg (pathL (seg l s n) i) (0 + ((z : Nat) : Int).toNat) ((pathL (seg l s n) i).length - ((z : Nat) : Int).toNat)) ((0, 1), 0, 1))).1.1, (zsS (alO (seg l s n) day (seg (pathL (seg l s n) i) (0 + ((z : Nat) : Int).toNat) ((pathL (seg l s n) i).length - ((z : Nat) : Int).toNat)) ((0, 1), 0, 1))).1.2), (zsS (alO (seg l s n) day (seg (pathL (seg l s n) i) (0 + ((z : Nat) : Int).toNat) ((pathL (seg l s n) i).length - ((z : Nat) : Int).toNat)) ((0, 1), 0, 1))).2.1, (zsS (alO (seg l s n) day (seg (pathL (seg l s n) i) (0 + ((z : Nat) : Int).toNat) ((pathL (seg l s n) i).length - ((z : Nat) : Int).toNat)) ((0, 1), 0, 1))).2.2) (((zsS (alO (seg l s n) day (seg (pathL (seg l s n) k) (0 + ((z : Nat) : Int).toNat) ((pathL (seg l s n) k).length - ((z : Nat) : Int).toNat)) ((0, 1), 0, 1))).1.1, (zsS (alO (seg l s n) day (seg (pathL (seg l s n) k) (0 + ((z : Nat) : Int).toNat) ((pathL (seg l s n) k).length - ((z : Nat) : Int).toNat)) ((0, 1), 0, 1))).1.2), (zsS (alO (seg l s n) day (seg (pathL (seg l s n) k) (0 + ((z : Nat) : Int).toNat) ((pathL (seg l s n) k).length - ((z : Nat) : Int).toNat)) ((0, 1), 0, 1))).2.1, (zsS (alO (seg l s n) day (seg (pathL (seg l s n) k) (0 + ((z : Nat) : Int).toNat) ((pathL (seg l s n) k).length - ((z : Nat) : Int).toNat)) ((0, 1), 0, 1))).2.2)) = 0 := c3
            rw [← x1] at y1
            rw [← x2] at y2
            (repeat' ((try dsimp only); (try (conv => whnf)); first | (with_reducible first | refine And.intro ?_ ?_ | refine WX.of ?_) | exact zc | ((with_reducible refine VC.mk ?_); exact zw) | ((with_reducible refine splitT_of ?_ ?_); (focus (simp only [k1, k2, c3, Bool.not_true, Bool.not_false, decide_true, decide_false]; done))) | ((with_reducible refine splitF_of ?_ ?_); (focus (simp only [k1, k2, c3, Bool.not_true, Bool.not_false, decide_true, decide_false]; done))) | ((with_reducible refine VC.mk ?_); exact hzA) | ((with_reducible refine VC.mk ?_); exact hzB) | ((with_reducible refine VC.mk ?_); exact ⟨⟨h1, hc⟩, hrA, hd, smS_0⟩) | ((with_reducible refine VC.mk ?_); exact ⟨⟨h1, hc⟩, hrB, hd, smS_0⟩) | ((with_reducible refine VC.mk ?_); exact ⟨y1, y2⟩) | (with_reducible first | refine splitT ?_ | refine splitF ?_) | ((with_reducible refine splitM.mk (fun hsm => ?_) (fun hsm => ?_)) <;> (try exact zx)) | ((with_reducible refine splitB.mk (fun h => ?_) (fun h => ?_)) <;> (try simp only [zs, ne_eq] at h) <;> (try simp (disch := omega) only [w64] at h) <;> (try exact zx)) | (with_reducible intro hz; (try exact absurd hz (Nat.succ_ne_zero _)))))
            all_goals exact ⟨by rw [oCS_n c3]⟩
          obtain ⟨d, hd3⟩ := oCS_s c3
          have y3 : smS d := smS_miO hd3
          obtain ⟨g, hg1⟩ := get_some (l := (pathL (seg l s n) i)) (i := z - 1) (by omega)
          have hgr := path_mem hc hi0.2 g (List.mem_of_getElem? hg1)
          have hgr1 : 0 ≤ g ∧ g < (seg l s n).length := by omega
          have hgr2 := ir_n hgr1 hL
          obtain ⟨⟨nm1, fr1, ⟨⟨p1, q1⟩, p1', q1'⟩, ⟨dp1, dq1⟩, md1, gd1⟩, hga1, hgst, hgo1⟩ := ch_z hc hgr1
          have hgdr := smF_ok hgo1.dr
          dsimp only at hgdr
          have hda := dB hc hd hWA' z
          have hdb := dB hc hd hWB' z
          have hmx := mx_ok hda hdb
          have hab : -9223372036854775808 < nxD (seg l s n) day ((pathL (seg l s n) i).drop z) - nxD (seg l s n) day ((pathL (seg l s n) k).drop z) ∧ nxD (seg l s n) day ((pathL (seg l s n) i).drop z) - nxD (seg l s n) day ((pathL (seg l s n) k).drop z) < 9223372036854775808 := by omega
          rw [df_5 hv1 hv2 hd3 hz0, hg1]
          dsimp only [Option.getD_some]
          rw [hgst]
          have x3 : zsS (miO (zsS (alO (seg l s n) day (seg (pathL (seg l s n) i) (0 + ((z : Nat) : Int).toNat) ((pathL (seg l s n) i).length - ((z : Nat) : Int).toNat)) ((0, 1), 0, 1))) (zsS (alO (seg l s n) day (seg (pathL (seg l s n) k) (0 + ((z : Nat) : Int).toNat) ((pathL (seg l s n) k).length - ((z : Nat) : Int).toNat)) ((0, 1), 0, 1)))) = d := by rw [x1, x2, hd3]; rfl
          rw [← x1, ← x2] at c3
          have c3 : oCS (miO (((zsS (alO (seg l s n) day (seg (pathL (seg l s n) i) (0 + ((z : Nat) : Int).toNat) ((pathL (seg l s n) i).length - ((z : Nat) : Int).toNat)) ((0, 1), 0, 1))).1.1, (zsS (alO (seg l s n) day (seg (pathL (seg l s n) i) (0 + ((z : Nat) : Int).toNat) ((pathL (seg l s n) i).length - ((z : Nat) : Int).toNat)) ((0, 1), 0, 1))).1.2), (zsS (alO (seg l s n) day (seg (pathL (seg l s n) i) (0 + ((z : Nat) : Int).toNat) ((pathL (seg l s n) i).length - ((z : Nat) : Int).toNat)) ((0, 1), 0, 1))).2.1, (zsS (alO (seg l s n) day (seg (pathL (seg l s n) i) (0 + ((z : Nat) : Int).toNat) ((pathL (seg l s n) i).length - ((z : Nat) : Int).toNat)) ((0, 1), 0, 1))).2.2) (((zsS (alO (seg l s n) day (seg (pathL (seg l s n) k) (0 + ((z : Nat) : Int).toNat) ((pathL (seg l s n) k).length - ((z : Nat) : Int).toNat)) ((0, 1), 0, 1))).1.1, (zsS (alO (seg l s n) day (seg (pathL (seg l s n) k) (0 + ((z : Nat) : Int).toNat) ((pathL (seg l s n) k).length - ((z : Nat) : Int).toNat)) ((0, 1), 0, 1))).1.2), (zsS (alO (seg l s n) day (seg (pathL (seg l s n) k) (0 + ((z : Nat) : Int).toNat) ((pathL (seg l s n) k).length - ((z : Nat) : Int).toNat)) ((0, 1), 0, 1))).2.1, (zsS (alO (seg l s n) day (seg (pathL (seg l s n) k) (0 + ((z : Nat) : Int).toNat) ((pathL (seg l s n) k).length - ((z : Nat) : Int).toNat)) ((0, 1), 0, 1))).2.2)) = 0 := c3
          rw [← x3] at y3 ⊢
          rw [← x1] at y1
          rw [← x2] at y2
          (repeat' ((try dsimp only); (try (conv => whnf)); first | (with_reducible first | refine And.intro ?_ ?_ | refine WX.of ?_) | exact zc | ((with_reducible refine VC.mk ?_); exact zw) | with_reducible refine atL_e (j := z - 1) (by simp (disch := omega) only [w64]; omega) hg1 ?_ | with_reducible refine atL_p (seg_get hga1).1 ?_ | ((with_reducible refine splitT_of ?_ ?_); (focus (simp only [k1, k2, c3, hz0, Int.natCast_eq_zero, Bool.not_true, Bool.not_false, decide_true, decide_false]; done))) | ((with_reducible refine splitF_of ?_ ?_); (focus (simp only [k1, k2, c3, hz0, Int.natCast_eq_zero, Bool.not_true, Bool.not_false, decide_true, decide_false]; done))) | ((with_reducible refine VC.mk ?_); exact hzA) | ((with_reducible refine VC.mk ?_); exact hzB) | ((with_reducible refine VC.mk ?_); exact ⟨⟨h1, hc⟩, hrA, hd, smS_0⟩) | ((with_reducible refine VC.mk ?_); exact ⟨⟨h1, hc⟩, hrB, hd, smS_0⟩) | ((with_reducible refine VC.mk ?_); exact ⟨y1, y2⟩) | ((with_reducible refine VC.mk ?_); exact ⟨⟨h1, hc⟩, hrA⟩) | ((with_reducible refine VC.mk ?_); exact ⟨⟨h1, hc⟩, hrB⟩) | ((with_reducible refine VC.mk ?_); exact hgr2) | ((with_reducible refine VC.mk ?_); exact (by rw [hsdA, hsdB, hmx.1]; exact hab)) | ((with_reducible refine VC.mk ?_); exact ⟨y3, hgdr, by rw [hsdA, hsdB, hmx.1]; exact hmx.2.2.2.2⟩) | (with_reducible first | refine splitT ?_ | refine splitF ?_) | ((with_reducible refine splitM.mk (fun hsm => ?_) (fun hsm => ?_)) <;> (try exact zx)) | ((with_reducible refine splitB.mk (fun h => ?_) (fun h => ?_)) <;> (try simp only [zs, ne_eq] at h) <;> (try simp (disch := omega) only [w64] at h) <;> (try exact zx)) | (with_reducible intro hz; (try exact absurd hz (Nat.succ_ne_zero _)))))
          all_goals exact ⟨by rw [hsdA, hsdB, hmx.1]; rfl⟩
        · have hst2 := cp_end (a := (pathL (seg l s n) i)) (b := (pathL (seg l s n) k)) (n := z) (.inl (by omega))
          rw [hst2, Nat.add_zero] at hz
          have hds : dfO (seg l s n) i k day = dfN (seg l s n) day (pathL (seg l s n) i) (pathL (seg l s n) k) z := by unfold dfO; rw [hz]
          have hzA' : z = (pathL (seg l s n) i).length := by omega
          have hzn : ((z : Nat) : Int).toNat = z := Int.toNat_natCast z
          have hsdA := sd_A (W := (pathL (seg l s n) i)) hzn
          have hsdB := sd_A (W := (pathL (seg l s n) k)) hzn
          have hrA : 0 + ((z : Nat) : Int).toNat + ((pathL (seg l s n) i).length - ((z : Nat) : Int).toNat) ≤ (pathL (seg l s n) i).length ∧ (pathL (seg l s n) i).length - ((z : Nat) : Int).toNat ≤ 40 ∧ ∀ j ∈ seg (pathL (seg l s n) i) (0 + ((z : Nat) : Int).toNat) ((pathL (seg l s n) i).length - ((z : Nat) : Int).toNat), 0 ≤ j ∧ j < (seg l s n).length := ⟨by omega, by omega, fun j hj => hWA' j (by rw [hsdA] at hj; exact List.mem_of_mem_drop hj)⟩
          have hrB : 0 + ((z : Nat) : Int).toNat + ((pathL (seg l s n) k).length - ((z : Nat) : Int).toNat) ≤ (pathL (seg l s n) k).length ∧ (pathL (seg l s n) k).length - ((z : Nat) : Int).toNat ≤ 40 ∧ ∀ j ∈ seg (pathL (seg l s n) k) (0 + ((z : Nat) : Int).toNat) ((pathL (seg l s n) k).length - ((z : Nat) : Int).toNat), 0 ≤ j ∧ j < (seg l s n).length := ⟨by omega, by omega, fun j hj => hWB' j (by rw [hsdB] at hj; exact List.mem_of_mem_drop hj)⟩
          have hzA : 0 ≤ ((z : Nat) : Int) ∧ ((z : Nat) : Int) ≤ (pathL (seg l s n) i).length := ⟨Int.natCast_nonneg _, Int.ofNat_le.2 hz1⟩
          have hzB : 0 ≤ ((z : Nat) : Int) ∧ ((z : Nat) : Int) ≤ (pathL (seg l s n) k).length := ⟨Int.natCast_nonneg _, Int.ofNat_le.2 hz2⟩
          rw [hds]
          by_cases c1 : oCS (alO (seg l s n) day ((pathL (seg l s n) i).drop z) s00) = 0
          rotate_left 1
          · have c1' := df_1 (b := (pathL (seg l s n) k)) c1
            rw [c1'.1]
            rw [← hsdA] at c1 c1'
            have c1 : ¬ oCS (alO (seg l s n) day (seg (pathL (seg l s n) i) (0 + ((z : Nat) : Int).toNat) ((pathL (seg l s n) i).length - ((z : Nat) : Int).toNat)) ((0, 1), 0, 1)) = 0 := c1
            (repeat' ((try dsimp only); (try (conv => whnf)); first | (with_reducible first | refine And.intro ?_ ?_ | refine WX.of ?_) | exact zc | ((with_reducible refine VC.mk ?_); exact zw) | ((with_reducible refine splitT_of ?_ ?_); (focus (simp only [c1, Bool.not_true, Bool.not_false, decide_true, decide_false]; done))) | ((with_reducible refine splitF_of ?_ ?_); (focus (simp only [c1, Bool.not_true, Bool.not_false, decide_true, decide_false]; done))) | ((with_reducible refine VC.mk ?_); exact hzA) | ((with_reducible refine VC.mk ?_); exact ⟨⟨h1, hc⟩, hrA, hd, smS_0⟩) | (with_reducible first | refine splitT ?_ | refine splitF ?_) | ((with_reducible refine splitM.mk (fun hsm => ?_) (fun hsm => ?_)) <;> (try exact zx)) | ((with_reducible refine splitB.mk (fun h => ?_) (fun h => ?_)) <;> (try simp only [zs, ne_eq] at h) <;> (try simp (disch := omega) only [w64] at h) <;> (try exact zx)) | (with_reducible intro hz; (try exact absurd hz (Nat.succ_ne_zero _)))))
            have e3 : oCS (alO (seg l s n) day (seg (pathL (seg l s n) i) (0 + ((z : Nat) : Int).toNat) ((pathL (seg l s n) i).length - ((z : Nat) : Int).toNat)) ((0, 1), 0, 1)) = 3 := c1'.2
            exact ⟨by rw [e3]; rfl⟩
          obtain ⟨v1, hv1⟩ := oCS_s c1
          by_cases c2 : oCS (alO (seg l s n) day ((pathL (seg l s n) k).drop z) s00) = 0
          rotate_left 1
          · have c2' := df_2 hv1 c2
            rw [c2'.1]
            rw [← hsdA] at c1
            rw [← hsdB] at c2 c2'
            have c1 : oCS (alO (seg l s n) day (seg (pathL (seg l s n) i) (0 + ((z : Nat) : Int).toNat) ((pathL (seg l s n) i).length - ((z : Nat) : Int).toNat)) ((0, 1), 0, 1)) = 0 := c1
            have c2 : ¬ oCS (alO (seg l s n) day (seg (pathL (seg l s n) k) (0 + ((z : Nat) : Int).toNat) ((pathL (seg l s n) k).length - ((z : Nat) : Int).toNat)) ((0, 1), 0, 1)) = 0 := c2
            (repeat' ((try dsimp only); (try (conv => whnf)); first | (with_reducible first | refine And.intro ?_ ?_ | refine WX.of ?_) | exact zc | ((with_reducible refine VC.mk ?_); exact zw) | ((with_reducible refine splitT_of ?_ ?_); (focus (simp only [c1, c2, Bool.not_true, Bool.not_false, decide_true, decide_false]; done))) | ((with_reducible refine splitF_of ?_ ?_); (focus (simp only [c1, c2, Bool.not_true, Bool.not_false, decide_true, decide_false]; done))) | ((with_reducible refine VC.mk ?_); exact hzA) | ((with_reducible refine VC.mk ?_); exact hzB) | ((with_reducible refine VC.mk ?_); exact ⟨⟨h1, hc⟩, hrA, hd, smS_0⟩) | ((with_reducible refine VC.mk ?_); exact ⟨⟨h1, hc⟩, hrB, hd, smS_0⟩) | (with_reducible first | refine splitT ?_ | refine splitF ?_) | ((with_reducible refine splitM.mk (fun hsm => ?_) (fun hsm => ?_)) <;> (try exact zx)) | ((with_reducible refine splitB.mk (fun h => ?_) (fun h => ?_)) <;> (try simp only [zs, ne_eq] at h) <;> (try simp (disch := omega) only [w64] at h) <;> (try exact zx)) | (with_reducible intro hz; (try exact absurd hz (Nat.succ_ne_zero _)))))
            have e3 : oCS (alO (seg l s n) day (seg (pathL (seg l s n) k) (0 + ((z : Nat) : Int).toNat) ((pathL (seg l s n) k).length - ((z : Nat) : Int).toNat)) ((0, 1), 0, 1)) = 3 := c2'.2
            exact ⟨by rw [e3]; rfl⟩
          obtain ⟨v2, hv2⟩ := oCS_s c2
          have w1 : alO (seg l s n) day (seg (pathL (seg l s n) i) (0 + ((z : Nat) : Int).toNat) ((pathL (seg l s n) i).length - ((z : Nat) : Int).toNat)) ((0, 1), 0, 1) = some v1 := by rw [hsdA]; exact hv1
          have w2 : alO (seg l s n) day (seg (pathL (seg l s n) k) (0 + ((z : Nat) : Int).toNat) ((pathL (seg l s n) k).length - ((z : Nat) : Int).toNat)) ((0, 1), 0, 1) = some v2 := by rw [hsdB]; exact hv2
          have k1 : oCS (alO (seg l s n) day (seg (pathL (seg l s n) i) (0 + ((z : Nat) : Int).toNat) ((pathL (seg l s n) i).length - ((z : Nat) : Int).toNat)) ((0, 1), 0, 1)) = 0 := by rw [w1]; rfl
          have k2 : oCS (alO (seg l s n) day (seg (pathL (seg l s n) k) (0 + ((z : Nat) : Int).toNat) ((pathL (seg l s n) k).length - ((z : Nat) : Int).toNat)) ((0, 1), 0, 1)) = 0 := by rw [w2]; rfl
          have y1 : smS v1 := smS_alO smS_0 hv1
          have y2 : smS v2 := smS_alO smS_0 hv2
          have x1 : zsS (alO (seg l s n) day (seg (pathL (seg l s n) i) (0 + ((z : Nat) : Int).toNat) ((pathL (seg l s n) i).length - ((z : Nat) : Int).toNat)) ((0, 1), 0, 1)) = v1 := by rw [w1]; rfl
          have x2 : zsS (alO (seg l s n) day (seg (pathL (seg l s n) k) (0 + ((z : Nat) : Int).toNat) ((pathL (seg l s n) k).length - ((z : Nat) : Int).toNat)) ((0, 1), 0, 1)) = v2 := by rw [w2]; rfl
          by_cases hz0 : z = 0
          · subst hz0
            rw [df_4 hv1 hv2, ← x1, ← x2]
            rw [← x1] at y1
            rw [← x2] at y2
            (repeat' ((try dsimp only); (try (conv => whnf)); first | (with_reducible first | refine And.intro ?_ ?_ | refine WX.of ?_) | exact zc | ((with_reducible refine VC.mk ?_); exact zw) | ((with_reducible refine splitT_of ?_ ?_); (focus (simp only [k1, k2, Bool.not_true, Bool.not_false, decide_true, decide_false]; done))) | ((with_reducible refine splitF_of ?_ ?_); (focus (simp only [k1, k2, Bool.not_true, Bool.not_false, decide_true, decide_false]; done))) | ((with_reducible refine VC.mk ?_); exact hzA) | ((with_reducible refine VC.mk ?_); exact hzB) | ((with_reducible refine VC.mk ?_); exact ⟨⟨h1, hc⟩, hrA, hd, smS_0⟩) | ((with_reducible refine VC.mk ?_); exact ⟨⟨h1, hc⟩, hrB, hd, smS_0⟩) | ((with_reducible refine VC.mk ?_); exact ⟨y1, y2⟩) | (with_reducible first | refine splitT ?_ | refine splitF ?_) | ((with_reducible refine splitM.mk (fun hsm => ?_) (fun hsm => ?_)) <;> (try exact zx)) | ((with_reducible refine splitB.mk (fun h => ?_) (fun h => ?_)) <;> (try simp only [zs, ne_eq] at h) <;> (try simp (disch := omega) only [w64] at h) <;> (try exact zx)) | (with_reducible intro hz; (try exact absurd hz (Nat.succ_ne_zero _)))))
          by_cases c3 : oCS (miO v1 v2) = 0
          rotate_left 1
          · have c3' := df_3 hv1 hv2 c3
            rw [c3'.1]
            rw [← x1, ← x2] at c3 c3'
            have c3 : ¬ oCS (miO (((zsS (alO (seg l s n) day (seg (pathL (seg l s n) i) (0 + ((z : Nat) : Int).toNat) ((pathL (seg l s n) i).length - ((z : Nat) : Int).toNat)) ((0, 1), 0, 1))).1.1, (zsS (alO (seg l s n) day (seg (pathL (seg l s n) i) (0 + ((z : Nat) : Int).toNat) ((pathL (seg l s n) i).length - ((z : Nat) : Int).toNat)) ((0, 1), 0, 1))).1.2), (zsS (alO (seg l s n) day (seg (pathL (seg l s n) i) (0 + ((z : Nat) : Int).toNat) ((pathL (seg l s n) i).length - ((z : Nat) : Int).toNat)) ((0, 1), 0, 1))).2.1, (zsS (alO (seg l s n) day (seg (pathL (seg l s n) i) (0 + ((z : Nat) : Int).toNat) ((pathL (seg l s n) i).length - ((z : Nat) : Int).toNat)) ((0, 1), 0, 1))).2.2) (((zsS (alO (seg l s n) day (seg (pathL (seg l s n) k) (0 + ((z : Nat) : Int).toNat) ((pathL (seg l s n) k).length - ((z : Nat) : Int).toNat)) ((0, 1), 0, 1))).1.1, (zsS (alO (seg l s n) day (seg (pathL (seg l s n) k) (0 + ((z : Nat) : Int).toNat) ((pathL (seg l s n) k).length - ((z : Nat) : Int).toNat)) ((0, 1), 0, 1))).1.2), (zsS (alO (seg l s n) day (seg (pathL (seg l s n) k) (0 + ((z : Nat) : Int).toNat) ((pathL (seg l s n) k).length - ((z : Nat) : Int).toNat)) ((0, 1), 0, 1))).2.1, (zsS (alO (seg l s n) day (seg (pathL (seg l s n) k) (0 + ((z : Nat) : Int).toNat) ((pathL (seg l s n) k).length - ((z : Nat) : Int).toNat)) ((0, 1), 0, 1))).2.2)) = 0 := c3
            rw [← x1] at y1
            rw [← x2] at y2
            (repeat' ((try dsimp only); (try (conv => whnf)); first | (with_reducible first | refine And.intro ?_ ?_ | refine WX.of ?_) | exact zc | ((with_reducible refine VC.mk ?_); exact zw) | ((with_reducible refine splitT_of ?_ ?_); (focus (simp only [k1, k2, c3, Bool.not_true, Bool.not_false, decide_true, decide_false]; done))) | ((with_reducible refine splitF_of ?_ ?_); (focus (simp only [k1, k2, c3, Bool.not_true, Bool.not_false, decide_true, decide_false]; done))) | ((with_reducible refine VC.mk ?_); exact hzA) | ((with_reducible refine VC.mk ?_); exact hzB) | ((with_reducible refine VC.mk ?_); exact ⟨⟨h1, hc⟩, hrA, hd, smS_0⟩) | ((with_reducible refine VC.mk ?_); exact ⟨⟨h1, hc⟩, hrB, hd, smS_0⟩) | ((with_reducible refine VC.mk ?_); exact ⟨y1, y2⟩) | (with_reducible first | refine splitT ?_ | refine splitF ?_) | ((with_reducible refine splitM.mk (fun hsm => ?_) (fun hsm => ?_)) <;> (try exact zx)) | ((with_reducible refine splitB.mk (fun h => ?_) (fun h => ?_)) <;> (try simp only [zs, ne_eq] at h) <;> (try simp (disch := omega) only [w64] at h) <;> (try exact zx)) | (with_reducible intro hz; (try exact absurd hz (Nat.succ_ne_zero _)))))
            all_goals exact ⟨by rw [oCS_n c3]⟩
          obtain ⟨d, hd3⟩ := oCS_s c3
          have y3 : smS d := smS_miO hd3
          obtain ⟨g, hg1⟩ := get_some (l := (pathL (seg l s n) i)) (i := z - 1) (by omega)
          have hgr := path_mem hc hi0.2 g (List.mem_of_getElem? hg1)
          have hgr1 : 0 ≤ g ∧ g < (seg l s n).length := by omega
          have hgr2 := ir_n hgr1 hL
          obtain ⟨⟨nm1, fr1, ⟨⟨p1, q1⟩, p1', q1'⟩, ⟨dp1, dq1⟩, md1, gd1⟩, hga1, hgst, hgo1⟩ := ch_z hc hgr1
          have hgdr := smF_ok hgo1.dr
          dsimp only at hgdr
          have hda := dB hc hd hWA' z
          have hdb := dB hc hd hWB' z
          have hmx := mx_ok hda hdb
          have hab : -9223372036854775808 < nxD (seg l s n) day ((pathL (seg l s n) i).drop z) - nxD (seg l s n) day ((pathL (seg l s n) k).drop z) ∧ nxD (seg l s n) day ((pathL (seg l s n) i).drop z) - nxD (seg l s n) day ((pathL (seg l s n) k).drop z) < 9223372036854775808 := by omega
          rw [df_5 hv1 hv2 hd3 hz0, hg1]
          dsimp only [Option.getD_some]
          rw [hgst]
          have x3 : zsS (miO (zsS (alO (seg l s n) day (seg (pathL (seg l s n) i) (0 + ((z : Nat) : Int).toNat) ((pathL (seg l s n) i).length - ((z : Nat) : Int).toNat)) ((0, 1), 0, 1))) (zsS (alO (seg l s n) day (seg (pathL (seg l s n) k) (0 + ((z : Nat) : Int).toNat) ((pathL (seg l s n) k).length - ((z : Nat) : Int).toNat)) ((0, 1), 0, 1)))) = d := by rw [x1, x2, hd3]; rfl
          rw [← x1, ← x2] at c3
          have c3 : oCS (miO (((zsS (alO (seg l s n) day (seg (pathL (seg l s n) i) (0 + ((z : Nat) : Int).toNat) ((pathL (seg l s n) i).length - ((z : Nat) : Int).toNat)) ((0, 1), 0, 1))).1.1, (zsS (alO (seg l s n) day (seg (pathL (seg l s n) i) (0 + ((z : Nat) : Int).toNat) ((pathL (seg l s n) i).length - ((z : Nat) : Int).toNat)) ((0, 1), 0, 1))).1.2), (zsS (alO (seg l s n) day (seg (pathL (seg l s n) i) (0 + ((z : Nat) : Int).toNat) ((pathL (seg l s n) i).length - ((z : Nat) : Int).toNat)) ((0, 1), 0, 1))).2.1, (zsS (alO (seg l s n) day (seg (pathL (seg l s n) i) (0 + ((z : Nat) : Int).toNat) ((pathL (seg l s n) i).length - ((z : Nat) : Int).toNat)) ((0, 1), 0, 1))).2.2) (((zsS (alO (seg l s n) day (seg (pathL (seg l s n) k) (0 + ((z : Nat) : Int).toNat) ((pathL (seg l s n) k).length - ((z : Nat) : Int).toNat)) ((0, 1), 0, 1))).1.1, (zsS (alO (seg l s n) day (seg (pathL (seg l s n) k) (0 + ((z : Nat) : Int).toNat) ((pathL (seg l s n) k).length - ((z : Nat) : Int).toNat)) ((0, 1), 0, 1))).1.2), (zsS (alO (seg l s n) day (seg (pathL (seg l s n) k) (0 + ((z : Nat) : Int).toNat) ((pathL (seg l s n) k).length - ((z : Nat) : Int).toNat)) ((0, 1), 0, 1))).2.1, (zsS (alO (seg l s n) day (seg (pathL (seg l s n) k) (0 + ((z : Nat) : Int).toNat) ((pathL (seg l s n) k).length - ((z : Nat) : Int).toNat)) ((0, 1), 0, 1))).2.2)) = 0 := c3
          rw [← x3] at y3 ⊢
          rw [← x1] at y1
          rw [← x2] at y2
          (repeat' ((try dsimp only); (try (conv => whnf)); first | (with_reducible first | refine And.intro ?_ ?_ | refine WX.of ?_) | exact zc | ((with_reducible refine VC.mk ?_); exact zw) | with_reducible refine atL_e (j := z - 1) (by simp (disch := omega) only [w64]; omega) hg1 ?_ | with_reducible refine atL_p (seg_get hga1).1 ?_ | ((with_reducible refine splitT_of ?_ ?_); (focus (simp only [k1, k2, c3, hz0, Int.natCast_eq_zero, Bool.not_true, Bool.not_false, decide_true, decide_false]; done))) | ((with_reducible refine splitF_of ?_ ?_); (focus (simp only [k1, k2, c3, hz0, Int.natCast_eq_zero, Bool.not_true, Bool.not_false, decide_true, decide_false]; done))) | ((with_reducible refine VC.mk ?_); exact hzA) | ((with_reducible refine VC.mk ?_); exact hzB) | ((with_reducible refine VC.mk ?_); exact ⟨⟨h1, hc⟩, hrA, hd, smS_0⟩) | ((with_reducible refine VC.mk ?_); exact ⟨⟨h1, hc⟩, hrB, hd, smS_0⟩) | ((with_reducible refine VC.mk ?_); exact ⟨y1, y2⟩) | ((with_reducible refine VC.mk ?_); exact ⟨⟨h1, hc⟩, hrA⟩) | ((with_reducible refine VC.mk ?_); exact ⟨⟨h1, hc⟩, hrB⟩) | ((with_reducible refine VC.mk ?_); exact hgr2) | ((with_reducible refine VC.mk ?_); exact (by rw [hsdA, hsdB, hmx.1]; exact hab)) | ((with_reducible refine VC.mk ?_); exact ⟨y3, hgdr, by rw [hsdA, hsdB, hmx.1]; exact hmx.2.2.2.2⟩) | (with_reducible first | refine splitT ?_ | refine splitF ?_) | ((with_reducible refine splitM.mk (fun hsm => ?_) (fun hsm => ?_)) <;> (try exact zx)) | ((with_reducible refine splitB.mk (fun h => ?_) (fun h => ?_)) <;> (try simp only [zs, ne_eq] at h) <;> (try simp (disch := omega) only [w64] at h) <;> (try exact zx)) | (with_reducible intro hz; (try exact absurd hz (Nat.succ_ne_zero _)))))
          all_goals exact ⟨by rw [hsdA, hsdB, hmx.1]; rfl⟩
end Go.Proofs.Ytonnkpclllmkoaa.Eng
set_option linter.unusedVariables false
set_option linter.unusedSimpArgs false
namespace Go.Proofs.Ytonnkpclllmkoaa.Eng
open Go Go.RowKit
set_option maxRecDepth 100000
theorem tw_1 {L : List StT} {i k day : Int} (h : ¬ ccC L [i] [day] = 0) : ccC L [i, k] [day] = ccC L [i] [day] := by
  unfold ccC at *
  cases hc : chB L with
  | false => simp
  | true =>
    cases h1 : ixB L i <;> cases h2 : ixB L k <;> cases h3 : dyB day <;> simp_all
theorem tw_2 {L : List StT} {i k day : Int} (h : ccC L [i] [day] = 0) : ccC L [i, k] [day] = ccC L [k] [day] := by
  unfold ccC at *
  cases hc : chB L with
  | false => simp
  | true =>
    cases h1 : ixB L i <;> cases h2 : ixB L k <;> cases h3 : dyB day <;> simp_all
def s_l05Two : Spec := fun args S => match args, S with
  | [.sl 0 s n x, .int .i64 i, .int .i64 k, .int .i64 d], [.arr (.prod .str (.prod (.int .i64) (.prod (.prod (.prod (.int .i64) (.int .i64)) (.prod (.int .i64) (.int .i64))) (.prod (.prod (.int .i64) (.int .i64)) (.prod (.int .i64) (.int .i64)))))) l 10 wr] => ⟨chP s n l, .int .i64 (ccC (seg l s n) [i, k] [d]), [.arr (.prod .str (.prod (.int .i64) (.prod (.prod (.prod (.int .i64) (.int .i64)) (.prod (.int .i64) (.int .i64))) (.prod (.prod (.int .i64) (.int .i64)) (.prod (.int .i64) (.int .i64)))))) l 10 wr]⟩
  | _, _ => noSpec
theorem ok_l05Two : SpecOk Try.prog 43 s_l05Two := by
  intro args S h; unfold s_l05Two at h ⊢; (split at h <;> first | exact False.elim h | skip)
  dsimp only at h ⊢
  rename_i s n x i k d l wr
  have hq := h
  refine funW tabOk (E := [(51, s_l05At)]) ⟨ok_l05At, trivial⟩ [] (k := 1) (fn := Try.f43) rfl rfl rfl rfl rfl rfl ?_
  (repeat' ((try (conv => whnf)); first | (with_reducible first | refine And.intro ?_ ?_ | refine WX.of ?_) | exact zc | ((with_reducible refine VC.mk ?_); exact zw) | ((with_reducible refine VC.mk ?_); exact hq) | (with_reducible first | refine splitT ?_ | refine splitF ?_) | ((with_reducible refine splitM.mk (fun hsm => ?_) (fun hsm => ?_)) <;> (try exact zx)) | ((with_reducible refine splitB.mk (fun h => ?_) (fun h => ?_)) <;> (try simp only [zs, ne_eq] at h) <;> (try simp (disch := omega) only [w64] at h) <;> (try exact zx)) | (with_reducible intro hz; (try exact absurd hz (Nat.succ_ne_zero _)))))
  · exact ⟨by rw [tw_1 h]⟩
  · exact ⟨by rw [tw_2 h]⟩
def apB (v : SpT) : Bool := decide (0 < v.1.1) || decide (v.2.1 < 0)
def apV (L : List StT) (i k day : Int) : Bool := if dcC L i k day = 0 then apB (dcV L i k day) else false
def s_apart : Spec := fun args S => match args, S with
  | [.sl 0 s n x, .int .i64 i, .int .i64 k, .int .i64 d], [.arr (.prod .str (.prod (.int .i64) (.prod (.prod (.prod (.int .i64) (.int .i64)) (.prod (.int .i64) (.int .i64))) (.prod (.prod (.int .i64) (.int .i64)) (.prod (.int .i64) (.int .i64)))))) l 10 wr] => ⟨chP s n l, .tup [.bool (apV (seg l s n) i k d), .int .i64 (dcC (seg l s n) i k d)], [.arr (.prod .str (.prod (.int .i64) (.prod (.prod (.prod (.int .i64) (.int .i64)) (.prod (.int .i64) (.int .i64))) (.prod (.prod (.int .i64) (.int .i64)) (.prod (.int .i64) (.int .i64)))))) l 10 wr]⟩
  | _, _ => noSpec
theorem ok_AreApartI : SpecOk Try.prog 11 s_apart := by
  intro args S h; unfold s_apart at h ⊢; (split at h <;> first | exact False.elim h | skip)
  dsimp only at h ⊢
  rename_i s n x i k d l wr
  have hq := h
  unfold apV
  by_cases hc : dcC (seg l s n) i k d = 0
  · rw [if_pos hc]
    refine funW tabOk (E := [(26, s_diff)]) ⟨ok_DifferenceOnI, trivial⟩ [] (k := 1) (fn := Try.f11) rfl rfl rfl rfl rfl rfl ?_
    (repeat' ((try (conv => whnf)); first | (with_reducible first | refine And.intro ?_ ?_ | refine WX.of ?_) | exact zc | ((with_reducible refine VC.mk ?_); exact zw) | ((with_reducible refine VC.mk ?_); exact hq) | ((with_reducible refine splitT_of ?_ ?_); (focus (simp only [hc, Bool.not_true, Bool.not_false, decide_true, decide_false]; done))) | ((with_reducible refine splitF_of ?_ ?_); (focus (simp only [hc, Bool.not_true, Bool.not_false, decide_true, decide_false]; done))) | (with_reducible first | refine splitT ?_ | refine splitF ?_) | ((with_reducible refine splitM.mk (fun hsm => ?_) (fun hsm => ?_)) <;> (try exact zx)) | ((with_reducible refine splitB.mk (fun h => ?_) (fun h => ?_)) <;> (try simp only [zs, ne_eq] at h) <;> (try simp (disch := omega) only [w64] at h) <;> (try exact zx)) | (with_reducible intro hz; (try exact absurd hz (Nat.succ_ne_zero _)))))
    · refine ⟨?_⟩; rw [hc]; unfold apB; rw [decide_eq_true h]; rfl
    · refine ⟨?_⟩; rw [hc]; unfold apB; rw [decide_eq_false (Int.not_lt.2 h), Bool.false_or]
  · rw [if_neg hc]
    refine funW tabOk (E := [(26, s_diff)]) ⟨ok_DifferenceOnI, trivial⟩ [] (k := 1) (fn := Try.f11) rfl rfl rfl rfl rfl rfl ?_
    (repeat' ((try (conv => whnf)); first | (with_reducible first | refine And.intro ?_ ?_ | refine WX.of ?_) | exact zc | ((with_reducible refine VC.mk ?_); exact zw) | ((with_reducible refine VC.mk ?_); exact hq) | ((with_reducible refine splitT_of ?_ ?_); (focus (simp only [hc, Bool.not_true, Bool.not_false, decide_true, decide_false]; done))) | ((with_reducible refine splitF_of ?_ ?_); (focus (simp only [hc, Bool.not_true, Bool.not_false, decide_true, decide_false]; done))) | (with_reducible first | refine splitT ?_ | refine splitF ?_) | ((with_reducible refine splitM.mk (fun hsm => ?_) (fun hsm => ?_)) <;> (try exact zx)) | ((with_reducible refine splitB.mk (fun h => ?_) (fun h => ?_)) <;> (try simp only [zs, ne_eq] at h) <;> (try simp (disch := omega) only [w64] at h) <;> (try exact zx)) | (with_reducible intro hz; (try exact absurd hz (Nat.succ_ne_zero _)))))
def s_l01InB : Spec := fun args S => match args, S with
  | [.ptr 0 0 0, .agg [.int .i64 r, .int .i64 s]], [.arr (.prod (.prod (.int .i64) (.int .i64)) (.prod (.int .i64) (.int .i64))) [v] 0 true] => ⟨smS v ∧ smF r s, .bool (decide (v.1.1 * s ≤ r * v.1.2) && decide (r * v.2.2 ≤ v.2.1 * s)), [.arr (.prod (.prod (.int .i64) (.int .i64)) (.prod (.int .i64) (.int .i64))) [v] 0 true]⟩
  | _, _ => noSpec
theorem ok_l01InB : SpecOk Try.prog 45 s_l01InB := by
  intro args S h; unfold s_l01InB at h ⊢; (split at h <;> first | exact False.elim h | skip)
  dsimp only at h ⊢
  rename_i r s v
  obtain ⟨⟨p, q⟩, p', q'⟩ := v
  obtain ⟨h1, h2⟩ := h
  have hc1 := cmpF_le (p := p) (q := q) (p' := r) (q' := s)
  have hc2 := cmpF_le (p := r) (q := s) (p' := p') (q' := q')
  refine funW tabOk (E := [(100, s_cmp)]) ⟨ok_l01Cmp, trivial⟩ [] (k := 1) (fn := Try.f45) rfl rfl rfl rfl rfl rfl ?_
  (repeat' ((try (conv => whnf)); first | (with_reducible first | refine And.intro ?_ ?_ | refine WX.of ?_) | exact zc | ((with_reducible refine VC.mk ?_); exact zw) | ((with_reducible refine VC.mk ?_); exact ⟨h1.1, h2⟩) | ((with_reducible refine VC.mk ?_); exact ⟨h2, h1.2⟩) | (with_reducible first | refine splitT ?_ | refine splitF ?_) | ((with_reducible refine splitM.mk (fun hsm => ?_) (fun hsm => ?_)) <;> (try exact zx)) | ((with_reducible refine splitB.mk (fun h => ?_) (fun h => ?_)) <;> (try simp only [zs, ne_eq] at h) <;> (try simp (disch := omega) only [w64] at h) <;> (try exact zx)) | (with_reducible intro hz; (try exact absurd hz (Nat.succ_ne_zero _)))))
  · exact ⟨congrArg SV.bool (by simp only [hc2]; rw [decide_eq_true (hc1.1 h)]; rfl)⟩
  · exact ⟨congrArg SV.bool (by rw [decide_eq_false (fun h9 => by have := hc1.2 h9; omega)]; rfl)⟩
theorem smS_dfO {L : List StT} {i k day : Int} {v : SpT} (h : dfO L i k day = some v) : smS v := by
  unfold dfO dfN at h
  obtain ⟨s, _, h⟩ := Option.bind_eq_some_iff.1 h
  obtain ⟨t, _, h⟩ := Option.bind_eq_some_iff.1 h
  obtain ⟨d, h3, h⟩ := Option.bind_eq_some_iff.1 h
  split at h
  · obtain rfl := Option.some.inj h; exact smS_miO h3
  · exact smS_drO h
theorem smS_dc {g : Bool} {L : List StT} {i k day : Int} (h : coC 0 g (dfO L i k day) = 0) : smS (coV 0 g (dfO L i k day)) := by
  cases hg : g with
  | false => rw [hg, (co_2 rfl).1] at h; simp at h
  | true =>
    rw [hg, (co_3 rfl).1] at h
    rw [(co_3 rfl).2]
    obtain ⟨v, hv⟩ := oCS_s h
    rw [hv]; exact smS_dfO hv
theorem ap_e (v : SpT) : (!(decide (v.1.1 * 1 ≤ 0 * v.1.2) && decide (0 * v.2.2 ≤ v.2.1 * 1))) = apB v := by
  unfold apB
  rw [Bool.eq_iff_iff]
  simp
theorem ok_AreApartS : SpecOk Try.prog 9 s_apart := by
  intro args S h; unfold s_apart at h ⊢; (split at h <;> first | exact False.elim h | skip)
  dsimp only at h ⊢
  rename_i s n x i k d l wr
  have hq := h
  have hL := seg_len h.1.1
  have h01 : smF 0 1 := smF_1 (n := 0) (by omega)
  unfold apV dcC dcV
  by_cases hcc : ccC (seg l s n) [i, k] [d] = 0
  rotate_left 1
  · rw [(co_1 hcc).1, if_neg hcc]
    refine funW tabOk (E := [(43, s_l05Two)]) ⟨ok_l05Two, trivial⟩ [] (k := 1) (fn := Try.f9) rfl rfl rfl rfl rfl rfl ?_
    (repeat' ((try (conv => whnf)); first | (with_reducible first | refine And.intro ?_ ?_ | refine WX.of ?_) | exact zc | ((with_reducible refine VC.mk ?_); exact zw) | ((with_reducible refine VC.mk ?_); exact hq) | ((with_reducible refine splitT_of ?_ ?_); (focus (simp only [hcc, Bool.not_true, Bool.not_false, decide_true, decide_false]; done))) | ((with_reducible refine splitF_of ?_ ?_); (focus (simp only [hcc, Bool.not_true, Bool.not_false, decide_true, decide_false]; done))) | (with_reducible first | refine splitT ?_ | refine splitF ?_) | ((with_reducible refine splitM.mk (fun hsm => ?_) (fun hsm => ?_)) <;> (try exact zx)) | ((with_reducible refine splitB.mk (fun h => ?_) (fun h => ?_)) <;> (try simp only [zs, ne_eq] at h) <;> (try simp (disch := omega) only [w64] at h) <;> (try exact zx)) | (with_reducible intro hz; (try exact absurd hz (Nat.succ_ne_zero _)))))
  · rw [hcc]
    obtain ⟨hc, h1, h2⟩ := cc_ok hcc
    have hi := ir_n (h1 i (by simp)) hL
    have hk := ir_n (h1 k (by simp)) hL
    have hd := h2 d (by simp)
    by_cases hco : coC 0 (gdB (stAt (seg l s n) i) d && gdB (stAt (seg l s n) k) d) (dfO (seg l s n) i k d) = 0
    · rw [if_pos hco]
      have hsm := smS_dc hco
      refine funW tabOk (E := [(43, s_l05Two), (44, s_l05Diff), (46, s_num), (45, s_l01InB)]) ⟨ok_l05Two, ok_l05Diff, ok_l01Whole, ok_l01InB, trivial⟩ [] (k := 1) (fn := Try.f9) rfl rfl rfl rfl rfl rfl ?_
      (repeat' ((try (conv => whnf)); first | (with_reducible first | refine And.intro ?_ ?_ | refine WX.of ?_) | exact zc | ((with_reducible refine VC.mk ?_); exact zw) | ((with_reducible refine VC.mk ?_); exact hq) | ((with_reducible refine VC.mk ?_); exact ⟨⟨hq.1.1, hc⟩, hi, hk, hd⟩) | ((with_reducible refine VC.mk ?_); exact ⟨hsm, h01⟩) | ((with_reducible refine splitT_of ?_ ?_); (focus (simp only [hcc, hco, Bool.not_true, Bool.not_false, decide_true, decide_false]; done))) | ((with_reducible refine splitF_of ?_ ?_); (focus (simp only [hcc, hco, Bool.not_true, Bool.not_false, decide_true, decide_false]; done))) | (with_reducible first | refine splitT ?_ | refine splitF ?_) | ((with_reducible refine splitM.mk (fun hsm => ?_) (fun hsm => ?_)) <;> (try exact zx)) | ((with_reducible refine splitB.mk (fun h => ?_) (fun h => ?_)) <;> (try simp only [zs, ne_eq] at h) <;> (try simp (disch := omega) only [w64] at h) <;> (try exact zx)) | (with_reducible intro hz; (try exact absurd hz (Nat.succ_ne_zero _)))))
      exact ⟨by rw [hco]; exact congrArg (fun b => SV.tup [.bool b, .int .i64 0]) (ap_e _)⟩
    · rw [if_neg hco]
      refine funW tabOk (E := [(43, s_l05Two), (44, s_l05Diff)]) ⟨ok_l05Two, ok_l05Diff, trivial⟩ [] (k := 1) (fn := Try.f9) rfl rfl rfl rfl rfl rfl ?_
      (repeat' ((try (conv => whnf)); first | (with_reducible first | refine And.intro ?_ ?_ | refine WX.of ?_) | exact zc | ((with_reducible refine VC.mk ?_); exact zw) | ((with_reducible refine VC.mk ?_); exact hq) | ((with_reducible refine VC.mk ?_); exact ⟨⟨hq.1.1, hc⟩, hi, hk, hd⟩) | ((with_reducible refine splitT_of ?_ ?_); (focus (simp only [hcc, hco, Bool.not_true, Bool.not_false, decide_true, decide_false]; done))) | ((with_reducible refine splitF_of ?_ ?_); (focus (simp only [hcc, hco, Bool.not_true, Bool.not_false, decide_true, decide_false]; done))) | (with_reducible first | refine splitT ?_ | refine splitF ?_) | ((with_reducible refine splitM.mk (fun hsm => ?_) (fun hsm => ?_)) <;> (try exact zx)) | ((with_reducible refine splitB.mk (fun h => ?_) (fun h => ?_)) <;> (try simp only [zs, ne_eq] at h) <;> (try simp (disch := omega) only [w64] at h) <;> (try exact zx)) | (with_reducible intro hz; (try exact absurd hz (Nat.succ_ne_zero _)))))
end Go.Proofs.Ytonnkpclllmkoaa.Eng
set_option linter.unusedVariables false
set_option linter.unusedSimpArgs false
namespace Go.Proofs.Ytonnkpclllmkoaa.Eng
open Go Go.RowKit
set_option maxRecDepth 100000
def s_szStandard : Spec := fun args S => match args, S with
  | [.agg [.str nm, .int .i64 fr, .int .i64 p, .int .i64 q, .int .i64 p', .int .i64 q', .int .i64 dp, .int .i64 dq, .int .i64 md, .int .i64 gd], .int .i64 k], [] => ⟨(0 ≤ k ∧ k ≤ 1048576) ∧ nm.length ≤ 9223372036854775807, .int .i64 (max (-1) (k - nm.length)), []⟩
  | _, _ => noSpec
theorem ok_szStandard : SpecOk Try.prog 42 s_szStandard := by
  intro args S h; unfold s_szStandard at h ⊢; (split at h <;> first | exact False.elim h | skip)
  dsimp only at h ⊢
  refine funW tabOk (E := []) trivial [] (k := 0) (fn := Try.f42) rfl rfl rfl rfl rfl rfl ?_
  (repeat' ((try (conv => whnf)); first | (with_reducible first | refine And.intro ?_ ?_ | refine WX.of ?_) | exact zc | ((with_reducible refine VC.mk ?_); exact zw) | (with_reducible first | refine splitT ?_ | refine splitF ?_) | ((with_reducible refine splitM.mk (fun hsm => ?_) (fun hsm => ?_)) <;> (try exact zx)) | ((with_reducible refine splitB.mk (fun h => ?_) (fun h => ?_)) <;> (try simp only [zs, ne_eq] at h) <;> (try simp (disch := omega) only [w64] at h) <;> (try exact zx)) | (with_reducible intro hz; (try exact absurd hz (Nat.succ_ne_zero _)))))
  all_goals (refine ⟨?_⟩; (try rw [w64 (by omega)]); congr 1; omega)
def s_szStandardS : Spec := fun args S => match args, S with
  | [.opt c 0 n 0, .int .i64 k], [.arrO (.prod .str (.prod (.int .i64) (.prod (.prod (.prod (.int .i64) (.int .i64)) (.prod (.int .i64) (.int .i64))) (.prod (.prod (.int .i64) (.int .i64)) (.prod (.int .i64) (.int .i64)))))) l 10] => ⟨(0 ≤ k ∧ k ≤ 1048576) ∧ (n ≤ l.length ∧ (c = true → l = [])) ∧ n ≤ 9223372036854775807 ∧ (∀ (j : Nat) a, l[j]? = some a → a.1.length ≤ 9223372036854775807), .int .i64 (max (-1) (k - n - tot (fun a : StT => a.1.length) (seg l 0 n))), [.arrO (.prod .str (.prod (.int .i64) (.prod (.prod (.prod (.int .i64) (.int .i64)) (.prod (.int .i64) (.int .i64))) (.prod (.prod (.int .i64) (.int .i64)) (.prod (.int .i64) (.int .i64)))))) l 10]⟩
  | _, _ => noSpec
theorem szStandardS_none {v : SV} (hv : v = .nils ∨ v = .sl 0 0 0 0) {k : Int} (hk : 0 ≤ k ∧ k ≤ 1048576) : RunsS Try.prog 8 [v, .int .i64 k] [.gone] (.int .i64 k) [.gone] := by
  rcases hv with rfl | rfl
  all_goals
    refine funW tabOk (E := [(42, s_szStandard)]) ⟨ok_szStandard, trivial⟩ [] (k := 1) (fn := Try.f8) rfl rfl rfl rfl rfl rfl ?_
    (repeat' ((try (conv => whnf)); first | (with_reducible first | refine And.intro ?_ ?_ | refine WX.of ?_) | exact zc | ((with_reducible refine VC.mk ?_); exact zw) | (with_reducible first | refine splitT ?_ | refine splitF ?_) | ((with_reducible refine splitM.mk (fun hsm => ?_) (fun hsm => ?_)) <;> (try exact zx)) | ((with_reducible refine splitB.mk (fun h => ?_) (fun h => ?_)) <;> (try simp only [zs, ne_eq] at h) <;> (try simp (disch := omega) only [w64] at h) <;> (try exact zx)) | (with_reducible intro hz; (try exact absurd hz (Nat.succ_ne_zero _)))))
    refine loop1 tabOk (E := [(42, s_szStandard)]) ⟨ok_szStandard, trivial⟩ [] ?_
    (repeat' ((try (conv => whnf)); first | (with_reducible first | refine And.intro ?_ ?_ | refine WX.of ?_) | exact zc | ((with_reducible refine VC.mk ?_); exact zw) | (with_reducible first | refine splitT ?_ | refine splitF ?_) | ((with_reducible refine splitM.mk (fun hsm => ?_) (fun hsm => ?_)) <;> (try exact zx)) | ((with_reducible refine splitB.mk (fun h => ?_) (fun h => ?_)) <;> (try simp only [zs, ne_eq] at h) <;> (try simp (disch := omega) only [w64] at h) <;> (try exact zx)) | (with_reducible intro hz; (try exact absurd hz (Nat.succ_ne_zero _)))))
theorem szStandardS_sl {s n x : Nat} {l : List StT} {wr : Bool} {k : Int} (h1 : s + n ≤ l.length) (hk : 0 ≤ k ∧ k ≤ 1048576) (hn : n ≤ 9223372036854775807) (ho : ∀ (j : Nat) a, l[j]? = some a → a.1.length ≤ 9223372036854775807) : RunsS Try.prog 8 [.sl 0 s n x, .int .i64 k] [.arr (.prod .str (.prod (.int .i64) (.prod (.prod (.prod (.int .i64) (.int .i64)) (.prod (.int .i64) (.int .i64))) (.prod (.prod (.int .i64) (.int .i64)) (.prod (.int .i64) (.int .i64)))))) l 10 wr] (.int .i64 (max (-1) (k - n - tot (fun a : StT => a.1.length) (seg l s n)))) [.arr (.prod .str (.prod (.int .i64) (.prod (.prod (.prod (.int .i64) (.int .i64)) (.prod (.int .i64) (.int .i64))) (.prod (.prod (.int .i64) (.int .i64)) (.prod (.int .i64) (.int .i64)))))) l 10 wr] := by
  have hL := seg_len h1
  refine funW tabOk (E := [(42, s_szStandard)]) ⟨ok_szStandard, trivial⟩ [] (k := 1) (fn := Try.f8) rfl rfl rfl rfl rfl rfl ?_
  (repeat' ((try (conv => whnf)); first | (with_reducible first | refine And.intro ?_ ?_ | refine WX.of ?_) | exact zc | ((with_reducible refine VC.mk ?_); exact zw) | (with_reducible first | refine splitT ?_ | refine splitF ?_) | ((with_reducible refine splitM.mk (fun hsm => ?_) (fun hsm => ?_)) <;> (try exact zx)) | ((with_reducible refine splitB.mk (fun h => ?_) (fun h => ?_)) <;> (try simp only [zs, ne_eq] at h) <;> (try simp (disch := omega) only [w64] at h) <;> (try exact zx)) | (with_reducible intro hz; (try exact absurd hz (Nat.succ_ne_zero _)))))
  refine loopW tabOk (E := [(42, s_szStandard)]) ⟨ok_szStandard, trivial⟩ [] (σ := Nat) (fun i => [(0, .sl 0 s n x), (1, .int .i64 (k - n - tot (fun a : StT => a.1.length) ((seg l s n).take i))), (5, .int .i64 i)]) (fun i => [.arr (.prod .str (.prod (.int .i64) (.prod (.prod (.prod (.int .i64) (.int .i64)) (.prod (.int .i64) (.int .i64))) (.prod (.prod (.int .i64) (.int .i64)) (.prod (.int .i64) (.int .i64)))))) l 10 wr]) (fun i => n - i) (fun i => i ≤ n ∧ (tot (fun a : StT => a.1.length) ((seg l s n).take i) : Int) ≤ k - n) 0 ⟨Nat.zero_le _, by simp [tot]; omega⟩ ?_ ?_
  · (repeat' ((try (conv => whnf)); first | (with_reducible first | refine And.intro ?_ ?_ | refine WX.of ?_) | exact zc | ((with_reducible refine VC.mk ?_); exact zw) | (with_reducible first | refine splitT ?_ | refine splitF ?_) | ((with_reducible refine splitM.mk (fun hsm => ?_) (fun hsm => ?_)) <;> (try exact zx)) | ((with_reducible refine splitB.mk (fun h => ?_) (fun h => ?_)) <;> (try simp only [zs, ne_eq] at h) <;> (try simp (disch := omega) only [w64] at h) <;> (try exact zx)) | (with_reducible intro hz; (try exact absurd hz (Nat.succ_ne_zero _)))))
    all_goals (refine ⟨?_⟩; rw [w64 (by omega)]; simp [tot])
  · intro i ⟨hi, hp⟩
    by_cases hlt : i < n
    · obtain ⟨⟨nm, fr, ⟨⟨p, q⟩, p', q'⟩, ⟨dp, dq⟩, md, gd⟩, ha⟩ := get_some (l := seg l s n) (i := i) (by omega)
      have hno := ho _ _ (seg_get ha).1
      dsimp only at hno
      have hst := tot_step (f := fun a : StT => a.1.length) ha
      dsimp only at hst
      have hle := tot_le (f := fun a : StT => a.1.length) (L := seg l s n) (i + 1)
      (repeat' ((try (conv => whnf)); first | (with_reducible first | refine And.intro ?_ ?_ | refine WX.of ?_) | exact zc | ((with_reducible refine VC.mk ?_); exact zw) | refine atL_i ha ?_ | (with_reducible first | refine splitT ?_ | refine splitF ?_) | ((with_reducible refine splitM.mk (fun hsm => ?_) (fun hsm => ?_)) <;> (try exact zx)) | ((with_reducible refine splitB.mk (fun h => ?_) (fun h => ?_)) <;> (try simp only [zs, ne_eq] at h) <;> (try simp (disch := omega) only [w64] at h) <;> (try exact zx)) | (with_reducible intro hz; (try exact absurd hz (Nat.succ_ne_zero _)))))
      refine ⟨i + 1, by omega, ⟨hlt, by omega⟩, ?_⟩
      (repeat' ((try (conv => whnf)); first | (with_reducible first | refine And.intro ?_ ?_ | refine WX.of ?_) | exact zc | ((with_reducible refine VC.mk ?_); exact zw) | (with_reducible first | refine splitT ?_ | refine splitF ?_) | ((with_reducible refine splitM.mk (fun hsm => ?_) (fun hsm => ?_)) <;> (try exact zx)) | ((with_reducible refine splitB.mk (fun h => ?_) (fun h => ?_)) <;> (try simp only [zs, ne_eq] at h) <;> (try simp (disch := omega) only [w64] at h) <;> (try exact zx)) | (with_reducible intro hz; (try exact absurd hz (Nat.succ_ne_zero _)))))
    · obtain rfl : i = n := by omega
      rw [List.take_of_length_le (by omega)] at hp ⊢
      (repeat' ((try (conv => whnf)); first | (with_reducible first | refine And.intro ?_ ?_ | refine WX.of ?_) | exact zc | ((with_reducible refine VC.mk ?_); exact zw) | (with_reducible first | refine splitT ?_ | refine splitF ?_) | ((with_reducible refine splitM.mk (fun hsm => ?_) (fun hsm => ?_)) <;> (try exact zx)) | ((with_reducible refine splitB.mk (fun h => ?_) (fun h => ?_)) <;> (try simp only [zs, ne_eq] at h) <;> (try simp (disch := omega) only [w64] at h) <;> (try exact zx)) | (with_reducible intro hz; (try exact absurd hz (Nat.succ_ne_zero _)))))
theorem ok_szStandardS : SpecOk Try.prog 8 s_szStandardS := by
  intro args S h; unfold s_szStandardS at h ⊢; (split at h <;> first | exact False.elim h | skip)
  dsimp only at h ⊢
  rename_i c n k l
  obtain ⟨h1, ⟨h2, h3⟩, h4, h5⟩ := h
  refine RunsS.opt (pre := []) (post := [_]) rfl rfl h2 (fun hn _ hl => ?_) (fun hn _ hl => ?_) (szStandardS_sl (by simpa using h2) h1 h4 h5) h3
  · subst hn; subst hl
    simpa [seg, tot, show max (-1) k = k by omega] using szStandardS_none (.inl rfl) h1
  · subst hn; subst hl
    simpa [seg, tot, show max (-1) k = k by omega] using szStandardS_none (.inr rfl) h1
def s_toStandard : Spec := fun args S => match args, S with
  | [.agg [.str nm, .int .i64 fr, .int .i64 p, .int .i64 q, .int .i64 p', .int .i64 q', .int .i64 dp, .int .i64 dq, .int .i64 md, .int .i64 gd]], [] => ⟨True, .agg [.str nm, .int .i64 fr, .int .i64 p, .int .i64 q, .int .i64 p', .int .i64 q', .int .i64 dp, .int .i64 dq, .int .i64 md, .int .i64 gd], []⟩
  | _, _ => noSpec
def s_toSpan : Spec := fun args S => match args, S with
  | [.agg [.int .i64 p, .int .i64 q, .int .i64 p', .int .i64 q']], [] => ⟨True, .agg [.int .i64 p, .int .i64 q, .int .i64 p', .int .i64 q'], []⟩
  | _, _ => noSpec
theorem ok_toSpan : SpecOk Try.prog 14 s_toSpan := by
  intro args S h; unfold s_toSpan at h ⊢; (split at h <;> first | exact False.elim h | skip)
  dsimp only at h ⊢
  refine funW tabOk (E := [(54, s_toFrac)]) ⟨ok_toFrac, trivial⟩ [] (k := 0) (fn := Try.f14) rfl rfl rfl rfl rfl rfl ?_
  (repeat' ((try (conv => whnf)); first | (with_reducible first | refine And.intro ?_ ?_ | refine WX.of ?_) | exact zc | ((with_reducible refine VC.mk ?_); exact zw) | (with_reducible first | refine splitT ?_ | refine splitF ?_) | ((with_reducible refine splitM.mk (fun hsm => ?_) (fun hsm => ?_)) <;> (try exact zx)) | ((with_reducible refine splitB.mk (fun h => ?_) (fun h => ?_)) <;> (try simp only [zs, ne_eq] at h) <;> (try simp (disch := omega) only [w64] at h) <;> (try exact zx)) | (with_reducible intro hz; (try exact absurd hz (Nat.succ_ne_zero _)))))
theorem ok_toStandard : SpecOk Try.prog 47 s_toStandard := by
  intro args S h; unfold s_toStandard at h ⊢; (split at h <;> first | exact False.elim h | skip)
  dsimp only at h ⊢
  refine funW tabOk (E := [(54, s_toFrac), (14, s_toSpan)]) ⟨ok_toFrac, ok_toSpan, trivial⟩ [] (k := 0) (fn := Try.f47) rfl rfl rfl rfl rfl rfl ?_
  (repeat' ((try dsimp only); (try (conv => whnf)); first | (with_reducible first | refine And.intro ?_ ?_ | refine WX.of ?_) | exact zc | ((with_reducible refine VC.mk ?_); exact zw) | (with_reducible first | refine splitT ?_ | refine splitF ?_) | ((with_reducible refine splitM.mk (fun hsm => ?_) (fun hsm => ?_)) <;> (try exact zx)) | ((with_reducible refine splitB.mk (fun h => ?_) (fun h => ?_)) <;> (try simp only [zs, ne_eq] at h) <;> (try simp (disch := omega) only [w64] at h) <;> (try exact zx)) | (with_reducible intro hz; (try exact absurd hz (Nat.succ_ne_zero _)))))
def s_eqSpanC : Spec := fun args S => match args, S with
  | [.agg [.int .i64 p, .int .i64 q, .int .i64 p', .int .i64 q'], .agg [.int .i64 r, .int .i64 s, .int .i64 r', .int .i64 s']], [] => ⟨True, .bool ((decide (p = r) && decide (q = s)) && (decide (p' = r') && decide (q' = s'))), []⟩
  | _, _ => noSpec
theorem ok_eqSpanC : SpecOk Try.prog 16 s_eqSpanC := by
  intro args S h; unfold s_eqSpanC at h ⊢; (split at h <;> first | exact False.elim h | skip)
  dsimp only at h ⊢
  refine funW tabOk (E := [(58, s_eqFrac)]) ⟨ok_eqFrac, trivial⟩ [] (k := 0) (fn := Try.f16) rfl rfl rfl rfl rfl rfl ?_
  (repeat' ((try (conv => whnf)); first | (with_reducible first | refine And.intro ?_ ?_ | refine WX.of ?_) | exact zc | ((with_reducible refine VC.mk ?_); exact zw) | (with_reducible first | refine splitT ?_ | refine splitF ?_) | ((with_reducible refine splitM.mk (fun hsm => ?_) (fun hsm => ?_)) <;> (try exact zx)) | ((with_reducible refine splitB.mk (fun h => ?_) (fun h => ?_)) <;> (try simp only [zs, ne_eq] at h) <;> (try simp (disch := omega) only [w64] at h) <;> (try exact zx)) | (with_reducible intro hz; (try exact absurd hz (Nat.succ_ne_zero _)))))
  all_goals (refine ⟨?_⟩; simp_all)
def s_eqStandard : Spec := fun args S => match args, S with
  | [.agg [.str nm, .int .i64 fr, .int .i64 p, .int .i64 q, .int .i64 p', .int .i64 q', .int .i64 dp, .int .i64 dq, .int .i64 md, .int .i64 gd], .agg [.str nm0, .int .i64 fr0, .int .i64 p0, .int .i64 q0, .int .i64 p0', .int .i64 q0', .int .i64 dp0, .int .i64 dq0, .int .i64 md0, .int .i64 gd0]], [] => ⟨True, .bool (decide ((nm, fr, ((p, q), p', q'), (dp, dq), md, gd) = (nm0, fr0, ((p0, q0), p0', q0'), (dp0, dq0), md0, gd0))), []⟩
  | _, _ => noSpec
theorem ok_eqStandard : SpecOk Try.prog 48 s_eqStandard := by
  intro args S h; unfold s_eqStandard at h ⊢; (split at h <;> first | exact False.elim h | skip)
  dsimp only at h ⊢
  refine funW tabOk (E := [(58, s_eqFrac), (16, s_eqSpanC)]) ⟨ok_eqFrac, ok_eqSpanC, trivial⟩ [] (k := 0) (fn := Try.f48) rfl rfl rfl rfl rfl rfl ?_
  (repeat' ((try (conv => whnf)); first | (with_reducible first | refine And.intro ?_ ?_ | refine WX.of ?_) | exact zc | ((with_reducible refine VC.mk ?_); exact zw) | (with_reducible first | refine splitT ?_ | refine splitF ?_) | ((with_reducible refine splitM.mk (fun hsm => ?_) (fun hsm => ?_)) <;> (try exact zx)) | ((with_reducible refine splitB.mk (fun h => ?_) (fun h => ?_)) <;> (try simp only [zs, ne_eq] at h) <;> (try simp (disch := omega) only [w64] at h) <;> (try exact zx)) | (with_reducible intro hz; (try exact absurd hz (Nat.succ_ne_zero _)))))
  all_goals (refine ⟨?_⟩; simp_all)
def s_toStandardS : Spec := fun args S => match args, S with
  | [.opt c 0 n 0], [.arrO (.prod .str (.prod (.int .i64) (.prod (.prod (.prod (.int .i64) (.int .i64)) (.prod (.int .i64) (.int .i64))) (.prod (.prod (.int .i64) (.int .i64)) (.prod (.int .i64) (.int .i64)))))) l 10] => ⟨n ≤ l.length ∧ (c = true → l = []) ∧ n ≤ 1048576, .sl 1 0 n 0, [.arrO (.prod .str (.prod (.int .i64) (.prod (.prod (.prod (.int .i64) (.int .i64)) (.prod (.int .i64) (.int .i64))) (.prod (.prod (.int .i64) (.int .i64)) (.prod (.int .i64) (.int .i64)))))) l 10, .arr (.prod .str (.prod (.int .i64) (.prod (.prod (.prod (.int .i64) (.int .i64)) (.prod (.int .i64) (.int .i64))) (.prod (.prod (.int .i64) (.int .i64)) (.prod (.int .i64) (.int .i64)))))) (seg l 0 n) 10 true]⟩
  | [.sl 0 s n x], [.arr (.prod .str (.prod (.int .i64) (.prod (.prod (.prod (.int .i64) (.int .i64)) (.prod (.int .i64) (.int .i64))) (.prod (.prod (.int .i64) (.int .i64)) (.prod (.int .i64) (.int .i64)))))) l 10 wr] => ⟨s + n ≤ l.length ∧ n ≤ 1048576, .sl 1 0 n 0, [.arr (.prod .str (.prod (.int .i64) (.prod (.prod (.prod (.int .i64) (.int .i64)) (.prod (.int .i64) (.int .i64))) (.prod (.prod (.int .i64) (.int .i64)) (.prod (.int .i64) (.int .i64)))))) l 10 wr, .arr (.prod .str (.prod (.int .i64) (.prod (.prod (.prod (.int .i64) (.int .i64)) (.prod (.int .i64) (.int .i64))) (.prod (.prod (.int .i64) (.int .i64)) (.prod (.int .i64) (.int .i64)))))) (seg l s n) 10 true]⟩
  | _, _ => noSpec
theorem toStandardS_sl {s n x : Nat} {l : List (ET.T (.prod .str (.prod (.int .i64) (.prod (.prod (.prod (.int .i64) (.int .i64)) (.prod (.int .i64) (.int .i64))) (.prod (.prod (.int .i64) (.int .i64)) (.prod (.int .i64) (.int .i64)))))))} {wr : Bool} (h : s + n ≤ l.length ∧ n ≤ 1048576) : RunsS Try.prog 10 [.sl 0 s n x] [.arr (.prod .str (.prod (.int .i64) (.prod (.prod (.prod (.int .i64) (.int .i64)) (.prod (.int .i64) (.int .i64))) (.prod (.prod (.int .i64) (.int .i64)) (.prod (.int .i64) (.int .i64)))))) l 10 wr] (.sl 1 0 n 0) [.arr (.prod .str (.prod (.int .i64) (.prod (.prod (.prod (.int .i64) (.int .i64)) (.prod (.int .i64) (.int .i64))) (.prod (.prod (.int .i64) (.int .i64)) (.prod (.int .i64) (.int .i64)))))) l 10 wr, .arr (.prod .str (.prod (.int .i64) (.prod (.prod (.prod (.int .i64) (.int .i64)) (.prod (.int .i64) (.int .i64))) (.prod (.prod (.int .i64) (.int .i64)) (.prod (.int .i64) (.int .i64)))))) (seg l s n) 10 true] := by
  have hL := seg_len h.1
  refine funW tabOk (E := [(47, s_toStandard)]) ⟨ok_toStandard, trivial⟩ [] (k := 1) (fn := Try.f10) rfl rfl rfl rfl rfl rfl ?_
  (repeat' ((try (conv => whnf)); first | (with_reducible first | refine And.intro ?_ ?_ | refine WX.of ?_) | exact zc | ((with_reducible refine VC.mk ?_); exact zw) | ((with_reducible refine VC.mk ?_); (refine ⟨?_, rfl, ?_, ?_⟩); (omega); (refine Int.le_trans (Int.mul_le_mul_of_nonneg_right (b := 100000) ?_ ?_) ?_; (decide); (omega); (omega)); (omega)) | (with_reducible first | refine splitT ?_ | refine splitF ?_) | ((with_reducible refine splitM.mk (fun hsm => ?_) (fun hsm => ?_)) <;> (try exact zx)) | ((with_reducible refine splitB.mk (fun h => ?_) (fun h => ?_)) <;> (try simp only [zs, ne_eq] at h) <;> (try simp (disch := omega) only [w64] at h) <;> (try exact zx)) | (with_reducible intro hz; (try exact absurd hz (Nat.succ_ne_zero _)))))
  refine loopW tabOk (E := [(47, s_toStandard)]) ⟨ok_toStandard, trivial⟩ [] (σ := Nat) (fun i => [(0, .sl 0 s n x), (3, .sl 1 0 n 0), (4, .int .i64 i)]) (fun i => [.arr (.prod .str (.prod (.int .i64) (.prod (.prod (.prod (.int .i64) (.int .i64)) (.prod (.int .i64) (.int .i64))) (.prod (.prod (.int .i64) (.int .i64)) (.prod (.int .i64) (.int .i64)))))) l 10 wr, .arr (.prod .str (.prod (.int .i64) (.prod (.prod (.prod (.int .i64) (.int .i64)) (.prod (.int .i64) (.int .i64))) (.prod (.prod (.int .i64) (.int .i64)) (.prod (.int .i64) (.int .i64)))))) ((seg l s n).take i ++ List.replicate (n - i) ((([], 0, ((0, 0), 0, 0), (0, 0), 0, 0) : StT) : ET.T (.prod .str (.prod (.int .i64) (.prod (.prod (.prod (.int .i64) (.int .i64)) (.prod (.int .i64) (.int .i64))) (.prod (.prod (.int .i64) (.int .i64)) (.prod (.int .i64) (.int .i64)))))))) 10 true]) (fun i => n - i) (fun i => i ≤ n) 0 (Nat.zero_le _) ?_ ?_
  · (repeat' ((try (conv => whnf)); first | (with_reducible first | refine And.intro ?_ ?_ | refine WX.of ?_) | exact zc | ((with_reducible refine VC.mk ?_); exact zw) | (with_reducible first | refine splitT ?_ | refine splitF ?_) | ((with_reducible refine splitM.mk (fun hsm => ?_) (fun hsm => ?_)) <;> (try exact zx)) | ((with_reducible refine splitB.mk (fun h => ?_) (fun h => ?_)) <;> (try simp only [zs, ne_eq] at h) <;> (try simp (disch := omega) only [w64] at h) <;> (try exact zx)) | (with_reducible intro hz; (try exact absurd hz (Nat.succ_ne_zero _)))))
    all_goals exact ⟨by simp⟩
  · intro i hi
    by_cases hlt : i < n
    · obtain ⟨⟨nm, fr, ⟨⟨p, q⟩, p', q'⟩, ⟨dp, dq⟩, md, gd⟩, ha⟩ := get_some (l := seg l s n) (i := i) (by omega)
      (repeat' ((try (conv => whnf)); first | (with_reducible first | refine And.intro ?_ ?_ | refine WX.of ?_) | exact zc | ((with_reducible refine VC.mk ?_); exact zw) | refine atL_i ha ?_ | refine atL_0 (fill_at hL hlt) ?_ | (with_reducible first | refine splitT ?_ | refine splitF ?_) | ((with_reducible refine splitM.mk (fun hsm => ?_) (fun hsm => ?_)) <;> (try exact zx)) | ((with_reducible refine splitB.mk (fun h => ?_) (fun h => ?_)) <;> (try simp only [zs, ne_eq] at h) <;> (try simp (disch := omega) only [w64] at h) <;> (try exact zx)) | (with_reducible intro hz; (try exact absurd hz (Nat.succ_ne_zero _)))))
      refine ⟨i + 1, by omega, hlt, ?_⟩
      (repeat' ((try (conv => whnf)); first | (with_reducible first | refine And.intro ?_ ?_ | refine WX.of ?_) | exact zc | ((with_reducible refine VC.mk ?_); exact zw) | (with_reducible first | refine splitT ?_ | refine splitF ?_) | ((with_reducible refine splitM.mk (fun hsm => ?_) (fun hsm => ?_)) <;> (try exact zx)) | ((with_reducible refine splitB.mk (fun h => ?_) (fun h => ?_)) <;> (try simp only [zs, ne_eq] at h) <;> (try simp (disch := omega) only [w64] at h) <;> (try exact zx)) | (with_reducible intro hz; (try exact absurd hz (Nat.succ_ne_zero _)))))
      exact ⟨by simp [fill_step hL ha]⟩
    · (repeat' ((try (conv => whnf)); first | (with_reducible first | refine And.intro ?_ ?_ | refine WX.of ?_) | exact zc | ((with_reducible refine VC.mk ?_); exact zw) | (with_reducible first | refine splitT ?_ | refine splitF ?_) | ((with_reducible refine splitM.mk (fun hsm => ?_) (fun hsm => ?_)) <;> (try exact zx)) | ((with_reducible refine splitB.mk (fun h => ?_) (fun h => ?_)) <;> (try simp only [zs, ne_eq] at h) <;> (try simp (disch := omega) only [w64] at h) <;> (try exact zx)) | (with_reducible intro hz; (try exact absurd hz (Nat.succ_ne_zero _)))))
      obtain rfl : i = n := by omega
      exact ⟨by rw [fill_end hL]⟩
theorem toStandardS_none {v : SV} (hv : v = .nils ∨ v = .sl 0 0 0 0) : RunsS Try.prog 10 [v] [.gone] (.sl 1 0 0 0) [.gone, .arr (.prod .str (.prod (.int .i64) (.prod (.prod (.prod (.int .i64) (.int .i64)) (.prod (.int .i64) (.int .i64))) (.prod (.prod (.int .i64) (.int .i64)) (.prod (.int .i64) (.int .i64)))))) [] 10 true] := by
  rcases hv with rfl | rfl
  all_goals
    refine funW tabOk (E := [(47, s_toStandard)]) ⟨ok_toStandard, trivial⟩ [] (k := 1) (fn := Try.f10) rfl rfl rfl rfl rfl rfl ?_
    (repeat' ((try (conv => whnf)); first | (with_reducible first | refine And.intro ?_ ?_ | refine WX.of ?_) | exact zc | ((with_reducible refine VC.mk ?_); exact zw) | (with_reducible first | refine splitT ?_ | refine splitF ?_) | ((with_reducible refine splitM.mk (fun hsm => ?_) (fun hsm => ?_)) <;> (try exact zx)) | ((with_reducible refine splitB.mk (fun h => ?_) (fun h => ?_)) <;> (try simp only [zs, ne_eq] at h) <;> (try simp (disch := omega) only [w64] at h) <;> (try exact zx)) | (with_reducible intro hz; (try exact absurd hz (Nat.succ_ne_zero _)))))
    refine loop1 tabOk (E := [(47, s_toStandard)]) ⟨ok_toStandard, trivial⟩ [] ?_
    (repeat' ((try (conv => whnf)); first | (with_reducible first | refine And.intro ?_ ?_ | refine WX.of ?_) | exact zc | ((with_reducible refine VC.mk ?_); exact zw) | (with_reducible first | refine splitT ?_ | refine splitF ?_) | ((with_reducible refine splitM.mk (fun hsm => ?_) (fun hsm => ?_)) <;> (try exact zx)) | ((with_reducible refine splitB.mk (fun h => ?_) (fun h => ?_)) <;> (try simp only [zs, ne_eq] at h) <;> (try simp (disch := omega) only [w64] at h) <;> (try exact zx)) | (with_reducible intro hz; (try exact absurd hz (Nat.succ_ne_zero _)))))
theorem ok_toStandardS : SpecOk Try.prog 10 s_toStandardS := by
  intro args S h; unfold s_toStandardS at h ⊢; (split at h <;> first | exact False.elim h | skip)
  dsimp only at h ⊢
  · exact RunsS.opt (pre := []) (post := []) rfl rfl h.1 (fun hn _ hl => by subst hn; subst hl; exact toStandardS_none (.inl rfl)) (fun hn _ hl => by subst hn; subst hl; exact toStandardS_none (.inr rfl)) (toStandardS_sl ⟨by simpa using h.1, h.2.2⟩) h.2.1
  · exact toStandardS_sl h
instance instF2 : DecidableEq ((Int × Int) × Int × Int) := inferInstance
instance instStT : DecidableEq (ET.T (.prod .str (.prod (.int .i64) (.prod (.prod (.prod (.int .i64) (.int .i64)) (.prod (.int .i64) (.int .i64))) (.prod (.prod (.int .i64) (.int .i64)) (.prod (.int .i64) (.int .i64))))))) := inferInstanceAs (DecidableEq (List UInt8 × Int × ((Int × Int) × Int × Int) × (Int × Int) × Int × Int))
def s_eqStandardS : Spec := fun args S => match args, S with
  | [.sl 0 s n x, .sl 1 s' n' x'], [.arr (.prod .str (.prod (.int .i64) (.prod (.prod (.prod (.int .i64) (.int .i64)) (.prod (.int .i64) (.int .i64))) (.prod (.prod (.int .i64) (.int .i64)) (.prod (.int .i64) (.int .i64)))))) l 10 wr, .arr (.prod .str (.prod (.int .i64) (.prod (.prod (.prod (.int .i64) (.int .i64)) (.prod (.int .i64) (.int .i64))) (.prod (.prod (.int .i64) (.int .i64)) (.prod (.int .i64) (.int .i64)))))) l' 10 wr'] => ⟨s + n ≤ l.length ∧ s' + n' ≤ l'.length ∧ n ≤ 4611686018427387904, .bool (decide (seg l s n = seg l' s' n')), [.arr (.prod .str (.prod (.int .i64) (.prod (.prod (.prod (.int .i64) (.int .i64)) (.prod (.int .i64) (.int .i64))) (.prod (.prod (.int .i64) (.int .i64)) (.prod (.int .i64) (.int .i64)))))) l 10 wr, .arr (.prod .str (.prod (.int .i64) (.prod (.prod (.prod (.int .i64) (.int .i64)) (.prod (.int .i64) (.int .i64))) (.prod (.prod (.int .i64) (.int .i64)) (.prod (.int .i64) (.int .i64)))))) l' 10 wr']⟩
  | [.nils, .sl 0 s' n' x'], [.arr (.prod .str (.prod (.int .i64) (.prod (.prod (.prod (.int .i64) (.int .i64)) (.prod (.int .i64) (.int .i64))) (.prod (.prod (.int .i64) (.int .i64)) (.prod (.int .i64) (.int .i64)))))) l' 10 wr'] => ⟨s' + n' ≤ l'.length ∧ n' = 0, .bool true, [.arr (.prod .str (.prod (.int .i64) (.prod (.prod (.prod (.int .i64) (.int .i64)) (.prod (.int .i64) (.int .i64))) (.prod (.prod (.int .i64) (.int .i64)) (.prod (.int .i64) (.int .i64)))))) l' 10 wr']⟩
  | _, _ => noSpec
theorem eqStandardS_nil {s x : Nat} {l : List (ET.T (.prod .str (.prod (.int .i64) (.prod (.prod (.prod (.int .i64) (.int .i64)) (.prod (.int .i64) (.int .i64))) (.prod (.prod (.int .i64) (.int .i64)) (.prod (.int .i64) (.int .i64)))))))} {wr : Bool} : RunsS Try.prog 12 [.nils, .sl 0 s 0 x] [.arr (.prod .str (.prod (.int .i64) (.prod (.prod (.prod (.int .i64) (.int .i64)) (.prod (.int .i64) (.int .i64))) (.prod (.prod (.int .i64) (.int .i64)) (.prod (.int .i64) (.int .i64)))))) l 10 wr] (.bool true) [.arr (.prod .str (.prod (.int .i64) (.prod (.prod (.prod (.int .i64) (.int .i64)) (.prod (.int .i64) (.int .i64))) (.prod (.prod (.int .i64) (.int .i64)) (.prod (.int .i64) (.int .i64)))))) l 10 wr] := by
  refine funW tabOk (E := [(48, s_eqStandard)]) ⟨ok_eqStandard, trivial⟩ [] (k := 1) (fn := Try.f12) rfl rfl rfl rfl rfl rfl ?_
  (repeat' ((try (conv => whnf)); first | (with_reducible first | refine And.intro ?_ ?_ | refine WX.of ?_) | exact zc | ((with_reducible refine VC.mk ?_); exact zw) | (with_reducible first | refine splitT ?_ | refine splitF ?_) | ((with_reducible refine splitM.mk (fun hsm => ?_) (fun hsm => ?_)) <;> (try exact zx)) | ((with_reducible refine splitB.mk (fun h => ?_) (fun h => ?_)) <;> (try simp only [zs, ne_eq] at h) <;> (try simp (disch := omega) only [w64] at h) <;> (try exact zx)) | (with_reducible intro hz; (try exact absurd hz (Nat.succ_ne_zero _)))))
  refine loop1 tabOk (E := [(48, s_eqStandard)]) ⟨ok_eqStandard, trivial⟩ [] ?_
  (repeat' ((try (conv => whnf)); first | (with_reducible first | refine And.intro ?_ ?_ | refine WX.of ?_) | exact zc | ((with_reducible refine VC.mk ?_); exact zw) | (with_reducible first | refine splitT ?_ | refine splitF ?_) | ((with_reducible refine splitM.mk (fun hsm => ?_) (fun hsm => ?_)) <;> (try exact zx)) | ((with_reducible refine splitB.mk (fun h => ?_) (fun h => ?_)) <;> (try simp only [zs, ne_eq] at h) <;> (try simp (disch := omega) only [w64] at h) <;> (try exact zx)) | (with_reducible intro hz; (try exact absurd hz (Nat.succ_ne_zero _)))))
theorem ok_eqStandardS : SpecOk Try.prog 12 s_eqStandardS := by
  intro args S h; unfold s_eqStandardS at h ⊢; (split at h <;> first | exact False.elim h | skip)
  dsimp only at h ⊢
  rotate_left 1
  · obtain ⟨h1, rfl⟩ := h
    exact eqStandardS_nil
  rename_i s n x s' n' x' l wr l' wr'
  have hL := seg_len h.1
  have hM := seg_len h.2.1
  refine funW tabOk (E := [(48, s_eqStandard)]) ⟨ok_eqStandard, trivial⟩ [] (k := 2) (fn := Try.f12) rfl rfl rfl rfl rfl rfl ?_
  (repeat' ((try (conv => whnf)); first | (with_reducible first | refine And.intro ?_ ?_ | refine WX.of ?_) | exact zc | ((with_reducible refine VC.mk ?_); exact zw) | (with_reducible first | refine splitT ?_ | refine splitF ?_) | ((with_reducible refine splitM.mk (fun hsm => ?_) (fun hsm => ?_)) <;> (try exact zx)) | ((with_reducible refine splitB.mk (fun h => ?_) (fun h => ?_)) <;> (try simp only [zs, ne_eq] at h) <;> (try simp (disch := omega) only [w64] at h) <;> (try exact zx)) | (with_reducible intro hz; (try exact absurd hz (Nat.succ_ne_zero _)))))
  · refine ⟨?_⟩
    rw [decide_eq_false]; intro e
    rw [e] at hL; omega
  · obtain rfl : n = n' := by omega
    refine loopW tabOk (E := [(48, s_eqStandard)]) ⟨ok_eqStandard, trivial⟩ [] (σ := Nat) (fun i => [(0, .sl 0 s n x), (1, .sl 1 s' n x'), (5, .int .i64 i)]) (fun i => [.arr (.prod .str (.prod (.int .i64) (.prod (.prod (.prod (.int .i64) (.int .i64)) (.prod (.int .i64) (.int .i64))) (.prod (.prod (.int .i64) (.int .i64)) (.prod (.int .i64) (.int .i64)))))) l 10 wr, .arr (.prod .str (.prod (.int .i64) (.prod (.prod (.prod (.int .i64) (.int .i64)) (.prod (.int .i64) (.int .i64))) (.prod (.prod (.int .i64) (.int .i64)) (.prod (.int .i64) (.int .i64)))))) l' 10 wr']) (fun i => n - i) (fun i => i ≤ n ∧ (seg l s n).take i = (seg l' s' n).take i) 0 ⟨Nat.zero_le _, by simp⟩ ?_ ?_
    · (repeat' ((try (conv => whnf)); first | (with_reducible first | refine And.intro ?_ ?_ | refine WX.of ?_) | exact zc | ((with_reducible refine VC.mk ?_); exact zw) | (with_reducible first | refine splitT ?_ | refine splitF ?_) | ((with_reducible refine splitM.mk (fun hsm => ?_) (fun hsm => ?_)) <;> (try exact zx)) | ((with_reducible refine splitB.mk (fun h => ?_) (fun h => ?_)) <;> (try simp only [zs, ne_eq] at h) <;> (try simp (disch := omega) only [w64] at h) <;> (try exact zx)) | (with_reducible intro hz; (try exact absurd hz (Nat.succ_ne_zero _)))))
    · intro i ⟨hi, hp⟩
      by_cases hlt : i < n
      · obtain ⟨⟨nm, fr, ⟨⟨p, q⟩, p', q'⟩, ⟨dp, dq⟩, md, gd⟩, ha⟩ := get_some (l := seg l s n) (i := i) (by omega)
        obtain ⟨⟨nm0, fr0, ⟨⟨p0, q0⟩, p0', q0'⟩, ⟨dp0, dq0⟩, md0, gd0⟩, hb⟩ := get_some (l := seg l' s' n) (i := i) (by omega)
        (repeat' ((try (conv => whnf)); first | (with_reducible first | refine And.intro ?_ ?_ | refine WX.of ?_) | exact zc | ((with_reducible refine VC.mk ?_); exact zw) | refine atL_i ha ?_ | refine atL_i hb ?_ | (with_reducible first | refine splitT ?_ | refine splitF ?_) | ((with_reducible refine splitM.mk (fun hsm => ?_) (fun hsm => ?_)) <;> (try exact zx)) | ((with_reducible refine splitB.mk (fun h => ?_) (fun h => ?_)) <;> (try simp only [zs, ne_eq] at h) <;> (try simp (disch := omega) only [w64] at h) <;> (try exact zx)) | (with_reducible intro hz; (try exact absurd hz (Nat.succ_ne_zero _)))))
        · refine ⟨?_⟩; rw [decide_eq_false]; exact same_not ha hb (by simpa using h)
        · refine ⟨i + 1, by omega, ⟨hlt, same_step ha hb hp (by simpa using h)⟩, ?_⟩
          (repeat' ((try (conv => whnf)); first | (with_reducible first | refine And.intro ?_ ?_ | refine WX.of ?_) | exact zc | ((with_reducible refine VC.mk ?_); exact zw) | (with_reducible first | refine splitT ?_ | refine splitF ?_) | ((with_reducible refine splitM.mk (fun hsm => ?_) (fun hsm => ?_)) <;> (try exact zx)) | ((with_reducible refine splitB.mk (fun h => ?_) (fun h => ?_)) <;> (try simp only [zs, ne_eq] at h) <;> (try simp (disch := omega) only [w64] at h) <;> (try exact zx)) | (with_reducible intro hz; (try exact absurd hz (Nat.succ_ne_zero _)))))
      · (repeat' ((try (conv => whnf)); first | (with_reducible first | refine And.intro ?_ ?_ | refine WX.of ?_) | exact zc | ((with_reducible refine VC.mk ?_); exact zw) | (with_reducible first | refine splitT ?_ | refine splitF ?_) | ((with_reducible refine splitM.mk (fun hsm => ?_) (fun hsm => ?_)) <;> (try exact zx)) | ((with_reducible refine splitB.mk (fun h => ?_) (fun h => ?_)) <;> (try simp only [zs, ne_eq] at h) <;> (try simp (disch := omega) only [w64] at h) <;> (try exact zx)) | (with_reducible intro hz; (try exact absurd hz (Nat.succ_ne_zero _)))))
        obtain rfl : i = n := by omega
        refine ⟨?_⟩; rw [decide_eq_true]; exact same_end hL hM hp
end Go.Proofs.Ytonnkpclllmkoaa.Eng
set_option linter.unusedVariables false
set_option linter.unusedSimpArgs false
namespace Go.Proofs.Ytonnkpclllmkoaa.Eng
open Go Go.RowKit
set_option maxRecDepth 100000
set_option maxHeartbeats 1600000 in
theorem law_areApart {c0 : Bool} {n0 : Nat} {l0 : List StT} (hn0 : n0 ≤ l0.length) (hc0 : c0 = true → l0 = []) (ho0 : ∀ y ∈ l0, ET.Ok (.prod .str (.prod (.int .i64) (.prod (.prod (.prod (.int .i64) (.int .i64)) (.prod (.int .i64) (.int .i64))) (.prod (.prod (.int .i64) (.int .i64)) (.prod (.int .i64) (.int .i64)))))) y) (hz0 : l0.length ≤ 9223372036854775807) {y1 : Int} (ho1 : -9223372036854775808 ≤ y1 ∧ y1 ≤ 9223372036854775807) {y2 : Int} (ho2 : -9223372036854775808 ≤ y2 ∧ y2 ≤ 9223372036854775807) {y3 : Int} (ho3 : -9223372036854775808 ≤ y3 ∧ y3 ≤ 9223372036854775807) : RunsS Try.prog 3 [.opt c0 0 n0 0, .int .i64 y1, .int .i64 y2, .int .i64 y3] [.arrO (.prod .str (.prod (.int .i64) (.prod (.prod (.prod (.int .i64) (.int .i64)) (.prod (.int .i64) (.int .i64))) (.prod (.prod (.int .i64) (.int .i64)) (.prod (.int .i64) (.int .i64)))))) l0 10] (.bool true) [.arrO (.prod .str (.prod (.int .i64) (.prod (.prod (.prod (.int .i64) (.int .i64)) (.prod (.int .i64) (.int .i64))) (.prod (.prod (.int .i64) (.int .i64)) (.prod (.int .i64) (.int .i64)))))) l0 10] := by
  have hL : (seg l0 0 n0).length = n0 := seg_len (by omega)
  have hb0 : ∀ (j : Nat) (a : StT), l0[j]? = some a → a.1.length ≤ 9223372036854775807 := fun j a ha => (ho0 a (List.mem_of_getElem? ha)).1
  have hS : seg (seg l0 0 n0) 0 n0 = seg l0 0 n0 := seg_full hL
  have htt : ∀ (j : Nat) (a : StT), (seg l0 0 n0)[j]? = some a → a.1.length ≤ tot (fun a : StT => a.1.length) (seg l0 0 n0) := fun j a ha => tot_at (f := fun a : StT => a.1.length) ha
  refine funW tabOk (E := [(8, s_szStandardS), (10, s_toStandardS), (9, s_apart), (11, s_apart), (12, s_eqStandardS)]) ⟨ok_szStandardS, ok_toStandardS, ok_AreApartS, ok_AreApartI, ok_eqStandardS, trivial⟩ [] (k := 1) (fn := Try.f3) rfl rfl rfl rfl rfl rfl ?_
  (repeat' ((try (conv => whnf)); first | (with_reducible first | refine And.intro ?_ ?_ | refine WX.of ?_) | exact zc | ((with_reducible refine VC.mk ?_); exact zw) | ((with_reducible refine VC.mk ?_); (refine ⟨⟨?_, ?_⟩, ⟨?_, ?_⟩, ?_, ?_⟩); all_goals first  |  assumption  |  omega) | ((with_reducible refine VC.mk ?_); (refine ⟨?_, ?_, ?_⟩); all_goals first  |  assumption  |  omega) | ((with_reducible refine VC.mk ?_); (refine ⟨⟨?_, ?_⟩, ?_⟩); (omega); (omega); (intro j a ha; have := htt j a ha; omega)) | (with_reducible first | refine splitT ?_ | refine splitF ?_) | ((with_reducible refine splitM.mk (fun hsm => ?_) (fun hsm => ?_)) <;> (try exact zx)) | ((with_reducible refine splitB.mk (fun h => ?_) (fun h => ?_)) <;> (try simp only [zs, ne_eq] at h) <;> (try simp (disch := omega) only [w64] at h) <;> (try exact zx)) | (with_reducible intro hz; (try exact absurd hz (Nat.succ_ne_zero _)))))
end Go.Proofs.Ytonnkpclllmkoaa.Eng
set_option linter.unusedVariables false
set_option linter.unusedSimpArgs false
namespace Go.Proofs.Ytonnkpclllmkoaa.Eng
open Go Go.RowKit
set_option maxRecDepth 100000
theorem spB_0 : spB ((0, 1), 0, 1) = true := by decide
theorem so_sp {L : List StT} {i day : Int} (h : soC L i day = 0) : spB (soV L i day) = true ∧ chB L = true ∧ (0 ≤ i ∧ i < L.length) ∧ (0 ≤ day ∧ day ≤ 100000) ∧ gdB (stAt L i) day = true ∧ soO L i day = some (soV L i day) := by
  unfold soC soV at *
  by_cases hcc : ccC L [i] [day] = 0
  · rw [hcc] at h ⊢
    obtain ⟨hc, h1, h2⟩ := cc_ok hcc
    have hi := h1 i (by simp)
    have hd := h2 day (by simp)
    cases hg : gdB (stAt L i) day with
    | false => rw [hg, (co_2 rfl).1] at h; simp at h
    | true =>
      rw [hg, (co_3 rfl).1] at h
      rw [(co_3 rfl).2]
      obtain ⟨v, hv⟩ := oCS_s h
      rw [hv]
      refine ⟨?_, hc, hi, hd, rfl, rfl⟩
      unfold gdB at hg
      simp only [decide_eq_true_eq] at hg
      exact al_sp hc (fun j hj => by have := path_mem hc hi.2 j hj; omega) (path_upz hc hi.2 fun _ => hg.1) spB_0 hv
  · rw [(co_1 hcc).1] at h; exact absurd h hcc
def nwC (L : List StT) (i day : Int) (z : SpT) : Int := if spB z = true then (if soC L i day = 0 then (if mtOk (soV L i day) z = true then 0 else 8) else soC L i day) else 1
def nwV (L : List StT) (i day : Int) (z : SpT) : SpT := if nwC L i day z = 0 then mtS (soV L i day) z else ((0, 0), 0, 0)
theorem nw_1 {L : List StT} {i day : Int} {z : SpT} (h : spB z = false) : nwC L i day z = 1 ∧ nwV L i day z = ((0, 0), 0, 0) := by
  have e : nwC L i day z = 1 := by unfold nwC; rw [h]; rfl
  exact ⟨e, by unfold nwV; rw [e]; rfl⟩
theorem nw_2 {L : List StT} {i day : Int} {z : SpT} (h : spB z = true) (h2 : ¬ soC L i day = 0) : nwC L i day z = soC L i day ∧ nwV L i day z = ((0, 0), 0, 0) := by
  have e : nwC L i day z = soC L i day := by unfold nwC; rw [if_pos h, if_neg h2]
  exact ⟨e, by unfold nwV; rw [e, if_neg h2]⟩
theorem nw_3 {L : List StT} {i day : Int} {z : SpT} (h : spB z = true) (h2 : soC L i day = 0) (h3 : mtOk (soV L i day) z = false) : nwC L i day z = 8 ∧ nwV L i day z = ((0, 0), 0, 0) := by
  have e : nwC L i day z = 8 := by unfold nwC; rw [if_pos h, if_pos h2, h3]; rfl
  exact ⟨e, by unfold nwV; rw [e]; rfl⟩
theorem nw_4 {L : List StT} {i day : Int} {z : SpT} (h : spB z = true) (h2 : soC L i day = 0) (h3 : mtOk (soV L i day) z = true) : nwC L i day z = 0 ∧ nwV L i day z = mtS (soV L i day) z := by
  have e : nwC L i day z = 0 := by unfold nwC; rw [if_pos h, if_pos h2, h3]; rfl
  exact ⟨e, by unfold nwV; rw [e]; rfl⟩
theorem nw_c {L : List StT} {i day : Int} {z : SpT} (h : chB L = false) : nwC L i day z = 1 ∧ nwV L i day z = ((0, 0), 0, 0) := by
  have hs : soC L i day = 1 := by unfold soC ccC coC; rw [h]; rfl
  cases hz : spB z with
  | false => exact nw_1 hz
  | true => have := nw_2 (i := i) (day := day) hz (by rw [hs]; decide); rw [hs] at this; exact this
theorem so_0 {L : List StT} {i day : Int} (h : ccC L [i] [day] = 0) : soC L i day = coC 0 (gdB (stAt L i) day) (soO L i day) ∧ soV L i day = coV 0 (gdB (stAt L i) day) (soO L i day) := by
  unfold soC soV; rw [h]; exact ⟨rfl, rfl⟩
theorem so_n {L : List StT} {i day : Int} (h : ¬ ccC L [i] [day] = 0) : soC L i day = ccC L [i] [day] := (co_1 h).1
def s_narrow : Spec := fun args S => match args, S with
  | [.sl 0 s n x, .int .i64 i, .int .i64 day, .agg [.int .i64 p, .int .i64 q, .int .i64 p', .int .i64 q']], [.arr (.prod .str (.prod (.int .i64) (.prod (.prod (.prod (.int .i64) (.int .i64)) (.prod (.int .i64) (.int .i64))) (.prod (.prod (.int .i64) (.int .i64)) (.prod (.int .i64) (.int .i64)))))) l 10 wr] => ⟨chP s n l, .tup [.agg [.int .i64 (nwV (seg l s n) i day ((p, q), p', q')).1.1, .int .i64 (nwV (seg l s n) i day ((p, q), p', q')).1.2, .int .i64 (nwV (seg l s n) i day ((p, q), p', q')).2.1, .int .i64 (nwV (seg l s n) i day ((p, q), p', q')).2.2], .int .i64 (nwC (seg l s n) i day ((p, q), p', q'))], [.arr (.prod .str (.prod (.int .i64) (.prod (.prod (.prod (.int .i64) (.int .i64)) (.prod (.int .i64) (.int .i64))) (.prod (.prod (.int .i64) (.int .i64)) (.prod (.int .i64) (.int .i64)))))) l 10 wr]⟩
  | _, _ => noSpec
set_option maxHeartbeats 1600000 in
theorem ok_NarrowByI : SpecOk Try.prog 15 s_narrow := by
  intro args S h; unfold s_narrow at h ⊢; (split at h <;> first | exact False.elim h | skip)
  dsimp only at h ⊢
  rename_i s n x i day p q p' q' l wr
  have hq := h
  cases hz : spB ((p, q), p', q') with
  | false =>
    rw [(nw_1 hz).1, (nw_1 hz).2]
    have hz : spOk p q p' q' = false := hz
    refine funW tabOk (E := [(55, s_vSpan)]) ⟨ok_ValidSpan, trivial⟩ [] (k := 1) (fn := Try.f15) rfl rfl rfl rfl rfl rfl ?_
    (repeat' ((try (conv => whnf)); first | (with_reducible first | refine And.intro ?_ ?_ | refine WX.of ?_) | exact zc | ((with_reducible refine VC.mk ?_); exact zw) | ((with_reducible refine splitT_of ?_ ?_); (focus (simp only [hz, Bool.not_true, Bool.not_false, decide_true, decide_false]; done))) | ((with_reducible refine splitF_of ?_ ?_); (focus (simp only [hz, Bool.not_true, Bool.not_false, decide_true, decide_false]; done))) | (with_reducible first | refine splitT ?_ | refine splitF ?_) | ((with_reducible refine splitM.mk (fun hsm => ?_) (fun hsm => ?_)) <;> (try exact zx)) | ((with_reducible refine splitB.mk (fun h => ?_) (fun h => ?_)) <;> (try simp only [zs, ne_eq] at h) <;> (try simp (disch := omega) only [w64] at h) <;> (try exact zx)) | (with_reducible intro hz; (try exact absurd hz (Nat.succ_ne_zero _)))))
  | true =>
    have hz0 : spOk p q p' q' = true := hz
    by_cases hso : soC (seg l s n) i day = 0
    rotate_left 1
    · rw [(nw_2 hz hso).1, (nw_2 hz hso).2]
      refine funW tabOk (E := [(55, s_vSpan), (56, s_SpanOn)]) ⟨ok_ValidSpan, ok_SpanOnI, trivial⟩ [] (k := 1) (fn := Try.f15) rfl rfl rfl rfl rfl rfl ?_
      (repeat' ((try (conv => whnf)); first | (with_reducible first | refine And.intro ?_ ?_ | refine WX.of ?_) | exact zc | ((with_reducible refine VC.mk ?_); exact zw) | ((with_reducible refine splitT_of ?_ ?_); (focus (simp only [hz0, hso, Bool.not_true, Bool.not_false, decide_true, decide_false]; done))) | ((with_reducible refine splitF_of ?_ ?_); (focus (simp only [hz0, hso, Bool.not_true, Bool.not_false, decide_true, decide_false]; done))) | ((with_reducible refine VC.mk ?_); exact hq) | (with_reducible first | refine splitT ?_ | refine splitF ?_) | ((with_reducible refine splitM.mk (fun hsm => ?_) (fun hsm => ?_)) <;> (try exact zx)) | ((with_reducible refine splitB.mk (fun h => ?_) (fun h => ?_)) <;> (try simp only [zs, ne_eq] at h) <;> (try simp (disch := omega) only [w64] at h) <;> (try exact zx)) | (with_reducible intro hz; (try exact absurd hz (Nat.succ_ne_zero _)))))
    · have hsp := (so_sp hso).1
      cases hm : mtOk (soV (seg l s n) i day) ((p, q), p', q') with
      | false =>
        rw [(nw_3 hz hso hm).1, (nw_3 hz hso hm).2]
        refine funW tabOk (E := [(55, s_vSpan), (56, s_SpanOn), (57, s_MeetSp)]) ⟨ok_ValidSpan, ok_SpanOnI, ok_MeetSpans, trivial⟩ [] (k := 1) (fn := Try.f15) rfl rfl rfl rfl rfl rfl ?_
        have hm2 : mtOk (((soV (seg l s n) i day).1.1, (soV (seg l s n) i day).1.2), (soV (seg l s n) i day).2.1, (soV (seg l s n) i day).2.2) ((p, q), p', q') = false := hm
        (repeat' ((try (conv => whnf)); first | (with_reducible first | refine And.intro ?_ ?_ | refine WX.of ?_) | exact zc | ((with_reducible refine VC.mk ?_); exact zw) | ((with_reducible refine splitT_of ?_ ?_); (focus (simp only [hz0, hso, hm2, Bool.false_eq_true, if_false, Bool.not_true, Bool.not_false, decide_true, decide_false]; done))) | ((with_reducible refine splitF_of ?_ ?_); (focus (simp only [hz0, hso, hm2, Bool.false_eq_true, if_false, Bool.not_true, Bool.not_false, decide_true, decide_false]; done))) | ((with_reducible refine VC.mk ?_); exact hq) | ((with_reducible refine VC.mk ?_); exact ⟨hsp, hz⟩) | (with_reducible first | refine splitT ?_ | refine splitF ?_) | ((with_reducible refine splitM.mk (fun hsm => ?_) (fun hsm => ?_)) <;> (try exact zx)) | ((with_reducible refine splitB.mk (fun h => ?_) (fun h => ?_)) <;> (try simp only [zs, ne_eq] at h) <;> (try simp (disch := omega) only [w64] at h) <;> (try exact zx)) | (with_reducible intro hz; (try exact absurd hz (Nat.succ_ne_zero _)))))
        all_goals (simp [hm2] at h)
      | true =>
        rw [(nw_4 hz hso hm).1, (nw_4 hz hso hm).2]
        refine funW tabOk (E := [(55, s_vSpan), (56, s_SpanOn), (57, s_MeetSp)]) ⟨ok_ValidSpan, ok_SpanOnI, ok_MeetSpans, trivial⟩ [] (k := 1) (fn := Try.f15) rfl rfl rfl rfl rfl rfl ?_
        have hm2 : mtOk (((soV (seg l s n) i day).1.1, (soV (seg l s n) i day).1.2), (soV (seg l s n) i day).2.1, (soV (seg l s n) i day).2.2) ((p, q), p', q') = true := hm
        (repeat' ((try (conv => whnf)); first | (with_reducible first | refine And.intro ?_ ?_ | refine WX.of ?_) | exact zc | ((with_reducible refine VC.mk ?_); exact zw) | ((with_reducible refine splitT_of ?_ ?_); (focus (simp only [hz0, hso, hm2, if_true, Bool.not_true, Bool.not_false, decide_true, decide_false]; done))) | ((with_reducible refine splitF_of ?_ ?_); (focus (simp only [hz0, hso, hm2, if_true, Bool.not_true, Bool.not_false, decide_true, decide_false]; done))) | ((with_reducible refine VC.mk ?_); exact hq) | ((with_reducible refine VC.mk ?_); exact ⟨hsp, hz⟩) | (with_reducible first | refine splitT ?_ | refine splitF ?_) | ((with_reducible refine splitM.mk (fun hsm => ?_) (fun hsm => ?_)) <;> (try exact zx)) | ((with_reducible refine splitB.mk (fun h => ?_) (fun h => ?_)) <;> (try simp only [zs, ne_eq] at h) <;> (try simp (disch := omega) only [w64] at h) <;> (try exact zx)) | (with_reducible intro hz; (try exact absurd hz (Nat.succ_ne_zero _)))))
        · simp [hm2] at h
        · exact ⟨by simp only [hm2, if_true]⟩
set_option maxHeartbeats 1600000 in
theorem ok_NarrowByS : SpecOk Try.prog 13 s_narrow := by
  intro args S h; unfold s_narrow at h ⊢; (split at h <;> first | exact False.elim h | skip)
  dsimp only at h ⊢
  rename_i s n x i day p q p' q' l wr
  have hq := h
  have hL := seg_len h.1.1
  refine funW tabOk (E := [(49, s_l05Ok), (50, s_l01Span), (51, s_l05At), (52, s_l05Span), (53, s_meet)]) ⟨ok_l05Ok, ok_l01Span, ok_l05At, ok_l05Span, ok_l01Meet, trivial⟩ [] (k := 1) (fn := Try.f13) rfl rfl rfl rfl rfl rfl ?_
  (repeat' ((try (conv => whnf)); first | (with_reducible first | refine And.intro ?_ ?_ | refine WX.of ?_) | exact zc | ((with_reducible refine VC.mk ?_); exact zw) | ((with_reducible refine VC.mk ?_); exact hq) | (with_reducible first | refine splitT ?_ | refine splitF ?_) | ((with_reducible refine splitM.mk (fun hsm => ?_) (fun hsm => ?_)) <;> (try exact zx)) | ((with_reducible refine splitB.mk (fun h => ?_) (fun h => ?_)) <;> (try simp only [zs, ne_eq] at h) <;> (try simp (disch := omega) only [w64] at h) <;> (try exact zx)) | (with_reducible intro hz; (try exact absurd hz (Nat.succ_ne_zero _)))))
  · exact ⟨by rw [(nw_c h).1, (nw_c h).2]⟩
  · have hz : spB ((p, q), p', q') = false := h
    exact ⟨by rw [(nw_1 hz).1, (nw_1 hz).2]⟩
  · rename_i hc hz
    have hz : spB ((p, q), p', q') = true := hz
    have hs := so_n h
    have hn := nw_2 hz (by rw [hs]; exact h)
    exact ⟨by rw [hn.1, hn.2, hs]⟩
  · obtain ⟨hc, h1, h2⟩ := cc_ok h
    exact ⟨⟨hq.1.1, hc⟩, ir_n (h1 i (by simp)) hL, h2 day (by simp)⟩
  · rename_i hc hz hcc
    have hz : spB ((p, q), p', q') = true := hz
    have hs := so_0 hcc
    rw [← hs.1] at h ⊢
    have hn := nw_2 hz h
    exact ⟨by rw [hn.1, hn.2]⟩
  · rename_i hc hz hcc
    have hz : spB ((p, q), p', q') = true := hz
    have hs := so_0 hcc
    rw [← hs.1] at h
    rw [← hs.2]
    exact ⟨smS_ok (so_sp h).1, smS_ok hz⟩
  · rename_i hc hz hcc hso
    have hz : spB ((p, q), p', q') = true := hz
    have hs := so_0 hcc
    rw [← hs.1] at hso
    rw [← hs.2] at h
    have hm : mtOk (soV (seg l s n) i day) ((p, q), p', q') = false := decide_eq_false (Int.not_le.2 h)
    exact ⟨by rw [(nw_3 hz hso hm).1, (nw_3 hz hso hm).2]⟩
  · rename_i hc hz hcc hso
    have hz : spB ((p, q), p', q') = true := hz
    have hs := so_0 hcc
    rw [← hs.1] at hso
    rw [← hs.2] at h ⊢
    have hm : mtOk (soV (seg l s n) i day) ((p, q), p', q') = true := decide_eq_true h
    exact ⟨by rw [(nw_4 hz hso hm).1, (nw_4 hz hso hm).2]; rfl⟩
end Go.Proofs.Ytonnkpclllmkoaa.Eng
set_option linter.unusedVariables false
set_option linter.unusedSimpArgs false
namespace Go.Proofs.Ytonnkpclllmkoaa.Eng
open Go Go.RowKit
set_option maxRecDepth 100000
set_option maxHeartbeats 1600000 in
theorem law_narrowBy {c0 : Bool} {n0 : Nat} {l0 : List StT} (hn0 : n0 ≤ l0.length) (hc0 : c0 = true → l0 = []) (ho0 : ∀ y ∈ l0, ET.Ok (.prod .str (.prod (.int .i64) (.prod (.prod (.prod (.int .i64) (.int .i64)) (.prod (.int .i64) (.int .i64))) (.prod (.prod (.int .i64) (.int .i64)) (.prod (.int .i64) (.int .i64)))))) y) (hz0 : l0.length ≤ 9223372036854775807) {y1 : Int} (ho1 : -9223372036854775808 ≤ y1 ∧ y1 ≤ 9223372036854775807) {y2 : Int} (ho2 : -9223372036854775808 ≤ y2 ∧ y2 ≤ 9223372036854775807) {y3 : (Int × Int) × Int × Int} (ho3 : ET.Ok (.prod (.prod (.int .i64) (.int .i64)) (.prod (.int .i64) (.int .i64))) y3) : RunsS Try.prog 4 [.opt c0 0 n0 0, .int .i64 y1, .int .i64 y2, .agg (ET.enc (.prod (.prod (.int .i64) (.int .i64)) (.prod (.int .i64) (.int .i64))) y3)] [.arrO (.prod .str (.prod (.int .i64) (.prod (.prod (.prod (.int .i64) (.int .i64)) (.prod (.int .i64) (.int .i64))) (.prod (.prod (.int .i64) (.int .i64)) (.prod (.int .i64) (.int .i64)))))) l0 10] (.bool true) [.arrO (.prod .str (.prod (.int .i64) (.prod (.prod (.prod (.int .i64) (.int .i64)) (.prod (.int .i64) (.int .i64))) (.prod (.prod (.int .i64) (.int .i64)) (.prod (.int .i64) (.int .i64)))))) l0 10] := by
  obtain ⟨⟨p, q⟩, p', q'⟩ := y3
  have hL : (seg l0 0 n0).length = n0 := seg_len (by omega)
  have hb0 : ∀ (j : Nat) (a : StT), l0[j]? = some a → a.1.length ≤ 9223372036854775807 := fun j a ha => (ho0 a (List.mem_of_getElem? ha)).1
  have hS : seg (seg l0 0 n0) 0 n0 = seg l0 0 n0 := seg_full hL
  have htt : ∀ (j : Nat) (a : StT), (seg l0 0 n0)[j]? = some a → a.1.length ≤ tot (fun a : StT => a.1.length) (seg l0 0 n0) := fun j a ha => tot_at (f := fun a : StT => a.1.length) ha
  refine funW tabOk (E := [(8, s_szStandardS), (10, s_toStandardS), (14, s_toSpan), (13, s_narrow), (15, s_narrow), (12, s_eqStandardS), (16, s_eqSpanC)]) ⟨ok_szStandardS, ok_toStandardS, ok_toSpan, ok_NarrowByS, ok_NarrowByI, ok_eqStandardS, ok_eqSpanC, trivial⟩ [(5, [(4, 0), (10, 0), (10, 1), (10, 2)])] (k := 1) (fn := Try.f4) rfl rfl rfl rfl rfl rfl ?_
  (repeat' ((try (conv => whnf)); first | (with_reducible first | refine And.intro ?_ ?_ | refine WX.of ?_) | exact zc | ((with_reducible refine VC.mk ?_); exact zw) | ((with_reducible refine VC.mk ?_); (refine ⟨⟨?_, ?_⟩, ⟨?_, ?_⟩, ?_, ?_⟩); all_goals first  |  assumption  |  omega) | ((with_reducible refine VC.mk ?_); (refine ⟨?_, ?_, ?_⟩); all_goals first  |  assumption  |  omega) | ((with_reducible refine VC.mk ?_); (refine ⟨⟨?_, ?_⟩, ?_⟩); (omega); (omega); (intro j a ha; have := htt j a ha; omega)) | (with_reducible first | refine splitT ?_ | refine splitF ?_) | ((with_reducible refine splitM.mk (fun hsm => ?_) (fun hsm => ?_)) <;> (try exact zx)) | ((with_reducible refine splitB.mk (fun h => ?_) (fun h => ?_)) <;> (try simp only [zs, ne_eq] at h) <;> (try simp (disch := omega) only [w64] at h) <;> (try exact zx)) | (with_reducible intro hz; (try exact absurd hz (Nat.succ_ne_zero _)))))
  all_goals (simp at h)
end Go.Proofs.Ytonnkpclllmkoaa.Eng
