/- Lemmas for the proof, no conditions of their own. -/
import Derived.Test.YteniodjodngkbaaQA3
set_option linter.unusedVariables false
set_option linter.unusedSimpArgs false
namespace Go.Proofs.Yteniodjodngkbaa.Eng
open Go Go.RowKit
set_option maxRecDepth 100000
theorem allF_ok {B : List FrT} (h : allF B = true) {i : Nat} {a : FrT} (ha : B[i]? = some a) : fOk a.1 a.2 = true := by
  unfold allF at h
  rw [List.all_eq_true] at h
  exact h a (List.mem_of_getElem? ha)
theorem cs_go {E B : List FrT} {i : Nat} {a b v : FrT} (ha : E[i]? = some a) (hb : B[i]? = some b) (h : sbO a b = some v) (hp : csX ((E.zip B).take i) = false) : csX ((E.zip B).take (i + 1)) = false := by
  rw [cs_st ha hb, hp, h]; rfl
def s_l02OkT : Spec := fun args S => match args, S with
  | [.ptr 0 0 0], [.box [.int .i64 up, .int .i64 uq, .sl 1 s n x] true false, .arr (.prod (.int .i64) (.int .i64)) l 2 wr] => ⟨(s + n ≤ l.length ∧ n ≤ 1048576) ∧ scB up uq (seg l s n) = true, .bool true, [.box [.int .i64 up, .int .i64 uq, .sl 1 s n x] true false, .arr (.prod (.int .i64) (.int .i64)) l 2 wr]⟩
  | _, _ => noSpec
theorem ok_l02OkT : SpecOk Try.prog 36 s_l02OkT := by
  intro args S h; unfold s_l02OkT at h ⊢; (split at h <;> first | exact False.elim h | skip)
  dsimp only at h ⊢
  rename_i up uq s n x l wr
  have h2 := ok_l02OkC [.ptr 0 0 0] [.box [.int .i64 up, .int .i64 uq, .sl 1 s n x] true false, .arr (.prod (.int .i64) (.int .i64)) l 2 wr] h.1
  simp only [s_l02OkC, h.2] at h2
  exact h2
def s_fOkT : Spec := fun args S => match args, S with
  | [.agg [.int .i64 p, .int .i64 q]], [] => ⟨fOk p q = true, .bool true, []⟩
  | _, _ => noSpec
theorem ok_fOkT : SpecOk Try.prog 41 s_fOkT := by
  intro args S h; unfold s_fOkT at h ⊢; (split at h <;> first | exact False.elim h | skip)
  dsimp only at h ⊢
  rename_i p q
  have h2 := ok_l01Ok [.agg [.int .i64 p, .int .i64 q]] [] trivial
  simp only [s_fOk, h] at h2
  exact h2
attribute [local irreducible] sbO in
set_option maxHeartbeats 3200000 in
theorem ok_cs1S (E' : List FrT) : SpecOk Try.prog 18 (s_cs1 E') := by
  intro args S h; unfold s_cs1 at h ⊢; (split at h <;> first | exact False.elim h | skip)
  dsimp only at h ⊢
  rename_i up uq s n x t m y l wr k wk
  obtain ⟨⟨h1, h2, h3⟩, hsc, hE⟩ := h
  have hL := seg_len h1
  have hM := seg_len h2
  have hsz := cs_sz hsc
  rw [hL] at hsz
  have hel := cs_el hsc
  obtain ⟨hB, hlen, hX, hs', hE⟩ := cs_ok hE
  have hll : (csE (seg l s n) (seg k t m)).length = n := by rw [cs_len hlen, hL]
  have hE2 : seg E' 0 n = E' := seg_full (by rw [← hE]; exact hll)
  have hct : (csE (seg l s n) (seg k t m)).take n = E' := by rw [List.take_of_length_le (by omega), hE]
  have hE3 : E'.length = n := by rw [← hE]; exact hll
  rw [hL, hM] at hlen
  subst hlen
  refine funW tabOk (E := [(36, s_l02OkT), (41, s_fOkT), (42, s_subZ)]) ⟨ok_l02OkT, ok_fOkT, ok_l01SubZ, trivial⟩ [(14, [(13, 0)])] (k := 2) (fn := Try.f18) rfl rfl rfl rfl rfl rfl ?_
  (repeat' ((try (conv => whnf)); first | (with_reducible first | refine And.intro ?_ ?_ | refine WX.of ?_) | exact zc | ((with_reducible refine VC.mk ?_); exact zw) | ((with_reducible refine VC.mk ?_); exact ⟨⟨h1, by omega⟩, hsc⟩) | (with_reducible first | refine splitT ?_ | refine splitF ?_) | ((with_reducible refine splitM.mk (fun hsm => ?_) (fun hsm => ?_)) <;> (try exact zx)) | ((with_reducible refine splitB.mk (fun h => ?_) (fun h => ?_)) <;> (try simp only [zs, ne_eq] at h) <;> (try simp (disch := omega) only [w64] at h) <;> (try exact zx)) | (with_reducible intro hz; (try exact absurd hz (Nat.succ_ne_zero _)))))
  refine loopW tabOk (E := [(36, s_l02OkT), (41, s_fOkT), (42, s_subZ)]) ⟨ok_l02OkT, ok_fOkT, ok_l01SubZ, trivial⟩ [(14, [(13, 0)])] (σ := Nat) (fun i => [(1, .sl 1 t m y), (2, .ptr 2 0 0), (4, .ptr 3 0 0), (6, .bool true), (7, .int .i64 i)]) (fun i => [.arr (.prod (.int .i64) (.int .i64)) l 2 wr, .arr (.prod (.int .i64) (.int .i64)) k 2 wk, .box [.int .i64 up, .int .i64 uq, .sl 0 s m x] true false, .box [.int .i64 0, .int .i64 0, .nils] true false]) (fun i => m - i) (fun i => i ≤ m) 0 (Nat.zero_le _) ?_ ?_
  · (repeat' ((try (conv => whnf)); first | (with_reducible first | refine And.intro ?_ ?_ | refine WX.of ?_) | exact zc | ((with_reducible refine VC.mk ?_); exact zw) | (with_reducible first | refine splitT ?_ | refine splitF ?_) | ((with_reducible refine splitM.mk (fun hsm => ?_) (fun hsm => ?_)) <;> (try exact zx)) | ((with_reducible refine splitB.mk (fun h => ?_) (fun h => ?_)) <;> (try simp only [zs, ne_eq] at h) <;> (try simp (disch := omega) only [w64] at h) <;> (try exact zx)) | (with_reducible intro hz; (try exact absurd hz (Nat.succ_ne_zero _)))))
  · intro i hi
    by_cases hlt : i < m
    · obtain ⟨⟨p', q'⟩, hb⟩ := get_some (l := seg k t m) (i := i) (by omega)
      have hbo : fOk p' q' = true := allF_ok hB hb
      (repeat' ((try (conv => whnf)); first | (with_reducible first | refine And.intro ?_ ?_ | refine WX.of ?_) | exact zc | ((with_reducible refine VC.mk ?_); exact zw) | refine atL_i hb ?_ | ((with_reducible refine VC.mk ?_); exact hbo) | (with_reducible first | refine splitT ?_ | refine splitF ?_) | ((with_reducible refine splitM.mk (fun hsm => ?_) (fun hsm => ?_)) <;> (try exact zx)) | ((with_reducible refine splitB.mk (fun h => ?_) (fun h => ?_)) <;> (try simp only [zs, ne_eq] at h) <;> (try simp (disch := omega) only [w64] at h) <;> (try exact zx)) | (with_reducible intro hz; (try exact absurd hz (Nat.succ_ne_zero _)))))
      refine ⟨i + 1, by omega, hlt, ?_⟩
      (repeat' ((try (conv => whnf)); first | (with_reducible first | refine And.intro ?_ ?_ | refine WX.of ?_) | exact zc | ((with_reducible refine VC.mk ?_); exact zw) | (with_reducible first | refine splitT ?_ | refine splitF ?_) | ((with_reducible refine splitM.mk (fun hsm => ?_) (fun hsm => ?_)) <;> (try exact zx)) | ((with_reducible refine splitB.mk (fun h => ?_) (fun h => ?_)) <;> (try simp only [zs, ne_eq] at h) <;> (try simp (disch := omega) only [w64] at h) <;> (try exact zx)) | (with_reducible intro hz; (try exact absurd hz (Nat.succ_ne_zero _)))))
    · obtain rfl : i = m := by omega
      (repeat' ((try (conv => whnf)); first | (with_reducible first | refine And.intro ?_ ?_ | refine WX.of ?_) | exact zc | ((with_reducible refine VC.mk ?_); exact zw) | (with_reducible first | refine splitT ?_ | refine splitF ?_) | ((with_reducible refine splitM.mk (fun hsm => ?_) (fun hsm => ?_)) <;> (try exact zx)) | ((with_reducible refine splitB.mk (fun h => ?_) (fun h => ?_)) <;> (try simp only [zs, ne_eq] at h) <;> (try simp (disch := omega) only [w64] at h) <;> (try exact zx)) | (with_reducible intro hz; (try exact absurd hz (Nat.succ_ne_zero _)))))
      refine loopW tabOk (E := [(36, s_l02OkT), (41, s_fOkT), (42, s_subZ)]) ⟨ok_l02OkT, ok_fOkT, ok_l01SubZ, trivial⟩ [(14, [(13, 0)])] (σ := Option Nat) (fun o => match o with
        | none => [(1, .sl 1 t i y), (2, .ptr 2 0 0), (4, .ptr 3 0 0), (8, .ptr 4 0 0), (9, .int .i64 0)]
        | some j => [(1, .sl 1 t i y), (2, .ptr 2 0 0), (4, .ptr 3 0 0), (8, .ptr 4 0 0), (9, .int .i64 j)]) (fun o => match o with
        | none => [.arr (.prod (.int .i64) (.int .i64)) l 2 wr, .arr (.prod (.int .i64) (.int .i64)) k 2 wk, .box [.int .i64 up, .int .i64 uq, .sl 0 s i x] true false, .box [.int .i64 0, .int .i64 0, .nils] true false, .box [.int .i64 up, .int .i64 uq, .nils] true false]
        | some j => [.arr (.prod (.int .i64) (.int .i64)) l 2 wr, .arr (.prod (.int .i64) (.int .i64)) k 2 wk, .box [.int .i64 up, .int .i64 uq, .sl 0 s i x] true false, .box [.int .i64 0, .int .i64 0, .nils] true false, .box [.int .i64 up, .int .i64 uq, .sl 5 0 j 0] true false, .arr (.prod (.int .i64) (.int .i64)) ((csE (seg l s i) (seg k t i)).take j) 2 true]) (fun o => match o with | none => i + 1 | some j => i - j) (fun o => match o with | none => True | some j => 1 ≤ j ∧ j ≤ i ∧ csX (((seg l s i).zip (seg k t i)).take j) = false) none trivial ?_ ?_
      · (repeat' ((try (conv => whnf)); first | (with_reducible first | refine And.intro ?_ ?_ | refine WX.of ?_) | exact zc | ((with_reducible refine VC.mk ?_); exact zw) | (with_reducible first | refine splitT ?_ | refine splitF ?_) | ((with_reducible refine splitM.mk (fun hsm => ?_) (fun hsm => ?_)) <;> (try exact zx)) | ((with_reducible refine splitB.mk (fun h => ?_) (fun h => ?_)) <;> (try simp only [zs, ne_eq] at h) <;> (try simp (disch := omega) only [w64] at h) <;> (try exact zx)) | (with_reducible intro hz; (try exact absurd hz (Nat.succ_ne_zero _)))))
      · intro o hj
        cases o with
        | none =>
          obtain ⟨⟨p, q⟩, ha⟩ := get_some (l := seg l s i) (i := 0) (by omega)
          obtain ⟨⟨p', q'⟩, hb⟩ := get_some (l := seg k t i) (i := 0) (by omega)
          have hw2 := cs_get ha hb
          (repeat' ((try (conv => whnf)); first | (with_reducible first | refine And.intro ?_ ?_ | refine WX.of ?_) | exact zc | ((with_reducible refine VC.mk ?_); exact zw) | refine atL_i ha ?_ | refine atL_i hb ?_ | ((with_reducible refine VC.mk ?_); exact ⟨hel _ _ ha, allF_at hB hb⟩) | ((with_reducible refine splitC (fun h => ?_) (fun a b h hs => ?_)) <;> (try rw [h]) <;> (try simp only [zv_c] at h) <;> (try dsimp only at h)) | (with_reducible first | refine splitT ?_ | refine splitF ?_) | ((with_reducible refine splitM.mk (fun hsm => ?_) (fun hsm => ?_)) <;> (try exact zx)) | ((with_reducible refine splitB.mk (fun h => ?_) (fun h => ?_)) <;> (try simp only [zs, ne_eq] at h) <;> (try simp (disch := omega) only [w64] at h) <;> (try exact zx)) | (with_reducible intro hz; (try exact absurd hz (Nat.succ_ne_zero _)))))
          · exfalso; rw [cs_no ha hb h] at hX; cases hX
          · exfalso; rw [cs_no ha hb h] at hX; cases hX
          rw [h] at hw2
          refine ⟨some 1, by dsimp only; omega, ⟨by omega, by omega, cs_go (i := 0) ha hb h rfl⟩, ?_⟩
          (repeat' ((try (conv => whnf)); first | (with_reducible first | refine And.intro ?_ ?_ | refine WX.of ?_) | exact zc | ((with_reducible refine VC.mk ?_); exact zw) | (with_reducible first | refine splitT ?_ | refine splitF ?_) | ((with_reducible refine splitM.mk (fun hsm => ?_) (fun hsm => ?_)) <;> (try exact zx)) | ((with_reducible refine splitB.mk (fun h => ?_) (fun h => ?_)) <;> (try simp only [zs, ne_eq] at h) <;> (try simp (disch := omega) only [w64] at h) <;> (try exact zx)) | (with_reducible intro hz; (try exact absurd hz (Nat.succ_ne_zero _)))))
          exact ⟨by rw [← app_00 hw2]; rfl⟩
        | some j =>
          dsimp only at hj ⊢
          have hlen2 : ((csE (seg l s i) (seg k t i)).take j).length = j := by rw [List.length_take, hll]; omega
          by_cases hlt : j < i
          · obtain ⟨⟨p, q⟩, ha⟩ := get_some (l := seg l s i) (i := j) (by omega)
            obtain ⟨⟨p', q'⟩, hb⟩ := get_some (l := seg k t i) (i := j) (by omega)
            have hw2 := cs_get ha hb
            (repeat' ((try (conv => whnf)); first | (with_reducible first | refine And.intro ?_ ?_ | refine WX.of ?_) | exact zc | ((with_reducible refine VC.mk ?_); exact zw) | refine atL_i ha ?_ | refine atL_i hb ?_ | ((with_reducible refine VC.mk ?_); exact ⟨hel _ _ ha, allF_at hB hb⟩) | ((with_reducible refine splitC (fun h => ?_) (fun a b h hs => ?_)) <;> (try rw [h]) <;> (try simp only [zv_c] at h) <;> (try dsimp only at h)) | (with_reducible first | refine splitT ?_ | refine splitF ?_) | ((with_reducible refine splitM.mk (fun hsm => ?_) (fun hsm => ?_)) <;> (try exact zx)) | ((with_reducible refine splitB.mk (fun h => ?_) (fun h => ?_)) <;> (try simp only [zs, ne_eq] at h) <;> (try simp (disch := omega) only [w64] at h) <;> (try exact zx)) | (with_reducible intro hz; (try exact absurd hz (Nat.succ_ne_zero _)))))
            · exfalso; rw [cs_no ha hb h] at hX; cases hX
            · exfalso; rw [cs_no ha hb h] at hX; cases hX
            rw [h] at hw2
            refine ⟨some (j + 1), by dsimp only; omega, ⟨by omega, by omega, cs_go ha hb h hj.2.2⟩, ?_⟩
            (repeat' ((try (conv => whnf)); first | (with_reducible first | refine And.intro ?_ ?_ | refine WX.of ?_) | exact zc | ((with_reducible refine VC.mk ?_); exact zw) | (with_reducible first | refine splitT ?_ | refine splitF ?_) | ((with_reducible refine splitM.mk (fun hsm => ?_) (fun hsm => ?_)) <;> (try exact zx)) | ((with_reducible refine splitB.mk (fun h => ?_) (fun h => ?_)) <;> (try simp only [zs, ne_eq] at h) <;> (try simp (disch := omega) only [w64] at h) <;> (try exact zx)) | (with_reducible intro hz; (try exact absurd hz (Nat.succ_ne_zero _)))))
            exact ⟨app_take hw2⟩
          · obtain rfl : j = i := by omega
            rw [hct]
            (repeat' ((try (conv => whnf)); first | (with_reducible first | refine And.intro ?_ ?_ | refine WX.of ?_) | exact zc | ((with_reducible refine VC.mk ?_); exact zw) | ((with_reducible refine VC.mk ?_); exact ⟨⟨by omega, by omega⟩, by rw [hE2]; exact hs'⟩) | (with_reducible first | refine splitT ?_ | refine splitF ?_) | ((with_reducible refine splitM.mk (fun hsm => ?_) (fun hsm => ?_)) <;> (try exact zx)) | ((with_reducible refine splitB.mk (fun h => ?_) (fun h => ?_)) <;> (try simp only [zs, ne_eq] at h) <;> (try simp (disch := omega) only [w64] at h) <;> (try exact zx)) | (with_reducible intro hz; (try exact absurd hz (Nat.succ_ne_zero _)))))
attribute [local irreducible] sbO in
set_option maxHeartbeats 3200000 in
theorem ok_cs0S (c : Int) : SpecOk Try.prog 18 (s_cs0 c) := by
  intro args S h; unfold s_cs0 at h ⊢; (split at h <;> first | exact False.elim h | skip)
  dsimp only at h ⊢
  rename_i up uq s n x t m y l wr k wk
  obtain ⟨⟨h1, h2, h3⟩, hsc, hE⟩ := h
  have hL := seg_len h1
  have hM := seg_len h2
  have hsz := cs_sz hsc
  rw [hL] at hsz
  have hel := cs_el hsc
  rcases cs_er hE with ⟨hB, rfl⟩ | ⟨hB, hne, rfl⟩ | ⟨hB, hlen, hR⟩
  · refine funW tabOk (E := [(36, s_l02OkT), (41, s_fOk), (42, s_subZ)]) ⟨ok_l02OkT, ok_l01Ok, ok_l01SubZ, trivial⟩ [(14, [(13, 0)])] (k := 2) (fn := Try.f18) rfl rfl rfl rfl rfl rfl ?_
    (repeat' ((try (conv => whnf)); first | (with_reducible first | refine And.intro ?_ ?_ | refine WX.of ?_) | exact zc | ((with_reducible refine VC.mk ?_); exact zw) | ((with_reducible refine VC.mk ?_); exact ⟨⟨h1, by omega⟩, hsc⟩) | (with_reducible first | refine splitT ?_ | refine splitF ?_) | ((with_reducible refine splitM.mk (fun hsm => ?_) (fun hsm => ?_)) <;> (try exact zx)) | ((with_reducible refine splitB.mk (fun h => ?_) (fun h => ?_)) <;> (try simp only [zs, ne_eq] at h) <;> (try simp (disch := omega) only [w64] at h) <;> (try exact zx)) | (with_reducible intro hz; (try exact absurd hz (Nat.succ_ne_zero _)))))
    refine loopW tabOk (E := [(36, s_l02OkT), (41, s_fOk), (42, s_subZ)]) ⟨ok_l02OkT, ok_l01Ok, ok_l01SubZ, trivial⟩ [(14, [(13, 0)])] (σ := Nat × Bool) (fun i => [(1, .sl 1 t m y), (2, .ptr 2 0 0), (4, .ptr 3 0 0), (6, .bool i.2), (7, .int .i64 i.1)]) (fun i => [.arr (.prod (.int .i64) (.int .i64)) l 2 wr, .arr (.prod (.int .i64) (.int .i64)) k 2 wk, .box [.int .i64 up, .int .i64 uq, .sl 0 s n x] true false, .box [.int .i64 0, .int .i64 0, .nils] true false]) (fun i => m - i.1) (fun i => i.1 ≤ m ∧ (i.2 = true → ∀ (j : Nat) (a : FrT), j < i.1 → (seg k t m)[j]? = some a → fOk a.1 a.2 = true)) (0, true) ⟨Nat.zero_le _, fun _ j a hj => absurd hj (Nat.not_lt_zero _)⟩ ?_ ?_
    · (repeat' ((try (conv => whnf)); first | (with_reducible first | refine And.intro ?_ ?_ | refine WX.of ?_) | exact zc | ((with_reducible refine VC.mk ?_); exact zw) | (with_reducible first | refine splitT ?_ | refine splitF ?_) | ((with_reducible refine splitM.mk (fun hsm => ?_) (fun hsm => ?_)) <;> (try exact zx)) | ((with_reducible refine splitB.mk (fun h => ?_) (fun h => ?_)) <;> (try simp only [zs, ne_eq] at h) <;> (try simp (disch := omega) only [w64] at h) <;> (try exact zx)) | (with_reducible intro hz; (try exact absurd hz (Nat.succ_ne_zero _)))))
    · intro ⟨i, ok⟩ ⟨hi, hp⟩
      dsimp only at hi hp ⊢
      cases ok with
      | false =>
        (repeat' ((try (conv => whnf)); first | (with_reducible first | refine And.intro ?_ ?_ | refine WX.of ?_) | exact zc | ((with_reducible refine VC.mk ?_); exact zw) | (with_reducible first | refine splitT ?_ | refine splitF ?_) | ((with_reducible refine splitM.mk (fun hsm => ?_) (fun hsm => ?_)) <;> (try exact zx)) | ((with_reducible refine splitB.mk (fun h => ?_) (fun h => ?_)) <;> (try simp only [zs, ne_eq] at h) <;> (try simp (disch := omega) only [w64] at h) <;> (try exact zx)) | (with_reducible intro hz; (try exact absurd hz (Nat.succ_ne_zero _)))))
      | true =>
        by_cases hlt : i < m
        · obtain ⟨⟨p', q'⟩, hb⟩ := get_some (l := seg k t m) (i := i) (by omega)
          (repeat' ((try (conv => whnf)); first | (with_reducible first | refine And.intro ?_ ?_ | refine WX.of ?_) | exact zc | ((with_reducible refine VC.mk ?_); exact zw) | refine atL_i hb ?_ | (with_reducible first | refine splitT ?_ | refine splitF ?_) | ((with_reducible refine splitM.mk (fun hsm => ?_) (fun hsm => ?_)) <;> (try exact zx)) | ((with_reducible refine splitB.mk (fun h => ?_) (fun h => ?_)) <;> (try simp only [zs, ne_eq] at h) <;> (try simp (disch := omega) only [w64] at h) <;> (try exact zx)) | (with_reducible intro hz; (try exact absurd hz (Nat.succ_ne_zero _)))))
          refine ⟨(i + 1, fOk p' q'), by dsimp only; omega, ⟨hlt, fun hk j a hj haj => ?_⟩, ?_⟩
          · by_cases hji : j < i
            · exact hp rfl j a hji haj
            · obtain rfl : j = i := by dsimp only at hj; omega
              rw [hb] at haj; obtain rfl := Option.some.inj haj; exact hk
          · (repeat' ((try (conv => whnf)); first | (with_reducible first | refine And.intro ?_ ?_ | refine WX.of ?_) | exact zc | ((with_reducible refine VC.mk ?_); exact zw) | (with_reducible first | refine splitT ?_ | refine splitF ?_) | ((with_reducible refine splitM.mk (fun hsm => ?_) (fun hsm => ?_)) <;> (try exact zx)) | ((with_reducible refine splitB.mk (fun h => ?_) (fun h => ?_)) <;> (try simp only [zs, ne_eq] at h) <;> (try simp (disch := omega) only [w64] at h) <;> (try exact zx)) | (with_reducible intro hz; (try exact absurd hz (Nat.succ_ne_zero _)))))
        · exfalso
          have hq : allF (seg k t m) = true := by
            unfold allF; rw [List.all_eq_true]; intro a ha
            obtain ⟨j, hj⟩ := List.getElem?_of_mem ha
            exact hp rfl j a (by have := (List.getElem?_eq_some_iff.1 hj).1; omega) hj
          rw [hB] at hq; cases hq
  · rw [hL, hM] at hne
    refine funW tabOk (E := [(36, s_l02OkT), (41, s_fOkT), (42, s_subZ)]) ⟨ok_l02OkT, ok_fOkT, ok_l01SubZ, trivial⟩ [(14, [(13, 0)])] (k := 2) (fn := Try.f18) rfl rfl rfl rfl rfl rfl ?_
    (repeat' ((try (conv => whnf)); first | (with_reducible first | refine And.intro ?_ ?_ | refine WX.of ?_) | exact zc | ((with_reducible refine VC.mk ?_); exact zw) | ((with_reducible refine VC.mk ?_); exact ⟨⟨h1, by omega⟩, hsc⟩) | (with_reducible first | refine splitT ?_ | refine splitF ?_) | ((with_reducible refine splitM.mk (fun hsm => ?_) (fun hsm => ?_)) <;> (try exact zx)) | ((with_reducible refine splitB.mk (fun h => ?_) (fun h => ?_)) <;> (try simp only [zs, ne_eq] at h) <;> (try simp (disch := omega) only [w64] at h) <;> (try exact zx)) | (with_reducible intro hz; (try exact absurd hz (Nat.succ_ne_zero _)))))
    refine loopW tabOk (E := [(36, s_l02OkT), (41, s_fOkT), (42, s_subZ)]) ⟨ok_l02OkT, ok_fOkT, ok_l01SubZ, trivial⟩ [(14, [(13, 0)])] (σ := Nat) (fun i => [(1, .sl 1 t m y), (2, .ptr 2 0 0), (4, .ptr 3 0 0), (6, .bool true), (7, .int .i64 i)]) (fun i => [.arr (.prod (.int .i64) (.int .i64)) l 2 wr, .arr (.prod (.int .i64) (.int .i64)) k 2 wk, .box [.int .i64 up, .int .i64 uq, .sl 0 s n x] true false, .box [.int .i64 0, .int .i64 0, .nils] true false]) (fun i => m - i) (fun i => i ≤ m) 0 (Nat.zero_le _) ?_ ?_
    · (repeat' ((try (conv => whnf)); first | (with_reducible first | refine And.intro ?_ ?_ | refine WX.of ?_) | exact zc | ((with_reducible refine VC.mk ?_); exact zw) | (with_reducible first | refine splitT ?_ | refine splitF ?_) | ((with_reducible refine splitM.mk (fun hsm => ?_) (fun hsm => ?_)) <;> (try exact zx)) | ((with_reducible refine splitB.mk (fun h => ?_) (fun h => ?_)) <;> (try simp only [zs, ne_eq] at h) <;> (try simp (disch := omega) only [w64] at h) <;> (try exact zx)) | (with_reducible intro hz; (try exact absurd hz (Nat.succ_ne_zero _)))))
    · intro i hi
      by_cases hlt : i < m
      · obtain ⟨⟨p', q'⟩, hb⟩ := get_some (l := seg k t m) (i := i) (by omega)
        have hbo : fOk p' q' = true := allF_ok hB hb
        (repeat' ((try (conv => whnf)); first | (with_reducible first | refine And.intro ?_ ?_ | refine WX.of ?_) | exact zc | ((with_reducible refine VC.mk ?_); exact zw) | refine atL_i hb ?_ | ((with_reducible refine VC.mk ?_); exact hbo) | (with_reducible first | refine splitT ?_ | refine splitF ?_) | ((with_reducible refine splitM.mk (fun hsm => ?_) (fun hsm => ?_)) <;> (try exact zx)) | ((with_reducible refine splitB.mk (fun h => ?_) (fun h => ?_)) <;> (try simp only [zs, ne_eq] at h) <;> (try simp (disch := omega) only [w64] at h) <;> (try exact zx)) | (with_reducible intro hz; (try exact absurd hz (Nat.succ_ne_zero _)))))
        refine ⟨i + 1, by omega, hlt, ?_⟩
        (repeat' ((try (conv => whnf)); first | (with_reducible first | refine And.intro ?_ ?_ | refine WX.of ?_) | exact zc | ((with_reducible refine VC.mk ?_); exact zw) | (with_reducible first | refine splitT ?_ | refine splitF ?_) | ((with_reducible refine splitM.mk (fun hsm => ?_) (fun hsm => ?_)) <;> (try exact zx)) | ((with_reducible refine splitB.mk (fun h => ?_) (fun h => ?_)) <;> (try simp only [zs, ne_eq] at h) <;> (try simp (disch := omega) only [w64] at h) <;> (try exact zx)) | (with_reducible intro hz; (try exact absurd hz (Nat.succ_ne_zero _)))))
      · obtain rfl : i = m := by omega
        (repeat' ((try (conv => whnf)); first | (with_reducible first | refine And.intro ?_ ?_ | refine WX.of ?_) | exact zc | ((with_reducible refine VC.mk ?_); exact zw) | (with_reducible first | refine splitT ?_ | refine splitF ?_) | ((with_reducible refine splitM.mk (fun hsm => ?_) (fun hsm => ?_)) <;> (try exact zx)) | ((with_reducible refine splitB.mk (fun h => ?_) (fun h => ?_)) <;> (try simp only [zs, ne_eq] at h) <;> (try simp (disch := omega) only [w64] at h) <;> (try exact zx)) | (with_reducible intro hz; (try exact absurd hz (Nat.succ_ne_zero _)))))
  · have hll : (csE (seg l s n) (seg k t m)).length = n := by rw [cs_len hlen, hL]
    have hE2 : seg (csE (seg l s n) (seg k t m)) 0 n = csE (seg l s n) (seg k t m) := seg_full hll
    have hzt : ((seg l s n).zip (seg k t m)).take n = (seg l s n).zip (seg k t m) := List.take_of_length_le (by rw [List.length_zip]; omega)
    have hct : (csE (seg l s n) (seg k t m)).take n = csE (seg l s n) (seg k t m) := List.take_of_length_le (by omega)
    rw [hL, hM] at hlen
    subst hlen
    rcases cs_erR hR with ⟨hX, rfl⟩ | ⟨hX, hsn, rfl⟩
    · refine funW tabOk (E := [(36, s_l02OkT), (41, s_fOkT), (42, s_subZ)]) ⟨ok_l02OkT, ok_fOkT, ok_l01SubZ, trivial⟩ [(14, [(13, 0)])] (k := 2) (fn := Try.f18) rfl rfl rfl rfl rfl rfl ?_
      (repeat' ((try (conv => whnf)); first | (with_reducible first | refine And.intro ?_ ?_ | refine WX.of ?_) | exact zc | ((with_reducible refine VC.mk ?_); exact zw) | ((with_reducible refine VC.mk ?_); exact ⟨⟨h1, by omega⟩, hsc⟩) | (with_reducible first | refine splitT ?_ | refine splitF ?_) | ((with_reducible refine splitM.mk (fun hsm => ?_) (fun hsm => ?_)) <;> (try exact zx)) | ((with_reducible refine splitB.mk (fun h => ?_) (fun h => ?_)) <;> (try simp only [zs, ne_eq] at h) <;> (try simp (disch := omega) only [w64] at h) <;> (try exact zx)) | (with_reducible intro hz; (try exact absurd hz (Nat.succ_ne_zero _)))))
      refine loopW tabOk (E := [(36, s_l02OkT), (41, s_fOkT), (42, s_subZ)]) ⟨ok_l02OkT, ok_fOkT, ok_l01SubZ, trivial⟩ [(14, [(13, 0)])] (σ := Nat) (fun i => [(1, .sl 1 t m y), (2, .ptr 2 0 0), (4, .ptr 3 0 0), (6, .bool true), (7, .int .i64 i)]) (fun i => [.arr (.prod (.int .i64) (.int .i64)) l 2 wr, .arr (.prod (.int .i64) (.int .i64)) k 2 wk, .box [.int .i64 up, .int .i64 uq, .sl 0 s m x] true false, .box [.int .i64 0, .int .i64 0, .nils] true false]) (fun i => m - i) (fun i => i ≤ m) 0 (Nat.zero_le _) ?_ ?_
      · (repeat' ((try (conv => whnf)); first | (with_reducible first | refine And.intro ?_ ?_ | refine WX.of ?_) | exact zc | ((with_reducible refine VC.mk ?_); exact zw) | (with_reducible first | refine splitT ?_ | refine splitF ?_) | ((with_reducible refine splitM.mk (fun hsm => ?_) (fun hsm => ?_)) <;> (try exact zx)) | ((with_reducible refine splitB.mk (fun h => ?_) (fun h => ?_)) <;> (try simp only [zs, ne_eq] at h) <;> (try simp (disch := omega) only [w64] at h) <;> (try exact zx)) | (with_reducible intro hz; (try exact absurd hz (Nat.succ_ne_zero _)))))
      · intro i hi
        by_cases hlt : i < m
        · obtain ⟨⟨p', q'⟩, hb⟩ := get_some (l := seg k t m) (i := i) (by omega)
          have hbo : fOk p' q' = true := allF_ok hB hb
          (repeat' ((try (conv => whnf)); first | (with_reducible first | refine And.intro ?_ ?_ | refine WX.of ?_) | exact zc | ((with_reducible refine VC.mk ?_); exact zw) | refine atL_i hb ?_ | ((with_reducible refine VC.mk ?_); exact hbo) | (with_reducible first | refine splitT ?_ | refine splitF ?_) | ((with_reducible refine splitM.mk (fun hsm => ?_) (fun hsm => ?_)) <;> (try exact zx)) | ((with_reducible refine splitB.mk (fun h => ?_) (fun h => ?_)) <;> (try simp only [zs, ne_eq] at h) <;> (try simp (disch := omega) only [w64] at h) <;> (try exact zx)) | (with_reducible intro hz; (try exact absurd hz (Nat.succ_ne_zero _)))))
          refine ⟨i + 1, by omega, hlt, ?_⟩
          (repeat' ((try (conv => whnf)); first | (with_reducible first | refine And.intro ?_ ?_ | refine WX.of ?_) | exact zc | ((with_reducible refine VC.mk ?_); exact zw) | (with_reducible first | refine splitT ?_ | refine splitF ?_) | ((with_reducible refine splitM.mk (fun hsm => ?_) (fun hsm => ?_)) <;> (try exact zx)) | ((with_reducible refine splitB.mk (fun h => ?_) (fun h => ?_)) <;> (try simp only [zs, ne_eq] at h) <;> (try simp (disch := omega) only [w64] at h) <;> (try exact zx)) | (with_reducible intro hz; (try exact absurd hz (Nat.succ_ne_zero _)))))
        · obtain rfl : i = m := by omega
          (repeat' ((try (conv => whnf)); first | (with_reducible first | refine And.intro ?_ ?_ | refine WX.of ?_) | exact zc | ((with_reducible refine VC.mk ?_); exact zw) | (with_reducible first | refine splitT ?_ | refine splitF ?_) | ((with_reducible refine splitM.mk (fun hsm => ?_) (fun hsm => ?_)) <;> (try exact zx)) | ((with_reducible refine splitB.mk (fun h => ?_) (fun h => ?_)) <;> (try simp only [zs, ne_eq] at h) <;> (try simp (disch := omega) only [w64] at h) <;> (try exact zx)) | (with_reducible intro hz; (try exact absurd hz (Nat.succ_ne_zero _)))))
          refine loopW tabOk (E := [(36, s_l02OkT), (41, s_fOkT), (42, s_subZ)]) ⟨ok_l02OkT, ok_fOkT, ok_l01SubZ, trivial⟩ [(14, [(13, 0)])] (σ := Option Nat) (fun o => match o with
            | none => [(1, .sl 1 t i y), (2, .ptr 2 0 0), (4, .ptr 3 0 0), (8, .ptr 4 0 0), (9, .int .i64 0)]
            | some j => [(1, .sl 1 t i y), (2, .ptr 2 0 0), (4, .ptr 3 0 0), (8, .ptr 4 0 0), (9, .int .i64 j)]) (fun o => match o with
            | none => [.arr (.prod (.int .i64) (.int .i64)) l 2 wr, .arr (.prod (.int .i64) (.int .i64)) k 2 wk, .box [.int .i64 up, .int .i64 uq, .sl 0 s i x] true false, .box [.int .i64 0, .int .i64 0, .nils] true false, .box [.int .i64 up, .int .i64 uq, .nils] true false]
            | some j => [.arr (.prod (.int .i64) (.int .i64)) l 2 wr, .arr (.prod (.int .i64) (.int .i64)) k 2 wk, .box [.int .i64 up, .int .i64 uq, .sl 0 s i x] true false, .box [.int .i64 0, .int .i64 0, .nils] true false, .box [.int .i64 up, .int .i64 uq, .sl 5 0 j 0] true false, .arr (.prod (.int .i64) (.int .i64)) ((csE (seg l s i) (seg k t i)).take j) 2 true]) (fun o => match o with | none => i + 1 | some j => i - j) (fun o => match o with | none => True | some j => 1 ≤ j ∧ j ≤ i ∧ csX (((seg l s i).zip (seg k t i)).take j) = false) none trivial ?_ ?_
          · (repeat' ((try (conv => whnf)); first | (with_reducible first | refine And.intro ?_ ?_ | refine WX.of ?_) | exact zc | ((with_reducible refine VC.mk ?_); exact zw) | (with_reducible first | refine splitT ?_ | refine splitF ?_) | ((with_reducible refine splitM.mk (fun hsm => ?_) (fun hsm => ?_)) <;> (try exact zx)) | ((with_reducible refine splitB.mk (fun h => ?_) (fun h => ?_)) <;> (try simp only [zs, ne_eq] at h) <;> (try simp (disch := omega) only [w64] at h) <;> (try exact zx)) | (with_reducible intro hz; (try exact absurd hz (Nat.succ_ne_zero _)))))
          · intro o hj
            cases o with
            | none =>
              obtain ⟨⟨p, q⟩, ha⟩ := get_some (l := seg l s i) (i := 0) (by omega)
              obtain ⟨⟨p', q'⟩, hb⟩ := get_some (l := seg k t i) (i := 0) (by omega)
              have hw2 := cs_get ha hb
              (repeat' ((try (conv => whnf)); first | (with_reducible first | refine And.intro ?_ ?_ | refine WX.of ?_) | exact zc | ((with_reducible refine VC.mk ?_); exact zw) | refine atL_i ha ?_ | refine atL_i hb ?_ | ((with_reducible refine VC.mk ?_); exact ⟨hel _ _ ha, allF_at hB hb⟩) | ((with_reducible refine splitC (fun h => ?_) (fun a b h hs => ?_)) <;> (try rw [h]) <;> (try simp only [zv_c] at h) <;> (try dsimp only at h)) | (with_reducible first | refine splitT ?_ | refine splitF ?_) | ((with_reducible refine splitM.mk (fun hsm => ?_) (fun hsm => ?_)) <;> (try exact zx)) | ((with_reducible refine splitB.mk (fun h => ?_) (fun h => ?_)) <;> (try simp only [zs, ne_eq] at h) <;> (try simp (disch := omega) only [w64] at h) <;> (try exact zx)) | (with_reducible intro hz; (try exact absurd hz (Nat.succ_ne_zero _)))))
              rw [h] at hw2
              refine ⟨some 1, by dsimp only; omega, ⟨by omega, by omega, cs_go (i := 0) ha hb h rfl⟩, ?_⟩
              (repeat' ((try (conv => whnf)); first | (with_reducible first | refine And.intro ?_ ?_ | refine WX.of ?_) | exact zc | ((with_reducible refine VC.mk ?_); exact zw) | (with_reducible first | refine splitT ?_ | refine splitF ?_) | ((with_reducible refine splitM.mk (fun hsm => ?_) (fun hsm => ?_)) <;> (try exact zx)) | ((with_reducible refine splitB.mk (fun h => ?_) (fun h => ?_)) <;> (try simp only [zs, ne_eq] at h) <;> (try simp (disch := omega) only [w64] at h) <;> (try exact zx)) | (with_reducible intro hz; (try exact absurd hz (Nat.succ_ne_zero _)))))
              exact ⟨by rw [← app_00 hw2]; rfl⟩
            | some j =>
              dsimp only at hj ⊢
              have hlen2 : ((csE (seg l s i) (seg k t i)).take j).length = j := by rw [List.length_take, hll]; omega
              by_cases hlt : j < i
              · obtain ⟨⟨p, q⟩, ha⟩ := get_some (l := seg l s i) (i := j) (by omega)
                obtain ⟨⟨p', q'⟩, hb⟩ := get_some (l := seg k t i) (i := j) (by omega)
                have hw2 := cs_get ha hb
                (repeat' ((try (conv => whnf)); first | (with_reducible first | refine And.intro ?_ ?_ | refine WX.of ?_) | exact zc | ((with_reducible refine VC.mk ?_); exact zw) | refine atL_i ha ?_ | refine atL_i hb ?_ | ((with_reducible refine VC.mk ?_); exact ⟨hel _ _ ha, allF_at hB hb⟩) | ((with_reducible refine splitC (fun h => ?_) (fun a b h hs => ?_)) <;> (try rw [h]) <;> (try simp only [zv_c] at h) <;> (try dsimp only at h)) | (with_reducible first | refine splitT ?_ | refine splitF ?_) | ((with_reducible refine splitM.mk (fun hsm => ?_) (fun hsm => ?_)) <;> (try exact zx)) | ((with_reducible refine splitB.mk (fun h => ?_) (fun h => ?_)) <;> (try simp only [zs, ne_eq] at h) <;> (try simp (disch := omega) only [w64] at h) <;> (try exact zx)) | (with_reducible intro hz; (try exact absurd hz (Nat.succ_ne_zero _)))))
                rw [h] at hw2
                refine ⟨some (j + 1), by dsimp only; omega, ⟨by omega, by omega, cs_go ha hb h hj.2.2⟩, ?_⟩
                (repeat' ((try (conv => whnf)); first | (with_reducible first | refine And.intro ?_ ?_ | refine WX.of ?_) | exact zc | ((with_reducible refine VC.mk ?_); exact zw) | (with_reducible first | refine splitT ?_ | refine splitF ?_) | ((with_reducible refine splitM.mk (fun hsm => ?_) (fun hsm => ?_)) <;> (try exact zx)) | ((with_reducible refine splitB.mk (fun h => ?_) (fun h => ?_)) <;> (try simp only [zs, ne_eq] at h) <;> (try simp (disch := omega) only [w64] at h) <;> (try exact zx)) | (with_reducible intro hz; (try exact absurd hz (Nat.succ_ne_zero _)))))
                exact ⟨app_take hw2⟩
              · obtain rfl : j = i := by omega
                exfalso
                have hXn := hj.2.2
                rw [hzt, hX] at hXn; cases hXn
    · refine funW tabOk (E := [(36, s_l02OkC), (41, s_fOkT), (42, s_subZ)]) ⟨ok_l02OkC, ok_fOkT, ok_l01SubZ, trivial⟩ [(14, [(13, 0)])] (k := 2) (fn := Try.f18) rfl rfl rfl rfl rfl rfl ?_
      (repeat' ((try (conv => whnf)); first | (with_reducible first | refine And.intro ?_ ?_ | refine WX.of ?_) | exact zc | ((with_reducible refine VC.mk ?_); exact zw) | ((with_reducible refine splitT_of ?_ ?_); (focus (simp only [hsc, Bool.not_true, Bool.not_false, decide_true, decide_false]; done))) | ((with_reducible refine splitF_of ?_ ?_); (focus (simp only [hsc, Bool.not_true, Bool.not_false, decide_true, decide_false]; done))) | ((with_reducible refine VC.mk ?_); exact ⟨h1, by omega⟩) | (with_reducible first | refine splitT ?_ | refine splitF ?_) | ((with_reducible refine splitM.mk (fun hsm => ?_) (fun hsm => ?_)) <;> (try exact zx)) | ((with_reducible refine splitB.mk (fun h => ?_) (fun h => ?_)) <;> (try simp only [zs, ne_eq] at h) <;> (try simp (disch := omega) only [w64] at h) <;> (try exact zx)) | (with_reducible intro hz; (try exact absurd hz (Nat.succ_ne_zero _)))))
      refine loopW tabOk (E := [(36, s_l02OkC), (41, s_fOkT), (42, s_subZ)]) ⟨ok_l02OkC, ok_fOkT, ok_l01SubZ, trivial⟩ [(14, [(13, 0)])] (σ := Nat × Bool) (fun i => [(1, .sl 1 t m y), (2, .ptr 2 0 0), (4, .ptr 3 0 0), (6, .bool i.2), (7, .int .i64 i.1)]) (fun i => [.arr (.prod (.int .i64) (.int .i64)) l 2 wr, .arr (.prod (.int .i64) (.int .i64)) k 2 wk, .box [.int .i64 up, .int .i64 uq, .sl 0 s m x] true false, .box [.int .i64 0, .int .i64 0, .nils] true false]) (fun i => m - i.1) (fun i => i.1 ≤ m ∧ i.2 = true) (0, scB up uq (seg l s m)) ⟨Nat.zero_le _, hsc⟩ ?_ ?_
      · (repeat' ((try (conv => whnf)); first | (with_reducible first | refine And.intro ?_ ?_ | refine WX.of ?_) | exact zc | ((with_reducible refine VC.mk ?_); exact zw) | (with_reducible first | refine splitT ?_ | refine splitF ?_) | ((with_reducible refine splitM.mk (fun hsm => ?_) (fun hsm => ?_)) <;> (try exact zx)) | ((with_reducible refine splitB.mk (fun h => ?_) (fun h => ?_)) <;> (try simp only [zs, ne_eq] at h) <;> (try simp (disch := omega) only [w64] at h) <;> (try exact zx)) | (with_reducible intro hz; (try exact absurd hz (Nat.succ_ne_zero _)))))
      · intro ⟨i, ok⟩ ⟨hi, hk⟩
        dsimp only at hi hk ⊢
        obtain rfl : ok = true := hk
        by_cases hlt : i < m
        · obtain ⟨⟨p', q'⟩, hb⟩ := get_some (l := seg k t m) (i := i) (by omega)
          have hbo : fOk p' q' = true := allF_ok hB hb
          (repeat' ((try (conv => whnf)); first | (with_reducible first | refine And.intro ?_ ?_ | refine WX.of ?_) | exact zc | ((with_reducible refine VC.mk ?_); exact zw) | refine atL_i hb ?_ | ((with_reducible refine VC.mk ?_); exact hbo) | (with_reducible first | refine splitT ?_ | refine splitF ?_) | ((with_reducible refine splitM.mk (fun hsm => ?_) (fun hsm => ?_)) <;> (try exact zx)) | ((with_reducible refine splitB.mk (fun h => ?_) (fun h => ?_)) <;> (try simp only [zs, ne_eq] at h) <;> (try simp (disch := omega) only [w64] at h) <;> (try exact zx)) | (with_reducible intro hz; (try exact absurd hz (Nat.succ_ne_zero _)))))
          refine ⟨(i + 1, true), by dsimp only; omega, ⟨hlt, rfl⟩, ?_⟩
          (repeat' ((try (conv => whnf)); first | (with_reducible first | refine And.intro ?_ ?_ | refine WX.of ?_) | exact zc | ((with_reducible refine VC.mk ?_); exact zw) | (with_reducible first | refine splitT ?_ | refine splitF ?_) | ((with_reducible refine splitM.mk (fun hsm => ?_) (fun hsm => ?_)) <;> (try exact zx)) | ((with_reducible refine splitB.mk (fun h => ?_) (fun h => ?_)) <;> (try simp only [zs, ne_eq] at h) <;> (try simp (disch := omega) only [w64] at h) <;> (try exact zx)) | (with_reducible intro hz; (try exact absurd hz (Nat.succ_ne_zero _)))))
        · obtain rfl : i = m := by omega
          (repeat' ((try (conv => whnf)); first | (with_reducible first | refine And.intro ?_ ?_ | refine WX.of ?_) | exact zc | ((with_reducible refine VC.mk ?_); exact zw) | (with_reducible first | refine splitT ?_ | refine splitF ?_) | ((with_reducible refine splitM.mk (fun hsm => ?_) (fun hsm => ?_)) <;> (try exact zx)) | ((with_reducible refine splitB.mk (fun h => ?_) (fun h => ?_)) <;> (try simp only [zs, ne_eq] at h) <;> (try simp (disch := omega) only [w64] at h) <;> (try exact zx)) | (with_reducible intro hz; (try exact absurd hz (Nat.succ_ne_zero _)))))
          refine loopW tabOk (E := [(36, s_l02OkC), (41, s_fOkT), (42, s_subZ)]) ⟨ok_l02OkC, ok_fOkT, ok_l01SubZ, trivial⟩ [(14, [(13, 0)])] (σ := Option Nat) (fun o => match o with
            | none => [(1, .sl 1 t i y), (2, .ptr 2 0 0), (4, .ptr 3 0 0), (8, .ptr 4 0 0), (9, .int .i64 0)]
            | some j => [(1, .sl 1 t i y), (2, .ptr 2 0 0), (4, .ptr 3 0 0), (8, .ptr 4 0 0), (9, .int .i64 j)]) (fun o => match o with
            | none => [.arr (.prod (.int .i64) (.int .i64)) l 2 wr, .arr (.prod (.int .i64) (.int .i64)) k 2 wk, .box [.int .i64 up, .int .i64 uq, .sl 0 s i x] true false, .box [.int .i64 0, .int .i64 0, .nils] true false, .box [.int .i64 up, .int .i64 uq, .nils] true false]
            | some j => [.arr (.prod (.int .i64) (.int .i64)) l 2 wr, .arr (.prod (.int .i64) (.int .i64)) k 2 wk, .box [.int .i64 up, .int .i64 uq, .sl 0 s i x] true false, .box [.int .i64 0, .int .i64 0, .nils] true false, .box [.int .i64 up, .int .i64 uq, .sl 5 0 j 0] true false, .arr (.prod (.int .i64) (.int .i64)) ((csE (seg l s i) (seg k t i)).take j) 2 true]) (fun o => match o with | none => i + 1 | some j => i - j) (fun o => match o with | none => True | some j => 1 ≤ j ∧ j ≤ i ∧ csX (((seg l s i).zip (seg k t i)).take j) = false) none trivial ?_ ?_
          · (repeat' ((try (conv => whnf)); first | (with_reducible first | refine And.intro ?_ ?_ | refine WX.of ?_) | exact zc | ((with_reducible refine VC.mk ?_); exact zw) | (with_reducible first | refine splitT ?_ | refine splitF ?_) | ((with_reducible refine splitM.mk (fun hsm => ?_) (fun hsm => ?_)) <;> (try exact zx)) | ((with_reducible refine splitB.mk (fun h => ?_) (fun h => ?_)) <;> (try simp only [zs, ne_eq] at h) <;> (try simp (disch := omega) only [w64] at h) <;> (try exact zx)) | (with_reducible intro hz; (try exact absurd hz (Nat.succ_ne_zero _)))))
          · intro o hj
            cases o with
            | none =>
              obtain ⟨⟨p, q⟩, ha⟩ := get_some (l := seg l s i) (i := 0) (by omega)
              obtain ⟨⟨p', q'⟩, hb⟩ := get_some (l := seg k t i) (i := 0) (by omega)
              have hw2 := cs_get ha hb
              (repeat' ((try (conv => whnf)); first | (with_reducible first | refine And.intro ?_ ?_ | refine WX.of ?_) | exact zc | ((with_reducible refine VC.mk ?_); exact zw) | refine atL_i ha ?_ | refine atL_i hb ?_ | ((with_reducible refine VC.mk ?_); exact ⟨hel _ _ ha, allF_at hB hb⟩) | ((with_reducible refine splitC (fun h => ?_) (fun a b h hs => ?_)) <;> (try rw [h]) <;> (try simp only [zv_c] at h) <;> (try dsimp only at h)) | (with_reducible first | refine splitT ?_ | refine splitF ?_) | ((with_reducible refine splitM.mk (fun hsm => ?_) (fun hsm => ?_)) <;> (try exact zx)) | ((with_reducible refine splitB.mk (fun h => ?_) (fun h => ?_)) <;> (try simp only [zs, ne_eq] at h) <;> (try simp (disch := omega) only [w64] at h) <;> (try exact zx)) | (with_reducible intro hz; (try exact absurd hz (Nat.succ_ne_zero _)))))
              · exfalso; rw [cs_no ha hb h] at hX; cases hX
              rw [h] at hw2
              refine ⟨some 1, by dsimp only; omega, ⟨by omega, by omega, cs_go (i := 0) ha hb h rfl⟩, ?_⟩
              (repeat' ((try (conv => whnf)); first | (with_reducible first | refine And.intro ?_ ?_ | refine WX.of ?_) | exact zc | ((with_reducible refine VC.mk ?_); exact zw) | (with_reducible first | refine splitT ?_ | refine splitF ?_) | ((with_reducible refine splitM.mk (fun hsm => ?_) (fun hsm => ?_)) <;> (try exact zx)) | ((with_reducible refine splitB.mk (fun h => ?_) (fun h => ?_)) <;> (try simp only [zs, ne_eq] at h) <;> (try simp (disch := omega) only [w64] at h) <;> (try exact zx)) | (with_reducible intro hz; (try exact absurd hz (Nat.succ_ne_zero _)))))
              exact ⟨by rw [← app_00 hw2]; rfl⟩
            | some j =>
              dsimp only at hj ⊢
              have hlen2 : ((csE (seg l s i) (seg k t i)).take j).length = j := by rw [List.length_take, hll]; omega
              by_cases hlt : j < i
              · obtain ⟨⟨p, q⟩, ha⟩ := get_some (l := seg l s i) (i := j) (by omega)
                obtain ⟨⟨p', q'⟩, hb⟩ := get_some (l := seg k t i) (i := j) (by omega)
                have hw2 := cs_get ha hb
                (repeat' ((try (conv => whnf)); first | (with_reducible first | refine And.intro ?_ ?_ | refine WX.of ?_) | exact zc | ((with_reducible refine VC.mk ?_); exact zw) | refine atL_i ha ?_ | refine atL_i hb ?_ | ((with_reducible refine VC.mk ?_); exact ⟨hel _ _ ha, allF_at hB hb⟩) | ((with_reducible refine splitC (fun h => ?_) (fun a b h hs => ?_)) <;> (try rw [h]) <;> (try simp only [zv_c] at h) <;> (try dsimp only at h)) | (with_reducible first | refine splitT ?_ | refine splitF ?_) | ((with_reducible refine splitM.mk (fun hsm => ?_) (fun hsm => ?_)) <;> (try exact zx)) | ((with_reducible refine splitB.mk (fun h => ?_) (fun h => ?_)) <;> (try simp only [zs, ne_eq] at h) <;> (try simp (disch := omega) only [w64] at h) <;> (try exact zx)) | (with_reducible intro hz; (try exact absurd hz (Nat.succ_ne_zero _)))))
                · exfalso; rw [cs_no ha hb h] at hX; cases hX
                rw [h] at hw2
                refine ⟨some (j + 1), by dsimp only; omega, ⟨by omega, by omega, cs_go ha hb h hj.2.2⟩, ?_⟩
                (repeat' ((try (conv => whnf)); first | (with_reducible first | refine And.intro ?_ ?_ | refine WX.of ?_) | exact zc | ((with_reducible refine VC.mk ?_); exact zw) | (with_reducible first | refine splitT ?_ | refine splitF ?_) | ((with_reducible refine splitM.mk (fun hsm => ?_) (fun hsm => ?_)) <;> (try exact zx)) | ((with_reducible refine splitB.mk (fun h => ?_) (fun h => ?_)) <;> (try simp only [zs, ne_eq] at h) <;> (try simp (disch := omega) only [w64] at h) <;> (try exact zx)) | (with_reducible intro hz; (try exact absurd hz (Nat.succ_ne_zero _)))))
                exact ⟨app_take hw2⟩
              · obtain rfl : j = i := by omega
                rw [hct]
                (repeat' ((try (conv => whnf)); first | (with_reducible first | refine And.intro ?_ ?_ | refine WX.of ?_) | exact zc | ((with_reducible refine VC.mk ?_); exact zw) | ((with_reducible refine splitT_of ?_ ?_); (focus (simp only [hE2, hsn, Bool.not_true, Bool.not_false, decide_true, decide_false]; done))) | ((with_reducible refine splitF_of ?_ ?_); (focus (simp only [hE2, hsn, Bool.not_true, Bool.not_false, decide_true, decide_false]; done))) | ((with_reducible refine VC.mk ?_); exact ⟨by omega, by omega⟩) | (with_reducible first | refine splitT ?_ | refine splitF ?_) | ((with_reducible refine splitM.mk (fun hsm => ?_) (fun hsm => ?_)) <;> (try exact zx)) | ((with_reducible refine splitB.mk (fun h => ?_) (fun h => ?_)) <;> (try simp only [zs, ne_eq] at h) <;> (try simp (disch := omega) only [w64] at h) <;> (try exact zx)) | (with_reducible intro hz; (try exact absurd hz (Nat.succ_ne_zero _)))))
end Go.Proofs.Yteniodjodngkbaa.Eng
set_option linter.unusedVariables false
set_option linter.unusedSimpArgs false
namespace Go.Proofs.Yteniodjodngkbaa.Eng
open Go Go.RowKit
set_option maxRecDepth 100000
def cbF (ok : Bool) (u : FrT) (E B : List FrT) : Except Int (List FrT) := if ok = true then csF u E B else .error 1
def s_cb1 (E' : List FrT) : Spec := fun args S => match args, S with
  | [.agg [.int .i64 up, .int .i64 uq, .sl 0 s n x, .int .i64 vp, .bool vb, .int .i64 gp, .int .i64 gq, .sl 1 t m y], .sl 2 r j z], [.arr (.prod (.int .i64) (.int .i64)) l 2 wr, .arr (.prod .str (.prod (.prod (.int .i64) (.int .i64)) (.prod (.int .i64) (.int .i64)))) T 5 wT, .arr (.prod (.int .i64) (.int .i64)) k 2 wk] => ⟨((s + n ≤ l.length ∧ n ≤ 1048576) ∧ (t + m ≤ T.length ∧ m ≤ 1048576) ∧ (r + j ≤ k.length ∧ j ≤ 1048576) ∧ ∀ (j : Nat) (a : ThT), T[j]? = some a → a.1.length < 9223372036854775808) ∧ cbF (bnB up uq vp gp gq (seg l s n) (seg T t m)) (up, uq) (seg l s n) (seg k r j) = .ok E', .tup [.agg [.int .i64 up, .int .i64 uq, .sl 3 0 n 0, .int .i64 vp, .bool vb, .int .i64 gp, .int .i64 gq, .sl 4 0 m 0], .int .i64 0], [.arr (.prod (.int .i64) (.int .i64)) l 2 wr, .arr (.prod .str (.prod (.prod (.int .i64) (.int .i64)) (.prod (.int .i64) (.int .i64)))) T 5 wT, .arr (.prod (.int .i64) (.int .i64)) k 2 wk, .arr (.prod (.int .i64) (.int .i64)) E' 2 true, .arr (.prod .str (.prod (.prod (.int .i64) (.int .i64)) (.prod (.int .i64) (.int .i64)))) (seg T t m) 5 true]⟩
  | _, _ => noSpec
def s_cb0 (c : Int) : Spec := fun args S => match args, S with
  | [.agg [.int .i64 up, .int .i64 uq, .sl 0 s n x, .int .i64 vp, .bool vb, .int .i64 gp, .int .i64 gq, .sl 1 t m y], .sl 2 r j z], [.arr (.prod (.int .i64) (.int .i64)) l 2 wr, .arr (.prod .str (.prod (.prod (.int .i64) (.int .i64)) (.prod (.int .i64) (.int .i64)))) T 5 wT, .arr (.prod (.int .i64) (.int .i64)) k 2 wk] => ⟨((s + n ≤ l.length ∧ n ≤ 1048576) ∧ (t + m ≤ T.length ∧ m ≤ 1048576) ∧ (r + j ≤ k.length ∧ j ≤ 1048576) ∧ ∀ (j : Nat) (a : ThT), T[j]? = some a → a.1.length < 9223372036854775808) ∧ cbF (bnB up uq vp gp gq (seg l s n) (seg T t m)) (up, uq) (seg l s n) (seg k r j) = .error c, .tup [.agg [.int .i64 0, .int .i64 0, .nils, .int .i64 0, .bool false, .int .i64 0, .int .i64 0, .nils], .int .i64 c], [.arr (.prod (.int .i64) (.int .i64)) l 2 wr, .arr (.prod .str (.prod (.prod (.int .i64) (.int .i64)) (.prod (.int .i64) (.int .i64)))) T 5 wT, .arr (.prod (.int .i64) (.int .i64)) k 2 wk]⟩
  | _, _ => noSpec
theorem cb_ok {ok : Bool} {u : FrT} {E B E' : List FrT} (h : cbF ok u E B = .ok E') : ok = true ∧ csF u E B = .ok E' := by
  unfold cbF at h
  split at h
  · exact ⟨by assumption, h⟩
  · cases h
theorem cb_er {ok : Bool} {u : FrT} {E B : List FrT} {c : Int} (h : cbF ok u E B = .error c) : (ok = false ∧ c = 1) ∨ (ok = true ∧ csF u E B = .error c) := by
  unfold cbF at h
  split at h
  · exact .inr ⟨by assumption, h⟩
  · rename_i h1; cases h; exact .inl ⟨by simpa using h1, rfl⟩
theorem cb_sc {up uq vp gp gq : Int} {E : List FrT} {T : List ThT} (h : bnB up uq vp gp gq E T = true) : scB up uq E = true := by
  unfold bnB at h
  simp only [Bool.and_eq_true] at h
  exact h.1.1.1.1
theorem cs_1 {u : FrT} {E B E' : List FrT} (h : csF u E B = .ok E') : allF B = true ∧ E'.length = E.length := by
  obtain ⟨h1, h2, _, _, h3⟩ := cs_ok h
  exact ⟨h1, by rw [← h3, cs_len h2]⟩
def s_cloneTh : Spec := fun args S => match args, S with
  | [.sl 0 s n x], [.arr (.prod .str (.prod (.prod (.int .i64) (.int .i64)) (.prod (.int .i64) (.int .i64)))) l 5 wr] => ⟨s + n ≤ l.length ∧ n ≤ 1048576, .sl 1 0 n 0, [.arr (.prod .str (.prod (.prod (.int .i64) (.int .i64)) (.prod (.int .i64) (.int .i64)))) l 5 wr, .arr (.prod .str (.prod (.prod (.int .i64) (.int .i64)) (.prod (.int .i64) (.int .i64)))) (seg l s n) 5 true]⟩
  | _, _ => noSpec
theorem ok_cloneTh : SpecOk Try.prog 26 s_cloneTh := by
  intro args S h; unfold s_cloneTh at h ⊢; (split at h <;> first | exact False.elim h | skip)
  dsimp only at h ⊢
  rename_i s n x l wr
  obtain ⟨h1, h2⟩ := h
  refine funW tabOk (E := []) trivial [] (k := 1) (fn := Try.f26) rfl rfl rfl rfl rfl rfl ?_
  (repeat' ((try (conv => whnf)); first | (with_reducible first | refine And.intro ?_ ?_ | refine WX.of ?_) | exact zc | ((with_reducible refine VC.mk ?_); exact zw) | (with_reducible first | refine splitT ?_ | refine splitF ?_) | ((with_reducible refine splitM.mk (fun hsm => ?_) (fun hsm => ?_)) <;> (try exact zx)) | ((with_reducible refine splitB.mk (fun h => ?_) (fun h => ?_)) <;> (try simp only [zs, ne_eq] at h) <;> (try simp (disch := omega) only [w64] at h) <;> (try exact zx)) | (with_reducible intro hz; (try exact absurd hz (Nat.succ_ne_zero _)))))
  subst hz
  exact ⟨by rw [show seg l s 0 = [] from by simp [seg]]; rfl⟩
theorem ok_cb1I (E' : List FrT) : SpecOk Try.prog 9 (s_cb1 E') := by
  intro args S h; unfold s_cb1 at h ⊢; (split at h <;> first | exact False.elim h | skip)
  dsimp only at h ⊢
  rename_i up uq s n x vp vb gp gq t m y r j z l wr T wT k wk
  obtain ⟨⟨⟨h1, h2⟩, ⟨h3, h4⟩, ⟨h5, h6⟩, ho⟩, hE⟩ := h
  obtain ⟨hb, hE⟩ := cb_ok hE
  have hsc := cb_sc hb
  have hB := (cs_1 hE).1
  refine funW tabOk (E := [(23, s_vBench), (24, s_allF), (25, (s_cs1 E')), (26, s_cloneTh)]) ⟨ok_ValidBenchI, ok_areValid, (ok_cs1I E'), ok_cloneTh, trivial⟩ [(6, [(0, 1), (2, 1), (4, 1)])] (k := 3) (fn := Try.f9) rfl rfl rfl rfl rfl rfl ?_
  (repeat' ((try (conv => whnf)); first | (with_reducible first | refine And.intro ?_ ?_ | refine WX.of ?_) | exact zc | ((with_reducible refine VC.mk ?_); exact zw) | ((with_reducible refine splitT_of ?_ ?_); (focus (simp only [hb, hB, Bool.not_true, Bool.not_false, decide_true, decide_false]; done))) | ((with_reducible refine splitF_of ?_ ?_); (focus (simp only [hb, hB, Bool.not_true, Bool.not_false, decide_true, decide_false]; done))) | ((with_reducible refine VC.mk ?_); exact ⟨⟨h1, h2⟩, ⟨h3, h4⟩, ho⟩) | ((with_reducible refine VC.mk ?_); exact ⟨by omega, by omega⟩) | ((with_reducible refine VC.mk ?_); exact ⟨⟨h1, h5, h6⟩, hsc, hE⟩) | (with_reducible first | refine splitT ?_ | refine splitF ?_) | ((with_reducible refine splitM.mk (fun hsm => ?_) (fun hsm => ?_)) <;> (try exact zx)) | ((with_reducible refine splitB.mk (fun h => ?_) (fun h => ?_)) <;> (try simp only [zs, ne_eq] at h) <;> (try simp (disch := omega) only [w64] at h) <;> (try exact zx)) | (with_reducible intro hz; (try exact absurd hz (Nat.succ_ne_zero _)))))
theorem ok_cb1S (E' : List FrT) : SpecOk Try.prog 6 (s_cb1 E') := by
  intro args S h; unfold s_cb1 at h ⊢; (split at h <;> first | exact False.elim h | skip)
  dsimp only at h ⊢
  rename_i up uq s n x vp vb gp gq t m y r j z l wr T wT k wk
  obtain ⟨⟨⟨h1, h2⟩, ⟨h3, h4⟩, ⟨h5, h6⟩, ho⟩, hE⟩ := h
  obtain ⟨hb, hE⟩ := cb_ok hE
  have hsc := cb_sc hb
  have hM := seg_len h3
  refine funW tabOk (E := [(17, s_l07Ok), (18, (s_cs1 E'))]) ⟨ok_l07Ok, (ok_cs1S E'), trivial⟩ [] (k := 3) (fn := Try.f6) rfl rfl rfl rfl rfl rfl ?_
  (repeat' ((try (conv => whnf)); first | (with_reducible first | refine And.intro ?_ ?_ | refine WX.of ?_) | exact zc | ((with_reducible refine VC.mk ?_); exact zw) | ((with_reducible refine splitT_of ?_ ?_); (focus (simp only [hb, Bool.not_true, Bool.not_false, decide_true, decide_false]; done))) | ((with_reducible refine splitF_of ?_ ?_); (focus (simp only [hb, Bool.not_true, Bool.not_false, decide_true, decide_false]; done))) | ((with_reducible refine VC.mk ?_); exact ⟨⟨h1, h2⟩, ⟨h3, h4⟩, ho⟩) | ((with_reducible refine VC.mk ?_); exact ⟨⟨h1, h5, h6⟩, hsc, hE⟩) | (with_reducible first | refine splitT ?_ | refine splitF ?_) | ((with_reducible refine splitM.mk (fun hsm => ?_) (fun hsm => ?_)) <;> (try exact zx)) | ((with_reducible refine splitB.mk (fun h => ?_) (fun h => ?_)) <;> (try simp only [zs, ne_eq] at h) <;> (try simp (disch := omega) only [w64] at h) <;> (try exact zx)) | (with_reducible intro hz; (try exact absurd hz (Nat.succ_ne_zero _)))))
  · subst hz; exact ⟨rfl⟩
  · subst hz; exact ⟨by rw [show seg T t 0 = [] from by simp [seg]]; rfl⟩
  · exact ⟨by rw [Nat.zero_add]⟩
theorem ok_cb0I (c : Int) : SpecOk Try.prog 9 (s_cb0 c) := by
  intro args S h; unfold s_cb0 at h ⊢; (split at h <;> first | exact False.elim h | skip)
  dsimp only at h ⊢
  rename_i up uq s n x vp vb gp gq t m y r j z l wr T wT k wk
  obtain ⟨⟨⟨h1, h2⟩, ⟨h3, h4⟩, ⟨h5, h6⟩, ho⟩, hE⟩ := h
  rcases cb_er hE with ⟨hb, rfl⟩ | ⟨hb, hE⟩
  · refine funW tabOk (E := [(23, s_vBench), (24, s_allF)]) ⟨ok_ValidBenchI, ok_areValid, trivial⟩ [(6, [(0, 1), (2, 1), (4, 1)])] (k := 3) (fn := Try.f9) rfl rfl rfl rfl rfl rfl ?_
    (repeat' ((try (conv => whnf)); first | (with_reducible first | refine And.intro ?_ ?_ | refine WX.of ?_) | exact zc | ((with_reducible refine VC.mk ?_); exact zw) | ((with_reducible refine splitT_of ?_ ?_); (focus (simp only [hb, Bool.not_true, Bool.not_false, decide_true, decide_false]; done))) | ((with_reducible refine splitF_of ?_ ?_); (focus (simp only [hb, Bool.not_true, Bool.not_false, decide_true, decide_false]; done))) | ((with_reducible refine VC.mk ?_); exact ⟨⟨h1, h2⟩, ⟨h3, h4⟩, ho⟩) | (with_reducible first | refine splitT ?_ | refine splitF ?_) | ((with_reducible refine splitM.mk (fun hsm => ?_) (fun hsm => ?_)) <;> (try exact zx)) | ((with_reducible refine splitB.mk (fun h => ?_) (fun h => ?_)) <;> (try simp only [zs, ne_eq] at h) <;> (try simp (disch := omega) only [w64] at h) <;> (try exact zx)) | (with_reducible intro hz; (try exact absurd hz (Nat.succ_ne_zero _)))))
  · have hsc := cb_sc hb
    cases hB : allF (seg k r j) with
    | false =>
      obtain rfl : c = 1 := by rcases cs_er hE with h | h | h <;> simp_all
      refine funW tabOk (E := [(23, s_vBench), (24, s_allF)]) ⟨ok_ValidBenchI, ok_areValid, trivial⟩ [(6, [(0, 1), (2, 1), (4, 1)])] (k := 3) (fn := Try.f9) rfl rfl rfl rfl rfl rfl ?_
      (repeat' ((try (conv => whnf)); first | (with_reducible first | refine And.intro ?_ ?_ | refine WX.of ?_) | exact zc | ((with_reducible refine VC.mk ?_); exact zw) | ((with_reducible refine splitT_of ?_ ?_); (focus (simp only [hb, hB, Bool.not_true, Bool.not_false, decide_true, decide_false]; done))) | ((with_reducible refine splitF_of ?_ ?_); (focus (simp only [hb, hB, Bool.not_true, Bool.not_false, decide_true, decide_false]; done))) | ((with_reducible refine VC.mk ?_); exact ⟨⟨h1, h2⟩, ⟨h3, h4⟩, ho⟩) | ((with_reducible refine VC.mk ?_); exact ⟨by omega, by omega⟩) | (with_reducible first | refine splitT ?_ | refine splitF ?_) | ((with_reducible refine splitM.mk (fun hsm => ?_) (fun hsm => ?_)) <;> (try exact zx)) | ((with_reducible refine splitB.mk (fun h => ?_) (fun h => ?_)) <;> (try simp only [zs, ne_eq] at h) <;> (try simp (disch := omega) only [w64] at h) <;> (try exact zx)) | (with_reducible intro hz; (try exact absurd hz (Nat.succ_ne_zero _)))))
    | true =>
      have hc0 : decide (c = 0) = false := decide_eq_false (cs_nz hE)
      refine funW tabOk (E := [(23, s_vBench), (24, s_allF), (25, (s_cs0 c))]) ⟨ok_ValidBenchI, ok_areValid, (ok_cs0I c), trivial⟩ [(6, [(0, 1), (2, 1), (4, 1)])] (k := 3) (fn := Try.f9) rfl rfl rfl rfl rfl rfl ?_
      (repeat' ((try (conv => whnf)); first | (with_reducible first | refine And.intro ?_ ?_ | refine WX.of ?_) | exact zc | ((with_reducible refine VC.mk ?_); exact zw) | ((with_reducible refine splitT_of ?_ ?_); (focus (simp only [hb, hB, hc0, Bool.not_true, Bool.not_false, decide_true, decide_false]; done))) | ((with_reducible refine splitF_of ?_ ?_); (focus (simp only [hb, hB, hc0, Bool.not_true, Bool.not_false, decide_true, decide_false]; done))) | ((with_reducible refine VC.mk ?_); exact ⟨⟨h1, h2⟩, ⟨h3, h4⟩, ho⟩) | ((with_reducible refine VC.mk ?_); exact ⟨by omega, by omega⟩) | ((with_reducible refine VC.mk ?_); exact ⟨⟨h1, h5, h6⟩, hsc, hE⟩) | (with_reducible first | refine splitT ?_ | refine splitF ?_) | ((with_reducible refine splitM.mk (fun hsm => ?_) (fun hsm => ?_)) <;> (try exact zx)) | ((with_reducible refine splitB.mk (fun h => ?_) (fun h => ?_)) <;> (try simp only [zs, ne_eq] at h) <;> (try simp (disch := omega) only [w64] at h) <;> (try exact zx)) | (with_reducible intro hz; (try exact absurd hz (Nat.succ_ne_zero _)))))
      all_goals (exfalso; simp_all)
theorem ok_cb0S (c : Int) : SpecOk Try.prog 6 (s_cb0 c) := by
  intro args S h; unfold s_cb0 at h ⊢; (split at h <;> first | exact False.elim h | skip)
  dsimp only at h ⊢
  rename_i up uq s n x vp vb gp gq t m y r j z l wr T wT k wk
  obtain ⟨⟨⟨h1, h2⟩, ⟨h3, h4⟩, ⟨h5, h6⟩, ho⟩, hE⟩ := h
  rcases cb_er hE with ⟨hb, rfl⟩ | ⟨hb, hE⟩
  · refine funW tabOk (E := [(17, s_l07Ok)]) ⟨ok_l07Ok, trivial⟩ [] (k := 3) (fn := Try.f6) rfl rfl rfl rfl rfl rfl ?_
    (repeat' ((try (conv => whnf)); first | (with_reducible first | refine And.intro ?_ ?_ | refine WX.of ?_) | exact zc | ((with_reducible refine VC.mk ?_); exact zw) | ((with_reducible refine splitT_of ?_ ?_); (focus (simp only [hb, Bool.not_true, Bool.not_false, decide_true, decide_false]; done))) | ((with_reducible refine splitF_of ?_ ?_); (focus (simp only [hb, Bool.not_true, Bool.not_false, decide_true, decide_false]; done))) | ((with_reducible refine VC.mk ?_); exact ⟨⟨h1, h2⟩, ⟨h3, h4⟩, ho⟩) | (with_reducible first | refine splitT ?_ | refine splitF ?_) | ((with_reducible refine splitM.mk (fun hsm => ?_) (fun hsm => ?_)) <;> (try exact zx)) | ((with_reducible refine splitB.mk (fun h => ?_) (fun h => ?_)) <;> (try simp only [zs, ne_eq] at h) <;> (try simp (disch := omega) only [w64] at h) <;> (try exact zx)) | (with_reducible intro hz; (try exact absurd hz (Nat.succ_ne_zero _)))))
  · have hsc := cb_sc hb
    have hc0 : decide (c = 0) = false := decide_eq_false (cs_nz hE)
    refine funW tabOk (E := [(17, s_l07Ok), (18, (s_cs0 c))]) ⟨ok_l07Ok, (ok_cs0S c), trivial⟩ [] (k := 3) (fn := Try.f6) rfl rfl rfl rfl rfl rfl ?_
    (repeat' ((try (conv => whnf)); first | (with_reducible first | refine And.intro ?_ ?_ | refine WX.of ?_) | exact zc | ((with_reducible refine VC.mk ?_); exact zw) | ((with_reducible refine splitT_of ?_ ?_); (focus (simp only [hb, hc0, Bool.not_true, Bool.not_false, decide_true, decide_false]; done))) | ((with_reducible refine splitF_of ?_ ?_); (focus (simp only [hb, hc0, Bool.not_true, Bool.not_false, decide_true, decide_false]; done))) | ((with_reducible refine VC.mk ?_); exact ⟨⟨h1, h2⟩, ⟨h3, h4⟩, ho⟩) | ((with_reducible refine VC.mk ?_); exact ⟨⟨h1, h5, h6⟩, hsc, hE⟩) | (with_reducible first | refine splitT ?_ | refine splitF ?_) | ((with_reducible refine splitM.mk (fun hsm => ?_) (fun hsm => ?_)) <;> (try exact zx)) | ((with_reducible refine splitB.mk (fun h => ?_) (fun h => ?_)) <;> (try simp only [zs, ne_eq] at h) <;> (try simp (disch := omega) only [w64] at h) <;> (try exact zx)) | (with_reducible intro hz; (try exact absurd hz (Nat.succ_ne_zero _)))))
    all_goals (exfalso; simp_all)
end Go.Proofs.Yteniodjodngkbaa.Eng
set_option linter.unusedVariables false
set_option linter.unusedSimpArgs false
namespace Go.Proofs.Yteniodjodngkbaa.Eng
open Go Go.RowKit
set_option maxRecDepth 100000
/-- A row of marks: from k on, c to an element. -/
def marks {α : Type} (f : Int → α) (c : Nat) (k : Int) (n : Nat) : List α := (List.range n).map fun i : Nat => f (k + c * (i : Int))
theorem marks_len {α : Type} {f : Int → α} {c : Nat} {k : Int} {n : Nat} : (marks f c k n).length = n := by simp [marks]
theorem marks_get {α : Type} {f : Int → α} {c : Nat} {k : Int} {n i : Nat} (h : i < n) : (marks f c k n)[i]? = some (f (k + c * i)) := by
  unfold marks
  rw [List.getElem?_map, List.getElem?_range h]; rfl
theorem mark_at {α : Type} {M l : List α} {i : Nat} {a : α} (hm : M.length = l.length) (ha : l[i]? = some a) : (M.take i ++ l.drop i)[i]? = some a := by
  have hi := (List.getElem?_eq_some_iff.1 ha).1
  rw [List.getElem?_append_right (by rw [List.length_take]; omega), List.length_take, show i - min i M.length = 0 by omega, List.getElem?_drop]; exact ha
theorem mark_step {α : Type} {M l : List α} {i : Nat} {b : α} (hm : M.length = l.length) (hb : M[i]? = some b) : (M.take i ++ l.drop i).set i b = M.take (i + 1) ++ l.drop (i + 1) := by
  have hi := (List.getElem?_eq_some_iff.1 hb).1
  have h1 : (M.take i).length = i := by rw [List.length_take]; omega
  rw [List.set_append_right _ _ (by omega), h1, Nat.sub_self, List.take_add_one, hb, List.drop_eq_getElem_cons (show i < l.length by omega), List.set_cons_zero]
  simp
theorem mark_end {α : Type} {M l : List α} {n : Nat} (hm : M.length = n) (hl : l.length = n) : M.take n ++ l.drop n = M := by
  rw [List.take_of_length_le (by omega), List.drop_eq_nil_of_le (by omega), List.append_nil]
theorem atL_set {α : Type} {l : List α} {i : Nat} {b : α} {K : α → Prop} (hl : i < l.length) (h : K b) : atL (l.set (0 + ((i : Nat) : Int).toNat) b) (0 + ((i : Nat) : Int).toNat) K :=
  atL_iff.2 ⟨b, by simp [hl], h⟩
end Go.Proofs.Yteniodjodngkbaa.Eng
set_option linter.unusedVariables false
set_option linter.unusedSimpArgs false
namespace Go.Proofs.Yteniodjodngkbaa.Eng
open Go Go.RowKit
set_option maxRecDepth 100000
/-- The letter m and the digits of k. -/
def mkGo : Nat → Int → List UInt8 → List UInt8
  | 0, _, out => out
  | f + 1, k, out => if k ≤ 0 then out else mkGo f (k.tdiv 10) (bytesL [IntKind.u8.wrap (48 + k.tmod 10)] ++ out)
def mkTx (k : Int) : List UInt8 := if k ≤ 0 then [109, 48] else 109 :: mkGo k.toNat k []
theorem mkGo_0 (f : Nat) {k : Int} (out : List UInt8) (h : k ≤ 0) : mkGo f k out = out := by
  cases f with
  | zero => rfl
  | succ f => rw [mkGo, if_pos h]
def s_mtext : Spec := fun args S => match args, S with
  | [.int .i64 k], [] => ⟨0 ≤ k ∧ k ≤ 2199023255552, .str (mkTx k), []⟩
  | _, _ => noSpec
theorem ok_markText : SpecOk Try.prog 57 s_mtext := by
  intro args S h; unfold s_mtext at h ⊢; (split at h <;> first | exact False.elim h | skip)
  dsimp only at h ⊢
  rename_i k
  refine funW tabOk (E := []) trivial [] (k := 0) (fn := Try.f57) rfl rfl rfl rfl rfl rfl ?_
  (repeat' ((try (conv => whnf)); first | (with_reducible first | refine And.intro ?_ ?_ | refine WX.of ?_) | exact zc | ((with_reducible refine VC.mk ?_); exact zw) | (with_reducible first | refine splitT ?_ | refine splitF ?_) | ((with_reducible refine splitM.mk (fun hsm => ?_) (fun hsm => ?_)) <;> (try exact zx)) | ((with_reducible refine splitB.mk (fun h => ?_) (fun h => ?_)) <;> (try simp only [zs, ne_eq] at h) <;> (try simp (disch := omega) only [w64] at h) <;> (try exact zx)) | (with_reducible intro hz; (try exact absurd hz (Nat.succ_ne_zero _)))))
  · exact ⟨by rw [mkTx, if_pos h]⟩
  · refine loopW tabOk (E := []) trivial [] (σ := Nat × Int × List UInt8) (fun i => [(0, .int .i64 i.2.1), (3, .str i.2.2)]) (fun _ => []) (fun i => i.1) (fun i => (0 ≤ i.2.1 ∧ i.2.1 ≤ (i.1 : Int)) ∧ i.2.2.length + i.1 ≤ 2199023255552 ∧ mkGo i.1 i.2.1 i.2.2 = mkGo k.toNat k []) (k.toNat, k, []) ⟨by dsimp only; omega, by dsimp only [List.length_nil]; omega, rfl⟩ ?_ ?_
    · (repeat' ((try (conv => whnf)); first | (with_reducible first | refine And.intro ?_ ?_ | refine WX.of ?_) | exact zc | ((with_reducible refine VC.mk ?_); exact zw) | (with_reducible first | refine splitT ?_ | refine splitF ?_) | ((with_reducible refine splitM.mk (fun hsm => ?_) (fun hsm => ?_)) <;> (try exact zx)) | ((with_reducible refine splitB.mk (fun h => ?_) (fun h => ?_)) <;> (try simp only [zs, ne_eq] at h) <;> (try simp (disch := omega) only [w64] at h) <;> (try exact zx)) | (with_reducible intro hz; (try exact absurd hz (Nat.succ_ne_zero _)))))
    · intro ⟨f, c, out⟩ ⟨⟨hc0, hcf⟩, hl, hg⟩
      dsimp only at hc0 hcf hl hg
      by_cases hlt : c ≤ 0
      · rw [mkGo_0 _ _ hlt] at hg
        (repeat' ((try (conv => whnf)); first | (with_reducible first | refine And.intro ?_ ?_ | refine WX.of ?_) | exact zc | ((with_reducible refine VC.mk ?_); exact zw) | (with_reducible first | refine splitT ?_ | refine splitF ?_) | ((with_reducible refine splitM.mk (fun hsm => ?_) (fun hsm => ?_)) <;> (try exact zx)) | ((with_reducible refine splitB.mk (fun h => ?_) (fun h => ?_)) <;> (try simp only [zs, ne_eq] at h) <;> (try simp (disch := omega) only [w64] at h) <;> (try exact zx)) | (with_reducible intro hz; (try exact absurd hz (Nat.succ_ne_zero _)))))
        · exact ⟨by show 1 + out.length ≤ 9223372036854775807; omega⟩
        · refine ⟨?_⟩
          rw [show mkTx k = 109 :: mkGo k.toNat k [] from if_neg (by omega), ← hg]; rfl
      · have hm : 0 ≤ c.tmod 10 ∧ c.tmod 10 < 10 := ⟨Int.tmod_nonneg _ hc0, Int.tmod_lt_of_pos _ (by omega)⟩
        have hd : c.tdiv 10 = c / 10 := Int.tdiv_eq_ediv_of_nonneg hc0
        obtain ⟨f, rfl⟩ : ∃ g, f = g + 1 := ⟨f - 1, by omega⟩
        rw [mkGo, if_neg hlt] at hg
        (repeat' ((try (conv => whnf)); first | (with_reducible first | refine And.intro ?_ ?_ | refine WX.of ?_) | exact zc | ((with_reducible refine VC.mk ?_); exact zw) | (with_reducible first | refine splitT ?_ | refine splitF ?_) | ((with_reducible refine splitM.mk (fun hsm => ?_) (fun hsm => ?_)) <;> (try exact zx)) | ((with_reducible refine splitB.mk (fun h => ?_) (fun h => ?_)) <;> (try simp only [zs, ne_eq] at h) <;> (try simp (disch := omega) only [w64] at h) <;> (try exact zx)) | (with_reducible intro hz; (try exact absurd hz (Nat.succ_ne_zero _)))))
        · exact ⟨by show 1 + out.length ≤ 9223372036854775807; omega⟩
        · refine ⟨(f, c.tdiv 10, bytesL [IntKind.u8.wrap (48 + c.tmod 10)] ++ out), by dsimp only; omega, ⟨by dsimp only; omega, by simp only [bytesL, List.map_cons, List.map_nil, List.length_append, List.length_cons, List.length_nil]; omega, hg⟩, ?_⟩
          (repeat' ((try (conv => whnf)); first | (with_reducible first | refine And.intro ?_ ?_ | refine WX.of ?_) | exact zc | ((with_reducible refine VC.mk ?_); exact zw) | ((with_reducible refine VC.mk ?_); dsimp only; (rw [w64 (by omega)]; done)) | ((with_reducible refine VC.mk ?_); (show _ = SV.str (bytesL [IntKind.u8.wrap (IntKind.i64.wrap (48 + c.tmod 10))] ++ out)); (rw [w64 (by omega)]; done)) | (with_reducible first | refine splitT ?_ | refine splitF ?_) | ((with_reducible refine splitM.mk (fun hsm => ?_) (fun hsm => ?_)) <;> (try exact zx)) | ((with_reducible refine splitB.mk (fun h => ?_) (fun h => ?_)) <;> (try simp only [zs, ne_eq] at h) <;> (try simp (disch := omega) only [w64] at h) <;> (try exact zx)) | (with_reducible intro hz; (try exact absurd hz (Nat.succ_ne_zero _)))))
end Go.Proofs.Yteniodjodngkbaa.Eng
set_option linter.unusedVariables false
set_option linter.unusedSimpArgs false
namespace Go.Proofs.Yteniodjodngkbaa.Eng
open Go Go.RowKit
set_option maxRecDepth 100000
def s_markFracS : Spec := fun args S => match args, S with
  | [.sl 0 0 n x, .int .i64 k], [.arr (.prod (.int .i64) (.int .i64)) l 2 true] => ⟨n = l.length ∧ n ≤ 1048576 ∧ 0 ≤ k ∧ k ≤ 1099511627776, .int .i64 (k + 2 * n), [.arr (.prod (.int .i64) (.int .i64)) (marks (fun k => (k, k + 1)) 2 k n) 2 true]⟩
  | [.nils, .int .i64 k], [] => ⟨True, .int .i64 k, []⟩
  | _, _ => noSpec
theorem ok_markFracS : SpecOk Try.prog 13 s_markFracS := by
  intro args S h; unfold s_markFracS at h ⊢; (split at h <;> first | exact False.elim h | skip)
  dsimp only at h ⊢
  · rename_i n x k l
    obtain ⟨hn, h1, h2, h3⟩ := h
    have hm : (marks (α := ET.T (.prod (.int .i64) (.int .i64))) (fun k => (k, k + 1)) 2 k n).length = l.length := by rw [marks_len]; exact hn
    refine funW tabOk (E := []) trivial [] (k := 1) (fn := Try.f13) rfl rfl rfl rfl rfl rfl ?_
    (repeat' ((try (conv => whnf)); first | (with_reducible first | refine And.intro ?_ ?_ | refine WX.of ?_) | exact zc | ((with_reducible refine VC.mk ?_); exact zw) | (with_reducible first | refine splitT ?_ | refine splitF ?_) | ((with_reducible refine splitM.mk (fun hsm => ?_) (fun hsm => ?_)) <;> (try exact zx)) | ((with_reducible refine splitB.mk (fun h => ?_) (fun h => ?_)) <;> (try simp only [zs, ne_eq] at h) <;> (try simp (disch := omega) only [w64] at h) <;> (try exact zx)) | (with_reducible intro hz; (try exact absurd hz (Nat.succ_ne_zero _)))))
    refine loopW tabOk (E := []) trivial [] (σ := Nat) (fun i => [(0, .sl 0 0 n x), (1, .int .i64 (k + 2 * i)), (5, .int .i64 i)]) (fun i => [.arr (.prod (.int .i64) (.int .i64)) ((marks (fun k => (k, k + 1)) 2 k n).take i ++ l.drop i) 2 true]) (fun i => n - i) (fun i => i ≤ n) 0 (Nat.zero_le _) ?_ ?_
    · (repeat' ((try (conv => whnf)); first | (with_reducible first | refine And.intro ?_ ?_ | refine WX.of ?_) | exact zc | ((with_reducible refine VC.mk ?_); exact zw) | (with_reducible first | refine splitT ?_ | refine splitF ?_) | ((with_reducible refine splitM.mk (fun hsm => ?_) (fun hsm => ?_)) <;> (try exact zx)) | ((with_reducible refine splitB.mk (fun h => ?_) (fun h => ?_)) <;> (try simp only [zs, ne_eq] at h) <;> (try simp (disch := omega) only [w64] at h) <;> (try exact zx)) | (with_reducible intro hz; (try exact absurd hz (Nat.succ_ne_zero _)))))
    · intro i hi
      by_cases hlt : i < n
      · obtain ⟨⟨p, q⟩, ha⟩ := get_some (l := l) (i := i) (by omega)
        have hb := marks_get (α := ET.T (.prod (.int .i64) (.int .i64))) (f := (fun k => (k, k + 1))) (c := 2) (k := k) hlt
        (repeat' ((try (conv => whnf)); first | (with_reducible first | refine And.intro ?_ ?_ | refine WX.of ?_) | exact zc | ((with_reducible refine VC.mk ?_); exact zw) | ((with_reducible refine atL_set ?_ ?_); (simp only [List.length_set, List.length_append, List.length_take, List.length_drop]; omega)) | with_reducible refine atL_0 (mark_at hm ha) ?_ | (with_reducible first | refine splitT ?_ | refine splitF ?_) | ((with_reducible refine splitM.mk (fun hsm => ?_) (fun hsm => ?_)) <;> (try exact zx)) | ((with_reducible refine splitB.mk (fun h => ?_) (fun h => ?_)) <;> (try simp only [zs, ne_eq] at h) <;> (try simp (disch := omega) only [w64] at h) <;> (try exact zx)) | (with_reducible intro hz; (try exact absurd hz (Nat.succ_ne_zero _)))))
        refine ⟨i + 1, by omega, hlt, ?_⟩
        (repeat' ((try (conv => whnf)); first | (with_reducible first | refine And.intro ?_ ?_ | refine WX.of ?_) | exact zc | ((with_reducible refine VC.mk ?_); exact zw) | (with_reducible first | refine splitT ?_ | refine splitF ?_) | ((with_reducible refine splitM.mk (fun hsm => ?_) (fun hsm => ?_)) <;> (try exact zx)) | ((with_reducible refine splitB.mk (fun h => ?_) (fun h => ?_)) <;> (try simp only [zs, ne_eq] at h) <;> (try simp (disch := omega) only [w64] at h) <;> (try exact zx)) | (with_reducible intro hz; (try exact absurd hz (Nat.succ_ne_zero _)))))
        refine ⟨?_⟩
        (try simp (disch := omega) only [w64])
        simp only [List.set_set, Nat.zero_add, Int.toNat_natCast]
        (try rw [mark_step hm hb])
        exact mark_step hm hb
      · (repeat' ((try (conv => whnf)); first | (with_reducible first | refine And.intro ?_ ?_ | refine WX.of ?_) | exact zc | ((with_reducible refine VC.mk ?_); exact zw) | (with_reducible first | refine splitT ?_ | refine splitF ?_) | ((with_reducible refine splitM.mk (fun hsm => ?_) (fun hsm => ?_)) <;> (try exact zx)) | ((with_reducible refine splitB.mk (fun h => ?_) (fun h => ?_)) <;> (try simp only [zs, ne_eq] at h) <;> (try simp (disch := omega) only [w64] at h) <;> (try exact zx)) | (with_reducible intro hz; (try exact absurd hz (Nat.succ_ne_zero _)))))
        obtain rfl : i = n := by omega
        exact ⟨by rw [mark_end marks_len hn.symm]⟩
  · refine funW tabOk (E := []) trivial [] (k := 0) (fn := Try.f13) rfl rfl rfl rfl rfl rfl ?_
    (repeat' ((try (conv => whnf)); first | (with_reducible first | refine And.intro ?_ ?_ | refine WX.of ?_) | exact zc | ((with_reducible refine VC.mk ?_); exact zw) | (with_reducible first | refine splitT ?_ | refine splitF ?_) | ((with_reducible refine splitM.mk (fun hsm => ?_) (fun hsm => ?_)) <;> (try exact zx)) | ((with_reducible refine splitB.mk (fun h => ?_) (fun h => ?_)) <;> (try simp only [zs, ne_eq] at h) <;> (try simp (disch := omega) only [w64] at h) <;> (try exact zx)) | (with_reducible intro hz; (try exact absurd hz (Nat.succ_ne_zero _)))))
    refine loop1 tabOk (E := []) trivial [] ?_
    (repeat' ((try (conv => whnf)); first | (with_reducible first | refine And.intro ?_ ?_ | refine WX.of ?_) | exact zc | ((with_reducible refine VC.mk ?_); exact zw) | (with_reducible first | refine splitT ?_ | refine splitF ?_) | ((with_reducible refine splitM.mk (fun hsm => ?_) (fun hsm => ?_)) <;> (try exact zx)) | ((with_reducible refine splitB.mk (fun h => ?_) (fun h => ?_)) <;> (try simp only [zs, ne_eq] at h) <;> (try simp (disch := omega) only [w64] at h) <;> (try exact zx)) | (with_reducible intro hz; (try exact absurd hz (Nat.succ_ne_zero _)))))
def s_heldFracS : Spec := fun args S => match args, S with
  | [.sl 0 0 n x, .int .i64 k], [.arr (.prod (.int .i64) (.int .i64)) l 2 wr] => ⟨l = marks (fun k => (k, k + 1)) 2 k n ∧ n ≤ 1048576 ∧ 0 ≤ k ∧ k ≤ 1099511627776, .int .i64 (k + 2 * n), [.arr (.prod (.int .i64) (.int .i64)) l 2 wr]⟩
  | [.nils, .int .i64 k], [] => ⟨True, .int .i64 k, []⟩
  | _, _ => noSpec
theorem ok_heldFracS : SpecOk Try.prog 58 s_heldFracS := by
  intro args S h; unfold s_heldFracS at h ⊢; (split at h <;> first | exact False.elim h | skip)
  dsimp only at h ⊢
  · rename_i n x k l wr
    obtain ⟨rfl, h1, h2, h3⟩ := h
    refine funW tabOk (E := []) trivial [] (k := 1) (fn := Try.f58) rfl rfl rfl rfl rfl rfl ?_
    (repeat' ((try (conv => whnf)); first | (with_reducible first | refine And.intro ?_ ?_ | refine WX.of ?_) | exact zc | ((with_reducible refine VC.mk ?_); exact zw) | (with_reducible first | refine splitT ?_ | refine splitF ?_) | ((with_reducible refine splitM.mk (fun hsm => ?_) (fun hsm => ?_)) <;> (try exact zx)) | ((with_reducible refine splitB.mk (fun h => ?_) (fun h => ?_)) <;> (try simp only [zs, ne_eq] at h) <;> (try simp (disch := omega) only [w64] at h) <;> (try exact zx)) | (with_reducible intro hz; (try exact absurd hz (Nat.succ_ne_zero _)))))
    refine loopW tabOk (E := []) trivial [] (σ := Nat) (fun i => [(0, .sl 0 0 n x), (1, .int .i64 (k + 2 * i)), (5, .int .i64 i)]) (fun i => [.arr (.prod (.int .i64) (.int .i64)) (marks (fun k => (k, k + 1)) 2 k n) 2 wr]) (fun i => n - i) (fun i => i ≤ n) 0 (Nat.zero_le _) ?_ ?_
    · (repeat' ((try (conv => whnf)); first | (with_reducible first | refine And.intro ?_ ?_ | refine WX.of ?_) | exact zc | ((with_reducible refine VC.mk ?_); exact zw) | (with_reducible first | refine splitT ?_ | refine splitF ?_) | ((with_reducible refine splitM.mk (fun hsm => ?_) (fun hsm => ?_)) <;> (try exact zx)) | ((with_reducible refine splitB.mk (fun h => ?_) (fun h => ?_)) <;> (try simp only [zs, ne_eq] at h) <;> (try simp (disch := omega) only [w64] at h) <;> (try exact zx)) | (with_reducible intro hz; (try exact absurd hz (Nat.succ_ne_zero _)))))
    · intro i hi
      by_cases hlt : i < n
      · have hb := marks_get (α := ET.T (.prod (.int .i64) (.int .i64))) (f := (fun k => (k, k + 1))) (c := 2) (k := k) hlt
        (try dsimp only at hb)
        (repeat' ((try (conv => whnf)); first | (with_reducible first | refine And.intro ?_ ?_ | refine WX.of ?_) | exact zc | ((with_reducible refine VC.mk ?_); exact zw) | with_reducible refine atL_0 hb ?_ | (with_reducible first | refine splitT ?_ | refine splitF ?_) | ((with_reducible refine splitM.mk (fun hsm => ?_) (fun hsm => ?_)) <;> (try exact zx)) | ((with_reducible refine splitB.mk (fun h => ?_) (fun h => ?_)) <;> (try simp only [zs, ne_eq] at h) <;> (try simp (disch := omega) only [w64] at h) <;> (try exact zx)) | (with_reducible intro hz; (try exact absurd hz (Nat.succ_ne_zero _)))))
        refine ⟨i + 1, by omega, hlt, ?_⟩
        (repeat' ((try (conv => whnf)); first | (with_reducible first | refine And.intro ?_ ?_ | refine WX.of ?_) | exact zc | ((with_reducible refine VC.mk ?_); exact zw) | (with_reducible first | refine splitT ?_ | refine splitF ?_) | ((with_reducible refine splitM.mk (fun hsm => ?_) (fun hsm => ?_)) <;> (try exact zx)) | ((with_reducible refine splitB.mk (fun h => ?_) (fun h => ?_)) <;> (try simp only [zs, ne_eq] at h) <;> (try simp (disch := omega) only [w64] at h) <;> (try exact zx)) | (with_reducible intro hz; (try exact absurd hz (Nat.succ_ne_zero _)))))
      · obtain rfl : i = n := by omega
        (repeat' ((try (conv => whnf)); first | (with_reducible first | refine And.intro ?_ ?_ | refine WX.of ?_) | exact zc | ((with_reducible refine VC.mk ?_); exact zw) | (with_reducible first | refine splitT ?_ | refine splitF ?_) | ((with_reducible refine splitM.mk (fun hsm => ?_) (fun hsm => ?_)) <;> (try exact zx)) | ((with_reducible refine splitB.mk (fun h => ?_) (fun h => ?_)) <;> (try simp only [zs, ne_eq] at h) <;> (try simp (disch := omega) only [w64] at h) <;> (try exact zx)) | (with_reducible intro hz; (try exact absurd hz (Nat.succ_ne_zero _)))))
  · refine funW tabOk (E := []) trivial [] (k := 0) (fn := Try.f58) rfl rfl rfl rfl rfl rfl ?_
    (repeat' ((try (conv => whnf)); first | (with_reducible first | refine And.intro ?_ ?_ | refine WX.of ?_) | exact zc | ((with_reducible refine VC.mk ?_); exact zw) | (with_reducible first | refine splitT ?_ | refine splitF ?_) | ((with_reducible refine splitM.mk (fun hsm => ?_) (fun hsm => ?_)) <;> (try exact zx)) | ((with_reducible refine splitB.mk (fun h => ?_) (fun h => ?_)) <;> (try simp only [zs, ne_eq] at h) <;> (try simp (disch := omega) only [w64] at h) <;> (try exact zx)) | (with_reducible intro hz; (try exact absurd hz (Nat.succ_ne_zero _)))))
    refine loop1 tabOk (E := []) trivial [] ?_
    (repeat' ((try (conv => whnf)); first | (with_reducible first | refine And.intro ?_ ?_ | refine WX.of ?_) | exact zc | ((with_reducible refine VC.mk ?_); exact zw) | (with_reducible first | refine splitT ?_ | refine splitF ?_) | ((with_reducible refine splitM.mk (fun hsm => ?_) (fun hsm => ?_)) <;> (try exact zx)) | ((with_reducible refine splitB.mk (fun h => ?_) (fun h => ?_)) <;> (try simp only [zs, ne_eq] at h) <;> (try simp (disch := omega) only [w64] at h) <;> (try exact zx)) | (with_reducible intro hz; (try exact absurd hz (Nat.succ_ne_zero _)))))
def s_markThingS : Spec := fun args S => match args, S with
  | [.sl 0 0 n x, .int .i64 k], [.arr (.prod .str (.prod (.prod (.int .i64) (.int .i64)) (.prod (.int .i64) (.int .i64)))) l 5 true] => ⟨n = l.length ∧ n ≤ 1048576 ∧ 0 ≤ k ∧ k ≤ 1099511627776, .int .i64 (k + 5 * n), [.arr (.prod .str (.prod (.prod (.int .i64) (.int .i64)) (.prod (.int .i64) (.int .i64)))) (marks (fun k : Int => (mkTx k, (k + 1, k + 1 + 1), k + 1 + 1 + 1, k + 1 + 1 + 1 + 1)) 5 k n) 5 true]⟩
  | [.nils, .int .i64 k], [] => ⟨True, .int .i64 k, []⟩
  | _, _ => noSpec
theorem ok_markThingS : SpecOk Try.prog 32 s_markThingS := by
  intro args S h; unfold s_markThingS at h ⊢; (split at h <;> first | exact False.elim h | skip)
  dsimp only at h ⊢
  · rename_i n x k l
    obtain ⟨hn, h1, h2, h3⟩ := h
    have hm : (marks (α := ET.T (.prod .str (.prod (.prod (.int .i64) (.int .i64)) (.prod (.int .i64) (.int .i64))))) (fun k : Int => (mkTx k, (k + 1, k + 1 + 1), k + 1 + 1 + 1, k + 1 + 1 + 1 + 1)) 5 k n).length = l.length := by rw [marks_len]; exact hn
    refine funW tabOk (E := [(57, s_mtext)]) ⟨ok_markText, trivial⟩ [] (k := 1) (fn := Try.f32) rfl rfl rfl rfl rfl rfl ?_
    (repeat' ((try (conv => whnf)); first | (with_reducible first | refine And.intro ?_ ?_ | refine WX.of ?_) | exact zc | ((with_reducible refine VC.mk ?_); exact zw) | (with_reducible first | refine splitT ?_ | refine splitF ?_) | ((with_reducible refine splitM.mk (fun hsm => ?_) (fun hsm => ?_)) <;> (try exact zx)) | ((with_reducible refine splitB.mk (fun h => ?_) (fun h => ?_)) <;> (try simp only [zs, ne_eq] at h) <;> (try simp (disch := omega) only [w64] at h) <;> (try exact zx)) | (with_reducible intro hz; (try exact absurd hz (Nat.succ_ne_zero _)))))
    refine loopW tabOk (E := [(57, s_mtext)]) ⟨ok_markText, trivial⟩ [] (σ := Nat) (fun i => [(0, .sl 0 0 n x), (1, .int .i64 (k + 5 * i)), (5, .int .i64 i)]) (fun i => [.arr (.prod .str (.prod (.prod (.int .i64) (.int .i64)) (.prod (.int .i64) (.int .i64)))) ((marks (fun k : Int => (mkTx k, (k + 1, k + 1 + 1), k + 1 + 1 + 1, k + 1 + 1 + 1 + 1)) 5 k n).take i ++ l.drop i) 5 true]) (fun i => n - i) (fun i => i ≤ n) 0 (Nat.zero_le _) ?_ ?_
    · (repeat' ((try (conv => whnf)); first | (with_reducible first | refine And.intro ?_ ?_ | refine WX.of ?_) | exact zc | ((with_reducible refine VC.mk ?_); exact zw) | (with_reducible first | refine splitT ?_ | refine splitF ?_) | ((with_reducible refine splitM.mk (fun hsm => ?_) (fun hsm => ?_)) <;> (try exact zx)) | ((with_reducible refine splitB.mk (fun h => ?_) (fun h => ?_)) <;> (try simp only [zs, ne_eq] at h) <;> (try simp (disch := omega) only [w64] at h) <;> (try exact zx)) | (with_reducible intro hz; (try exact absurd hz (Nat.succ_ne_zero _)))))
    · intro i hi
      by_cases hlt : i < n
      · obtain ⟨⟨nm, ⟨p, q⟩, r, s0⟩, ha⟩ := get_some (l := l) (i := i) (by omega)
        have hb := marks_get (α := ET.T (.prod .str (.prod (.prod (.int .i64) (.int .i64)) (.prod (.int .i64) (.int .i64))))) (f := (fun k : Int => (mkTx k, (k + 1, k + 1 + 1), k + 1 + 1 + 1, k + 1 + 1 + 1 + 1))) (c := 5) (k := k) hlt
        (repeat' ((try (conv => whnf)); first | (with_reducible first | refine And.intro ?_ ?_ | refine WX.of ?_) | exact zc | ((with_reducible refine VC.mk ?_); exact zw) | ((with_reducible refine atL_set ?_ ?_); (simp only [List.length_set, List.length_append, List.length_take, List.length_drop]; omega)) | with_reducible refine atL_0 (mark_at hm ha) ?_ | (with_reducible first | refine splitT ?_ | refine splitF ?_) | ((with_reducible refine splitM.mk (fun hsm => ?_) (fun hsm => ?_)) <;> (try exact zx)) | ((with_reducible refine splitB.mk (fun h => ?_) (fun h => ?_)) <;> (try simp only [zs, ne_eq] at h) <;> (try simp (disch := omega) only [w64] at h) <;> (try exact zx)) | (with_reducible intro hz; (try exact absurd hz (Nat.succ_ne_zero _)))))
        refine ⟨i + 1, by omega, hlt, ?_⟩
        (repeat' ((try (conv => whnf)); first | (with_reducible first | refine And.intro ?_ ?_ | refine WX.of ?_) | exact zc | ((with_reducible refine VC.mk ?_); exact zw) | (with_reducible first | refine splitT ?_ | refine splitF ?_) | ((with_reducible refine splitM.mk (fun hsm => ?_) (fun hsm => ?_)) <;> (try exact zx)) | ((with_reducible refine splitB.mk (fun h => ?_) (fun h => ?_)) <;> (try simp only [zs, ne_eq] at h) <;> (try simp (disch := omega) only [w64] at h) <;> (try exact zx)) | (with_reducible intro hz; (try exact absurd hz (Nat.succ_ne_zero _)))))
        refine ⟨?_⟩
        (try simp (disch := omega) only [w64])
        simp only [List.set_set, Nat.zero_add, Int.toNat_natCast]
        (try rw [mark_step hm hb])
        exact mark_step hm hb
      · (repeat' ((try (conv => whnf)); first | (with_reducible first | refine And.intro ?_ ?_ | refine WX.of ?_) | exact zc | ((with_reducible refine VC.mk ?_); exact zw) | (with_reducible first | refine splitT ?_ | refine splitF ?_) | ((with_reducible refine splitM.mk (fun hsm => ?_) (fun hsm => ?_)) <;> (try exact zx)) | ((with_reducible refine splitB.mk (fun h => ?_) (fun h => ?_)) <;> (try simp only [zs, ne_eq] at h) <;> (try simp (disch := omega) only [w64] at h) <;> (try exact zx)) | (with_reducible intro hz; (try exact absurd hz (Nat.succ_ne_zero _)))))
        obtain rfl : i = n := by omega
        exact ⟨by rw [mark_end marks_len hn.symm]⟩
  · refine funW tabOk (E := []) trivial [] (k := 0) (fn := Try.f32) rfl rfl rfl rfl rfl rfl ?_
    (repeat' ((try (conv => whnf)); first | (with_reducible first | refine And.intro ?_ ?_ | refine WX.of ?_) | exact zc | ((with_reducible refine VC.mk ?_); exact zw) | (with_reducible first | refine splitT ?_ | refine splitF ?_) | ((with_reducible refine splitM.mk (fun hsm => ?_) (fun hsm => ?_)) <;> (try exact zx)) | ((with_reducible refine splitB.mk (fun h => ?_) (fun h => ?_)) <;> (try simp only [zs, ne_eq] at h) <;> (try simp (disch := omega) only [w64] at h) <;> (try exact zx)) | (with_reducible intro hz; (try exact absurd hz (Nat.succ_ne_zero _)))))
    refine loop1 tabOk (E := []) trivial [] ?_
    (repeat' ((try (conv => whnf)); first | (with_reducible first | refine And.intro ?_ ?_ | refine WX.of ?_) | exact zc | ((with_reducible refine VC.mk ?_); exact zw) | (with_reducible first | refine splitT ?_ | refine splitF ?_) | ((with_reducible refine splitM.mk (fun hsm => ?_) (fun hsm => ?_)) <;> (try exact zx)) | ((with_reducible refine splitB.mk (fun h => ?_) (fun h => ?_)) <;> (try simp only [zs, ne_eq] at h) <;> (try simp (disch := omega) only [w64] at h) <;> (try exact zx)) | (with_reducible intro hz; (try exact absurd hz (Nat.succ_ne_zero _)))))
def s_heldThingS : Spec := fun args S => match args, S with
  | [.sl 0 0 n x, .int .i64 k], [.arr (.prod .str (.prod (.prod (.int .i64) (.int .i64)) (.prod (.int .i64) (.int .i64)))) l 5 wr] => ⟨l = marks (fun k : Int => (mkTx k, (k + 1, k + 1 + 1), k + 1 + 1 + 1, k + 1 + 1 + 1 + 1)) 5 k n ∧ n ≤ 1048576 ∧ 0 ≤ k ∧ k ≤ 1099511627776, .int .i64 (k + 5 * n), [.arr (.prod .str (.prod (.prod (.int .i64) (.int .i64)) (.prod (.int .i64) (.int .i64)))) l 5 wr]⟩
  | [.nils, .int .i64 k], [] => ⟨True, .int .i64 k, []⟩
  | _, _ => noSpec
theorem ok_heldThingS : SpecOk Try.prog 34 s_heldThingS := by
  intro args S h; unfold s_heldThingS at h ⊢; (split at h <;> first | exact False.elim h | skip)
  dsimp only at h ⊢
  · rename_i n x k l wr
    obtain ⟨rfl, h1, h2, h3⟩ := h
    refine funW tabOk (E := [(57, s_mtext)]) ⟨ok_markText, trivial⟩ [(4, [(4, 1)])] (k := 1) (fn := Try.f34) rfl rfl rfl rfl rfl rfl ?_
    (repeat' ((try (conv => whnf)); first | (with_reducible first | refine And.intro ?_ ?_ | refine WX.of ?_) | exact zc | ((with_reducible refine VC.mk ?_); exact zw) | (with_reducible first | refine splitT ?_ | refine splitF ?_) | ((with_reducible refine splitM.mk (fun hsm => ?_) (fun hsm => ?_)) <;> (try exact zx)) | ((with_reducible refine splitB.mk (fun h => ?_) (fun h => ?_)) <;> (try simp only [zs, ne_eq] at h) <;> (try simp (disch := omega) only [w64] at h) <;> (try exact zx)) | (with_reducible intro hz; (try exact absurd hz (Nat.succ_ne_zero _)))))
    refine loopW tabOk (E := [(57, s_mtext)]) ⟨ok_markText, trivial⟩ [(4, [(4, 1)])] (σ := Nat) (fun i => [(0, .sl 0 0 n x), (1, .int .i64 (k + 5 * i)), (5, .int .i64 i)]) (fun i => [.arr (.prod .str (.prod (.prod (.int .i64) (.int .i64)) (.prod (.int .i64) (.int .i64)))) (marks (fun k : Int => (mkTx k, (k + 1, k + 1 + 1), k + 1 + 1 + 1, k + 1 + 1 + 1 + 1)) 5 k n) 5 wr]) (fun i => n - i) (fun i => i ≤ n) 0 (Nat.zero_le _) ?_ ?_
    · (repeat' ((try (conv => whnf)); first | (with_reducible first | refine And.intro ?_ ?_ | refine WX.of ?_) | exact zc | ((with_reducible refine VC.mk ?_); exact zw) | (with_reducible first | refine splitT ?_ | refine splitF ?_) | ((with_reducible refine splitM.mk (fun hsm => ?_) (fun hsm => ?_)) <;> (try exact zx)) | ((with_reducible refine splitB.mk (fun h => ?_) (fun h => ?_)) <;> (try simp only [zs, ne_eq] at h) <;> (try simp (disch := omega) only [w64] at h) <;> (try exact zx)) | (with_reducible intro hz; (try exact absurd hz (Nat.succ_ne_zero _)))))
    · intro i hi
      by_cases hlt : i < n
      · have hb := marks_get (α := ET.T (.prod .str (.prod (.prod (.int .i64) (.int .i64)) (.prod (.int .i64) (.int .i64))))) (f := (fun k : Int => (mkTx k, (k + 1, k + 1 + 1), k + 1 + 1 + 1, k + 1 + 1 + 1 + 1))) (c := 5) (k := k) hlt
        (try dsimp only at hb)
        (try rw [show ((5 : Nat) : Int) = 5 from rfl] at hb)
        (repeat' ((try (conv => whnf)); first | (with_reducible first | refine And.intro ?_ ?_ | refine WX.of ?_) | exact zc | ((with_reducible refine VC.mk ?_); exact zw) | with_reducible refine atL_0 hb ?_ | (with_reducible first | refine splitT ?_ | refine splitF ?_) | ((with_reducible refine splitM.mk (fun hsm => ?_) (fun hsm => ?_)) <;> (try exact zx)) | ((with_reducible refine splitB.mk (fun h => ?_) (fun h => ?_)) <;> (try simp only [zs, ne_eq] at h) <;> (try simp (disch := omega) only [w64] at h) <;> (try exact zx)) | (with_reducible intro hz; (try exact absurd hz (Nat.succ_ne_zero _)))))
        refine ⟨i + 1, by omega, hlt, ?_⟩
        (repeat' ((try (conv => whnf)); first | (with_reducible first | refine And.intro ?_ ?_ | refine WX.of ?_) | exact zc | ((with_reducible refine VC.mk ?_); exact zw) | (with_reducible first | refine splitT ?_ | refine splitF ?_) | ((with_reducible refine splitM.mk (fun hsm => ?_) (fun hsm => ?_)) <;> (try exact zx)) | ((with_reducible refine splitB.mk (fun h => ?_) (fun h => ?_)) <;> (try simp only [zs, ne_eq] at h) <;> (try simp (disch := omega) only [w64] at h) <;> (try exact zx)) | (with_reducible intro hz; (try exact absurd hz (Nat.succ_ne_zero _)))))
      · obtain rfl : i = n := by omega
        (repeat' ((try (conv => whnf)); first | (with_reducible first | refine And.intro ?_ ?_ | refine WX.of ?_) | exact zc | ((with_reducible refine VC.mk ?_); exact zw) | (with_reducible first | refine splitT ?_ | refine splitF ?_) | ((with_reducible refine splitM.mk (fun hsm => ?_) (fun hsm => ?_)) <;> (try exact zx)) | ((with_reducible refine splitB.mk (fun h => ?_) (fun h => ?_)) <;> (try simp only [zs, ne_eq] at h) <;> (try simp (disch := omega) only [w64] at h) <;> (try exact zx)) | (with_reducible intro hz; (try exact absurd hz (Nat.succ_ne_zero _)))))
  · refine funW tabOk (E := []) trivial [(4, [(4, 1)])] (k := 0) (fn := Try.f34) rfl rfl rfl rfl rfl rfl ?_
    (repeat' ((try (conv => whnf)); first | (with_reducible first | refine And.intro ?_ ?_ | refine WX.of ?_) | exact zc | ((with_reducible refine VC.mk ?_); exact zw) | (with_reducible first | refine splitT ?_ | refine splitF ?_) | ((with_reducible refine splitM.mk (fun hsm => ?_) (fun hsm => ?_)) <;> (try exact zx)) | ((with_reducible refine splitB.mk (fun h => ?_) (fun h => ?_)) <;> (try simp only [zs, ne_eq] at h) <;> (try simp (disch := omega) only [w64] at h) <;> (try exact zx)) | (with_reducible intro hz; (try exact absurd hz (Nat.succ_ne_zero _)))))
    refine loop1 tabOk (E := []) trivial [(4, [(4, 1)])] ?_
    (repeat' ((try (conv => whnf)); first | (with_reducible first | refine And.intro ?_ ?_ | refine WX.of ?_) | exact zc | ((with_reducible refine VC.mk ?_); exact zw) | (with_reducible first | refine splitT ?_ | refine splitF ?_) | ((with_reducible refine splitM.mk (fun hsm => ?_) (fun hsm => ?_)) <;> (try exact zx)) | ((with_reducible refine splitB.mk (fun h => ?_) (fun h => ?_)) <;> (try simp only [zs, ne_eq] at h) <;> (try simp (disch := omega) only [w64] at h) <;> (try exact zx)) | (with_reducible intro hz; (try exact absurd hz (Nat.succ_ne_zero _)))))
def s_mkBn : Spec := fun args S => match args, S with
  | [.agg [.int .i64 up, .int .i64 uq, .sl 0 0 n x, .int .i64 vp, .bool vb, .int .i64 gp, .int .i64 gq, .sl 1 0 m y], .int .i64 k], [.arr (.prod (.int .i64) (.int .i64)) l 2 true, .arr (.prod .str (.prod (.prod (.int .i64) (.int .i64)) (.prod (.int .i64) (.int .i64)))) T 5 true] => ⟨(n = l.length ∧ n ≤ 1048576) ∧ (m = T.length ∧ m ≤ 1048576) ∧ 0 ≤ k ∧ k ≤ 1048576, .int .i64 (k + 2 * n + 5 * m), [.arr (.prod (.int .i64) (.int .i64)) (marks (fun k : Int => (k, k + 1)) 2 k n) 2 true, .arr (.prod .str (.prod (.prod (.int .i64) (.int .i64)) (.prod (.int .i64) (.int .i64)))) (marks (fun k : Int => (mkTx k, (k + 1, k + 1 + 1), k + 1 + 1 + 1, k + 1 + 1 + 1 + 1)) 5 (k + 2 * n) m) 5 true]⟩
  | [.agg [.int .i64 up, .int .i64 uq, .nils, .int .i64 vp, .bool vb, .int .i64 gp, .int .i64 gq, .nils], .int .i64 k], [] => ⟨True, .int .i64 k, []⟩
  | _, _ => noSpec
def s_mkSc : Spec := fun args S => match args, S with
  | [.agg [.int .i64 up, .int .i64 uq, .sl 0 0 n x], .int .i64 k], [.arr (.prod (.int .i64) (.int .i64)) l 2 true] => ⟨n = l.length ∧ n ≤ 1048576 ∧ 0 ≤ k ∧ k ≤ 1099511627776, .int .i64 (k + 2 * n), [.arr (.prod (.int .i64) (.int .i64)) (marks (fun k : Int => (k, k + 1)) 2 k n) 2 true]⟩
  | [.agg [.int .i64 up, .int .i64 uq, .nils], .int .i64 k], [] => ⟨True, .int .i64 k, []⟩
  | _, _ => noSpec
theorem ok_mkSc : SpecOk Try.prog 31 s_mkSc := by
  intro args S h; unfold s_mkSc at h ⊢; (split at h <;> first | exact False.elim h | skip)
  dsimp only at h ⊢
  · refine funW tabOk (E := [(13, s_markFracS)]) ⟨ok_markFracS, trivial⟩ [] (k := 1) (fn := Try.f31) rfl rfl rfl rfl rfl rfl ?_
    (repeat' ((try (conv => whnf)); first | (with_reducible first | refine And.intro ?_ ?_ | refine WX.of ?_) | exact zc | ((with_reducible refine VC.mk ?_); exact zw) | (with_reducible first | refine splitT ?_ | refine splitF ?_) | ((with_reducible refine splitM.mk (fun hsm => ?_) (fun hsm => ?_)) <;> (try exact zx)) | ((with_reducible refine splitB.mk (fun h => ?_) (fun h => ?_)) <;> (try simp only [zs, ne_eq] at h) <;> (try simp (disch := omega) only [w64] at h) <;> (try exact zx)) | (with_reducible intro hz; (try exact absurd hz (Nat.succ_ne_zero _)))))
  · refine funW tabOk (E := [(13, s_markFracS)]) ⟨ok_markFracS, trivial⟩ [] (k := 0) (fn := Try.f31) rfl rfl rfl rfl rfl rfl ?_
    (repeat' ((try (conv => whnf)); first | (with_reducible first | refine And.intro ?_ ?_ | refine WX.of ?_) | exact zc | ((with_reducible refine VC.mk ?_); exact zw) | (with_reducible first | refine splitT ?_ | refine splitF ?_) | ((with_reducible refine splitM.mk (fun hsm => ?_) (fun hsm => ?_)) <;> (try exact zx)) | ((with_reducible refine splitB.mk (fun h => ?_) (fun h => ?_)) <;> (try simp only [zs, ne_eq] at h) <;> (try simp (disch := omega) only [w64] at h) <;> (try exact zx)) | (with_reducible intro hz; (try exact absurd hz (Nat.succ_ne_zero _)))))
theorem ok_mkBn : SpecOk Try.prog 12 s_mkBn := by
  intro args S h; unfold s_mkBn at h ⊢; (split at h <;> first | exact False.elim h | skip)
  dsimp only at h ⊢
  · refine funW tabOk (E := [(31, s_mkSc), (32, s_markThingS)]) ⟨ok_mkSc, ok_markThingS, trivial⟩ [] (k := 2) (fn := Try.f12) rfl rfl rfl rfl rfl rfl ?_
    (repeat' ((try (conv => whnf)); first | (with_reducible first | refine And.intro ?_ ?_ | refine WX.of ?_) | exact zc | ((with_reducible refine VC.mk ?_); exact zw) | (with_reducible first | refine splitT ?_ | refine splitF ?_) | ((with_reducible refine splitM.mk (fun hsm => ?_) (fun hsm => ?_)) <;> (try exact zx)) | ((with_reducible refine splitB.mk (fun h => ?_) (fun h => ?_)) <;> (try simp only [zs, ne_eq] at h) <;> (try simp (disch := omega) only [w64] at h) <;> (try exact zx)) | (with_reducible intro hz; (try exact absurd hz (Nat.succ_ne_zero _)))))
  · refine funW tabOk (E := [(31, s_mkSc), (32, s_markThingS)]) ⟨ok_mkSc, ok_markThingS, trivial⟩ [] (k := 0) (fn := Try.f12) rfl rfl rfl rfl rfl rfl ?_
    (repeat' ((try (conv => whnf)); first | (with_reducible first | refine And.intro ?_ ?_ | refine WX.of ?_) | exact zc | ((with_reducible refine VC.mk ?_); exact zw) | (with_reducible first | refine splitT ?_ | refine splitF ?_) | ((with_reducible refine splitM.mk (fun hsm => ?_) (fun hsm => ?_)) <;> (try exact zx)) | ((with_reducible refine splitB.mk (fun h => ?_) (fun h => ?_)) <;> (try simp only [zs, ne_eq] at h) <;> (try simp (disch := omega) only [w64] at h) <;> (try exact zx)) | (with_reducible intro hz; (try exact absurd hz (Nat.succ_ne_zero _)))))
def s_hdSc : Spec := fun args S => match args, S with
  | [.agg [.int .i64 up, .int .i64 uq, .sl 0 0 n x], .int .i64 k], [.arr (.prod (.int .i64) (.int .i64)) l 2 wr] => ⟨l = marks (fun k : Int => (k, k + 1)) 2 k n ∧ n ≤ 1048576 ∧ 0 ≤ k ∧ k ≤ 1099511627776, .int .i64 (k + 2 * n), [.arr (.prod (.int .i64) (.int .i64)) l 2 wr]⟩
  | [.agg [.int .i64 up, .int .i64 uq, .nils], .int .i64 k], [] => ⟨0 ≤ k ∧ k ≤ 1099511627776, .int .i64 k, []⟩
  | _, _ => noSpec
theorem ok_hdSc : SpecOk Try.prog 33 s_hdSc := by
  intro args S h; unfold s_hdSc at h ⊢; (split at h <;> first | exact False.elim h | skip)
  dsimp only at h ⊢
  · refine funW tabOk (E := [(58, s_heldFracS)]) ⟨ok_heldFracS, trivial⟩ [] (k := 1) (fn := Try.f33) rfl rfl rfl rfl rfl rfl ?_
    (repeat' ((try (conv => whnf)); first | (with_reducible first | refine And.intro ?_ ?_ | refine WX.of ?_) | exact zc | ((with_reducible refine VC.mk ?_); exact zw) | (with_reducible first | refine splitT ?_ | refine splitF ?_) | ((with_reducible refine splitM.mk (fun hsm => ?_) (fun hsm => ?_)) <;> (try exact zx)) | ((with_reducible refine splitB.mk (fun h => ?_) (fun h => ?_)) <;> (try simp only [zs, ne_eq] at h) <;> (try simp (disch := omega) only [w64] at h) <;> (try exact zx)) | (with_reducible intro hz; (try exact absurd hz (Nat.succ_ne_zero _)))))
  · refine funW tabOk (E := [(58, s_heldFracS)]) ⟨ok_heldFracS, trivial⟩ [] (k := 0) (fn := Try.f33) rfl rfl rfl rfl rfl rfl ?_
    (repeat' ((try (conv => whnf)); first | (with_reducible first | refine And.intro ?_ ?_ | refine WX.of ?_) | exact zc | ((with_reducible refine VC.mk ?_); exact zw) | (with_reducible first | refine splitT ?_ | refine splitF ?_) | ((with_reducible refine splitM.mk (fun hsm => ?_) (fun hsm => ?_)) <;> (try exact zx)) | ((with_reducible refine splitB.mk (fun h => ?_) (fun h => ?_)) <;> (try simp only [zs, ne_eq] at h) <;> (try simp (disch := omega) only [w64] at h) <;> (try exact zx)) | (with_reducible intro hz; (try exact absurd hz (Nat.succ_ne_zero _)))))
def s_hdBn : Spec := fun args S => match args, S with
  | [.agg [.int .i64 up, .int .i64 uq, .sl 0 0 n x, .int .i64 vp, .bool vb, .int .i64 gp, .int .i64 gq, .sl 1 0 m y], .int .i64 k], [.arr (.prod (.int .i64) (.int .i64)) l 2 wr, .arr (.prod .str (.prod (.prod (.int .i64) (.int .i64)) (.prod (.int .i64) (.int .i64)))) T 5 wT] => ⟨(l = marks (fun k : Int => (k, k + 1)) 2 k n ∧ n ≤ 1048576) ∧ (T = marks (fun k : Int => (mkTx k, (k + 1, k + 1 + 1), k + 1 + 1 + 1, k + 1 + 1 + 1 + 1)) 5 (k + 2 * n) m ∧ m ≤ 1048576) ∧ 0 ≤ k ∧ k ≤ 1048576, .int .i64 (k + 2 * n + 5 * m), [.arr (.prod (.int .i64) (.int .i64)) l 2 wr, .arr (.prod .str (.prod (.prod (.int .i64) (.int .i64)) (.prod (.int .i64) (.int .i64)))) T 5 wT]⟩
  | [.agg [.int .i64 up, .int .i64 uq, .nils, .int .i64 vp, .bool vb, .int .i64 gp, .int .i64 gq, .nils], .int .i64 k], [] => ⟨0 ≤ k ∧ k ≤ 1048576, .int .i64 k, []⟩
  | _, _ => noSpec
theorem ok_hdBn : SpecOk Try.prog 14 s_hdBn := by
  intro args S h; unfold s_hdBn at h ⊢; (split at h <;> first | exact False.elim h | skip)
  dsimp only at h ⊢
  · obtain ⟨⟨h1, h2⟩, ⟨h3, h4⟩, h5, h6⟩ := h
    refine funW tabOk (E := [(33, s_hdSc), (34, s_heldThingS)]) ⟨ok_hdSc, ok_heldThingS, trivial⟩ [] (k := 2) (fn := Try.f14) rfl rfl rfl rfl rfl rfl ?_
    (repeat' ((try (conv => whnf)); first | (with_reducible first | refine And.intro ?_ ?_ | refine WX.of ?_) | exact zc | ((with_reducible refine VC.mk ?_); exact zw) | ((with_reducible refine VC.mk ?_); exact ⟨h1, h2, by omega, by omega⟩) | ((with_reducible refine VC.mk ?_); exact ⟨h3, h4, by omega, by omega⟩) | (with_reducible first | refine splitT ?_ | refine splitF ?_) | ((with_reducible refine splitM.mk (fun hsm => ?_) (fun hsm => ?_)) <;> (try exact zx)) | ((with_reducible refine splitB.mk (fun h => ?_) (fun h => ?_)) <;> (try simp only [zs, ne_eq] at h) <;> (try simp (disch := omega) only [w64] at h) <;> (try exact zx)) | (with_reducible intro hz; (try exact absurd hz (Nat.succ_ne_zero _)))))
  · refine funW tabOk (E := [(33, s_hdSc), (34, s_heldThingS)]) ⟨ok_hdSc, ok_heldThingS, trivial⟩ [] (k := 0) (fn := Try.f14) rfl rfl rfl rfl rfl rfl ?_
    (repeat' ((try (conv => whnf)); first | (with_reducible first | refine And.intro ?_ ?_ | refine WX.of ?_) | exact zc | ((with_reducible refine VC.mk ?_); exact zw) | (with_reducible first | refine splitT ?_ | refine splitF ?_) | ((with_reducible refine splitM.mk (fun hsm => ?_) (fun hsm => ?_)) <;> (try exact zx)) | ((with_reducible refine splitB.mk (fun h => ?_) (fun h => ?_)) <;> (try simp only [zs, ne_eq] at h) <;> (try simp (disch := omega) only [w64] at h) <;> (try exact zx)) | (with_reducible intro hz; (try exact absurd hz (Nat.succ_ne_zero _)))))
def s_eqFN : Spec := fun args S => match args, S with
  | [.nils, .nils], [] => ⟨True, .bool true, []⟩
  | _, _ => noSpec
theorem ok_eqFN : SpecOk Try.prog 11 s_eqFN := by
  intro args S h; unfold s_eqFN at h ⊢; (split at h <;> first | exact False.elim h | skip)
  dsimp only at h ⊢
  refine funW tabOk (E := []) trivial [] (k := 0) (fn := Try.f11) rfl rfl rfl rfl rfl rfl ?_
  (repeat' ((try (conv => whnf)); first | (with_reducible first | refine And.intro ?_ ?_ | refine WX.of ?_) | exact zc | ((with_reducible refine VC.mk ?_); exact zw) | (with_reducible first | refine splitT ?_ | refine splitF ?_) | ((with_reducible refine splitM.mk (fun hsm => ?_) (fun hsm => ?_)) <;> (try exact zx)) | ((with_reducible refine splitB.mk (fun h => ?_) (fun h => ?_)) <;> (try simp only [zs, ne_eq] at h) <;> (try simp (disch := omega) only [w64] at h) <;> (try exact zx)) | (with_reducible intro hz; (try exact absurd hz (Nat.succ_ne_zero _)))))
  refine loop1 tabOk (E := []) trivial [] ?_
  (repeat' ((try (conv => whnf)); first | (with_reducible first | refine And.intro ?_ ?_ | refine WX.of ?_) | exact zc | ((with_reducible refine VC.mk ?_); exact zw) | (with_reducible first | refine splitT ?_ | refine splitF ?_) | ((with_reducible refine splitM.mk (fun hsm => ?_) (fun hsm => ?_)) <;> (try exact zx)) | ((with_reducible refine splitB.mk (fun h => ?_) (fun h => ?_)) <;> (try simp only [zs, ne_eq] at h) <;> (try simp (disch := omega) only [w64] at h) <;> (try exact zx)) | (with_reducible intro hz; (try exact absurd hz (Nat.succ_ne_zero _)))))
theorem ok_eqTN : SpecOk Try.prog 30 s_eqFN := by
  intro args S h; unfold s_eqFN at h ⊢; (split at h <;> first | exact False.elim h | skip)
  dsimp only at h ⊢
  refine funW tabOk (E := []) trivial [] (k := 0) (fn := Try.f30) rfl rfl rfl rfl rfl rfl ?_
  (repeat' ((try (conv => whnf)); first | (with_reducible first | refine And.intro ?_ ?_ | refine WX.of ?_) | exact zc | ((with_reducible refine VC.mk ?_); exact zw) | (with_reducible first | refine splitT ?_ | refine splitF ?_) | ((with_reducible refine splitM.mk (fun hsm => ?_) (fun hsm => ?_)) <;> (try exact zx)) | ((with_reducible refine splitB.mk (fun h => ?_) (fun h => ?_)) <;> (try simp only [zs, ne_eq] at h) <;> (try simp (disch := omega) only [w64] at h) <;> (try exact zx)) | (with_reducible intro hz; (try exact absurd hz (Nat.succ_ne_zero _)))))
  refine loop1 tabOk (E := []) trivial [] ?_
  (repeat' ((try (conv => whnf)); first | (with_reducible first | refine And.intro ?_ ?_ | refine WX.of ?_) | exact zc | ((with_reducible refine VC.mk ?_); exact zw) | (with_reducible first | refine splitT ?_ | refine splitF ?_) | ((with_reducible refine splitM.mk (fun hsm => ?_) (fun hsm => ?_)) <;> (try exact zx)) | ((with_reducible refine splitB.mk (fun h => ?_) (fun h => ?_)) <;> (try simp only [zs, ne_eq] at h) <;> (try simp (disch := omega) only [w64] at h) <;> (try exact zx)) | (with_reducible intro hz; (try exact absurd hz (Nat.succ_ne_zero _)))))
def s_eqSN : Spec := fun args S => match args, S with
  | [.agg [.int .i64 p, .int .i64 q, .nils], .agg [.int .i64 p', .int .i64 q', .nils]], [] => ⟨p = p' ∧ q = q', .bool true, []⟩
  | _, _ => noSpec
theorem ok_eqSN : SpecOk Try.prog 27 s_eqSN := by
  intro args S h; unfold s_eqSN at h ⊢; (split at h <;> first | exact False.elim h | skip)
  dsimp only at h ⊢
  obtain ⟨rfl, rfl⟩ := h
  refine funW tabOk (E := [(29, s_eqFrac), (11, s_eqFN)]) ⟨ok_eqFrac, ok_eqFN, trivial⟩ [] (k := 0) (fn := Try.f27) rfl rfl rfl rfl rfl rfl ?_
  (repeat' ((try (conv => whnf)); first | (with_reducible first | refine And.intro ?_ ?_ | refine WX.of ?_) | exact zc | ((with_reducible refine VC.mk ?_); exact zw) | (with_reducible first | refine splitT ?_ | refine splitF ?_) | ((with_reducible refine splitM.mk (fun hsm => ?_) (fun hsm => ?_)) <;> (try exact zx)) | ((with_reducible refine splitB.mk (fun h => ?_) (fun h => ?_)) <;> (try simp only [zs, ne_eq] at h) <;> (try simp (disch := omega) only [w64] at h) <;> (try exact zx)) | (with_reducible intro hz; (try exact absurd hz (Nat.succ_ne_zero _)))))
  all_goals (exfalso; simp at h)
def s_eqBN : Spec := fun args S => match args, S with
  | [.agg [.int .i64 a, .int .i64 b, .nils, .int .i64 c, .bool d, .int .i64 e, .int .i64 f, .nils], .agg [.int .i64 a', .int .i64 b', .nils, .int .i64 c', .bool d', .int .i64 e', .int .i64 f', .nils]], [] => ⟨(a = a' ∧ b = b') ∧ (c = c' ∧ d = d') ∧ e = e' ∧ f = f', .bool true, []⟩
  | _, _ => noSpec
theorem ok_eqBN : SpecOk Try.prog 10 s_eqBN := by
  intro args S h; unfold s_eqBN at h ⊢; (split at h <;> first | exact False.elim h | skip)
  dsimp only at h ⊢
  obtain ⟨⟨rfl, rfl⟩, ⟨rfl, rfl⟩, rfl, rfl⟩ := h
  refine funW tabOk (E := [(29, s_eqFrac), (27, s_eqSN), (28, s_eqVernier), (30, s_eqFN)]) ⟨ok_eqFrac, ok_eqSN, ok_eqVernier, ok_eqTN, trivial⟩ [] (k := 0) (fn := Try.f10) rfl rfl rfl rfl rfl rfl ?_
  (repeat' ((try (conv => whnf)); first | (with_reducible first | refine And.intro ?_ ?_ | refine WX.of ?_) | exact zc | ((with_reducible refine VC.mk ?_); exact zw) | (with_reducible first | refine splitT ?_ | refine splitF ?_) | ((with_reducible refine splitM.mk (fun hsm => ?_) (fun hsm => ?_)) <;> (try exact zx)) | ((with_reducible refine splitB.mk (fun h => ?_) (fun h => ?_)) <;> (try simp only [zs, ne_eq] at h) <;> (try simp (disch := omega) only [w64] at h) <;> (try exact zx)) | (with_reducible intro hz; (try exact absurd hz (Nat.succ_ne_zero _)))))
  all_goals (exfalso; simp at h)
def s_eqBz : Spec := fun args S => match args, S with
  | [.agg [.int .i64 a, .int .i64 b, .nils, .int .i64 c, .bool d, .int .i64 e, .int .i64 f, .nils], .agg [.int .i64 a', .int .i64 b', .nils, .int .i64 c', .bool d', .int .i64 e', .int .i64 f', .nils]], [] => ⟨(a = a' ∧ b = b') ∧ (c = c' ∧ d = d') ∧ e = e' ∧ f = f', .bool true, []⟩
  | [.agg [.int .i64 p, .int .i64 q, .sl 0 s n x, .int .i64 vp, .bool vb, .int .i64 gp, .int .i64 gq, .sl 1 t m y], .agg [.int .i64 p', .int .i64 q', .sl 2 s' n' x', .int .i64 vp', .bool vb', .int .i64 gp', .int .i64 gq', .sl 3 t' m' y']], [.arr (.prod (.int .i64) (.int .i64)) l 2 wr, .arr (.prod .str (.prod (.prod (.int .i64) (.int .i64)) (.prod (.int .i64) (.int .i64)))) k 5 wk, .arr (.prod (.int .i64) (.int .i64)) l' 2 wr', .arr (.prod .str (.prod (.prod (.int .i64) (.int .i64)) (.prod (.int .i64) (.int .i64)))) k' 5 wk'] => ⟨(s + n ≤ l.length ∧ s' + n' ≤ l'.length ∧ n ≤ 4611686018427387904) ∧ t + m ≤ k.length ∧ t' + m' ≤ k'.length ∧ m ≤ 4611686018427387904, .bool (decide ((p = p' ∧ q = q' ∧ seg l s n = seg l' s' n') ∧ (vp = vp' ∧ vb = vb') ∧ (gp = gp' ∧ gq = gq') ∧ seg k t m = seg k' t' m')), [.arr (.prod (.int .i64) (.int .i64)) l 2 wr, .arr (.prod .str (.prod (.prod (.int .i64) (.int .i64)) (.prod (.int .i64) (.int .i64)))) k 5 wk, .arr (.prod (.int .i64) (.int .i64)) l' 2 wr', .arr (.prod .str (.prod (.prod (.int .i64) (.int .i64)) (.prod (.int .i64) (.int .i64)))) k' 5 wk']⟩
  | _, _ => noSpec
set_option maxHeartbeats 1600000 in
theorem ok_eqBz : SpecOk Try.prog 10 s_eqBz := by
  intro args S h; unfold s_eqBz at h ⊢; (split at h <;> first | exact False.elim h | skip)
  dsimp only at h ⊢
  · exact ok_eqBN [_, _] [] h
  · exact ok_eqBench _ _ h
end Go.Proofs.Yteniodjodngkbaa.Eng
set_option linter.unusedVariables false
set_option linter.unusedSimpArgs false
namespace Go.Proofs.Yteniodjodngkbaa.Eng
open Go Go.RowKit
set_option maxRecDepth 100000
theorem law_correctBench {y1 : Int × Int} (ho1 : ET.Ok (.prod (.int .i64) (.int .i64)) y1) {c2 : Bool} {n2 : Nat} {l2 : List (Int × Int)} (hn2 : n2 ≤ l2.length) (hc2 : c2 = true → l2 = []) (ho2 : ∀ y ∈ l2, ET.Ok (.prod (.int .i64) (.int .i64)) y) (hz2 : l2.length ≤ 9223372036854775807) {y3 : Int × Bool} (ho3 : ET.Ok (.prod (.int .i64) .bool) y3) {y4 : Int × Int} (ho4 : ET.Ok (.prod (.int .i64) (.int .i64)) y4) {c5 : Bool} {n5 : Nat} {l5 : List ThT} (hn5 : n5 ≤ l5.length) (hc5 : c5 = true → l5 = []) (ho5 : ∀ y ∈ l5, ET.Ok (.prod .str (.prod (.prod (.int .i64) (.int .i64)) (.prod (.int .i64) (.int .i64)))) y) (hz5 : l5.length ≤ 9223372036854775807) {c6 : Bool} {n6 : Nat} {l6 : List (Int × Int)} (hn6 : n6 ≤ l6.length) (hc6 : c6 = true → l6 = []) (ho6 : ∀ y ∈ l6, ET.Ok (.prod (.int .i64) (.int .i64)) y) (hz6 : l6.length ≤ 9223372036854775807) : RunsS Try.prog 3 [.agg [.int .i64 y1.1, .int .i64 y1.2, .opt c2 0 n2 0, .int .i64 y3.1, .bool y3.2, .int .i64 y4.1, .int .i64 y4.2, .opt c5 1 n5 0], .opt c6 2 n6 0] [.arrO (.prod (.int .i64) (.int .i64)) l2 2, .arrO (.prod .str (.prod (.prod (.int .i64) (.int .i64)) (.prod (.int .i64) (.int .i64)))) l5 5, .arrO (.prod (.int .i64) (.int .i64)) l6 2] (.bool true) [.arrO (.prod (.int .i64) (.int .i64)) l2 2, .arrO (.prod .str (.prod (.prod (.int .i64) (.int .i64)) (.prod (.int .i64) (.int .i64)))) l5 5, .arrO (.prod (.int .i64) (.int .i64)) l6 2] := by
  have hL : (seg l2 0 n2).length = n2 := seg_len (by omega)
  have hM : (seg l5 0 n5).length = n5 := seg_len (by omega)
  have hb5 : ∀ (j : Nat) (a : ThT), l5[j]? = some a → a.1.length ≤ 9223372036854775807 := fun j a ha => (ho5 a (List.mem_of_getElem? ha)).1
  have hS : seg (seg l2 0 n2) 0 n2 = seg l2 0 n2 := seg_full hL
  have hT : seg (seg l5 0 n5) 0 n5 = seg l5 0 n5 := seg_full hM
  have htt : ∀ (j : Nat) (a : ThT), (seg l5 0 n5)[j]? = some a → a.1.length ≤ tot (fun a : ThT => a.1.length) (seg l5 0 n5) := fun j a ha => tot_at (f := fun a : ThT => a.1.length) ha
  have hN : (seg l6 0 n6).length = n6 := seg_len (by omega)
  have hS6 : seg (seg l6 0 n6) 0 n6 = seg l6 0 n6 := seg_full hN
  cases hE : cbF (bnB y1.1 y1.2 y3.1 y4.1 y4.2 (seg l2 0 n2) (seg l5 0 n5)) (y1.1, y1.2) (seg l2 0 n2) (seg l6 0 n6) with
  | ok E' =>
    have hl := (cs_1 (cb_ok hE).2).2
    rw [hL] at hl
    have hSE : seg E' 0 n2 = E' := seg_full hl
    refine funW tabOk (E := [(4, s_szBench), (5, s_szFracS), (7, s_toBench), (8, s_toFracS), (6, (s_cb1 E')), (9, (s_cb1 E')), (10, s_eqBench), (11, s_eqFracS), (12, s_mkBn), (13, s_markFracS), (14, s_hdBn)]) ⟨ok_szBench, ok_szFracS, ok_toBench, ok_toFracS, (ok_cb1S E'), (ok_cb1I E'), ok_eqBench, ok_eqFracS, ok_mkBn, ok_markFracS, ok_hdBn, trivial⟩ [(14, [(0, 1)])] (k := 3) (fn := Try.f3) rfl rfl rfl rfl rfl rfl ?_
    (repeat' ((try (conv => whnf)); first | (with_reducible first | refine And.intro ?_ ?_ | refine WX.of ?_) | exact zc | ((with_reducible refine VC.mk ?_); exact zw) | ((with_reducible refine VC.mk ?_); (refine ⟨⟨⟨?_, ?_⟩, ⟨?_, ?_⟩, ⟨?_, ?_⟩, ?_⟩, ?_⟩); (omega); (omega); (omega); (omega); (omega); (omega); (intro j a ha; have := htt j a ha; omega); (simp only [hS, hT, hS6]; exact hE)) | ((with_reducible refine VC.mk ?_); (refine ⟨?_, ?_, ⟨?_, ?_⟩, ?_, ?_⟩); (omega); (omega); (assumption); (assumption); (omega); (assumption)) | ((with_reducible refine VC.mk ?_); (refine ⟨⟨?_, ?_, ?_⟩, ?_, ?_, ?_⟩); all_goals (try assumption); all_goals omega) | ((with_reducible refine VC.mk ?_); (refine ⟨⟨?_, ?_⟩, ⟨?_, ?_⟩, ?_⟩); (omega); (omega); (omega); (omega); (intro j a ha; have := htt j a ha; omega)) | ((with_reducible refine VC.mk ?_); (try dsimp only); (simp only [hS, hT, hS6, hSE, hL, hM, hN, hl, and_true, true_and, and_self, ne_eq, not_false_eq_true, not_true_eq_false]); done) | ((with_reducible refine VC.mk ?_); (try dsimp only); (try simp only [hS, hT, hS6, hSE, hL, hM, hN, hl, and_true, true_and, and_self, ne_eq, not_false_eq_true, not_true_eq_false]); omega) | (with_reducible first | refine splitT ?_ | refine splitF ?_) | ((with_reducible refine splitM.mk (fun hsm => ?_) (fun hsm => ?_)) <;> (try exact zx)) | ((with_reducible refine splitB.mk (fun h => ?_) (fun h => ?_)) <;> (try simp only [zs, ne_eq] at h) <;> (try simp (disch := omega) only [w64] at h) <;> (try exact zx)) | (with_reducible intro hz; (try exact absurd hz (Nat.succ_ne_zero _)))))
  | error c =>
    refine funW tabOk (E := [(4, s_szBench), (5, s_szFracS), (7, s_toBench), (8, s_toFracS), (6, (s_cb0 c)), (9, (s_cb0 c)), (10, s_eqBz), (11, s_eqFracS), (12, s_mkBn), (13, s_markFracS), (14, s_hdBn)]) ⟨ok_szBench, ok_szFracS, ok_toBench, ok_toFracS, (ok_cb0S c), (ok_cb0I c), ok_eqBz, ok_eqFracS, ok_mkBn, ok_markFracS, ok_hdBn, trivial⟩ [(14, [(0, 1)])] (k := 3) (fn := Try.f3) rfl rfl rfl rfl rfl rfl ?_
    (repeat' ((try (conv => whnf)); first | (with_reducible first | refine And.intro ?_ ?_ | refine WX.of ?_) | exact zc | ((with_reducible refine VC.mk ?_); exact zw) | ((with_reducible refine VC.mk ?_); (refine ⟨⟨⟨?_, ?_⟩, ⟨?_, ?_⟩, ⟨?_, ?_⟩, ?_⟩, ?_⟩); (omega); (omega); (omega); (omega); (omega); (omega); (intro j a ha; have := htt j a ha; omega); (simp only [hS, hT, hS6]; exact hE)) | ((with_reducible refine VC.mk ?_); (refine ⟨?_, ?_, ⟨?_, ?_⟩, ?_, ?_⟩); (omega); (omega); (assumption); (assumption); (omega); (assumption)) | ((with_reducible refine VC.mk ?_); (refine ⟨⟨?_, ?_, ?_⟩, ?_, ?_, ?_⟩); all_goals (try assumption); all_goals omega) | ((with_reducible refine VC.mk ?_); (refine ⟨⟨?_, ?_⟩, ⟨?_, ?_⟩, ?_⟩); (omega); (omega); (omega); (omega); (intro j a ha; have := htt j a ha; omega)) | ((with_reducible refine VC.mk ?_); (try dsimp only); (simp only [hS, hT, hS6, hL, hM, hN, and_true, true_and, and_self, ne_eq, not_false_eq_true, not_true_eq_false]); done) | ((with_reducible refine VC.mk ?_); (try dsimp only); (try simp only [hS, hT, hS6, hL, hM, hN, and_true, true_and, and_self, ne_eq, not_false_eq_true, not_true_eq_false]); omega) | (with_reducible first | refine splitT ?_ | refine splitF ?_) | ((with_reducible refine splitM.mk (fun hsm => ?_) (fun hsm => ?_)) <;> (try exact zx)) | ((with_reducible refine splitB.mk (fun h => ?_) (fun h => ?_)) <;> (try simp only [zs, ne_eq] at h) <;> (try simp (disch := omega) only [w64] at h) <;> (try exact zx)) | (with_reducible intro hz; (try exact absurd hz (Nat.succ_ne_zero _)))))
end Go.Proofs.Yteniodjodngkbaa.Eng
