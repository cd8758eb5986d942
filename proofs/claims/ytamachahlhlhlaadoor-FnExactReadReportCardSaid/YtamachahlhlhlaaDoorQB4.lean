/- Lemmas for the proof, no conditions of their own. -/
import Derived.Test.YtamachahlhlhlaaDoorQB3
set_option linter.unusedVariables false
set_option linter.unusedSimpArgs false
namespace Go.Proofs.YtamachahlhlhlaaDoor.Eng
open Go Go.RowKit
set_option maxRecDepth 100000
def s_rdSS : Spec := fun args S => match args, S with
  | [.str t], [] => ⟨t.length ≤ 1048576, .tup [.agg [.int .i64 (spnJ t).1.1, .int .i64 (spnJ t).1.2, .int .i64 (spnJ t).2.1, .int .i64 (spnJ t).2.2], .bool (spnR t).isSome], []⟩
  | _, _ => noSpec
theorem sp_at {t : List UInt8} {i : Nat} (h : ∀ j, j < i → t[j]? ≠ some 46) (hi : t[i]? = some 46) (hl : i + 1 < t.length) {b : UInt8} (hb : t[i + 1]? = some b) : spnJ t = (frJ (t.take i), frJ (t.drop (i + 2))) ∧ (spnR t).isSome = (((decide (b = 46) && (frR (t.take i)).isSome) && (frR (t.drop (i + 2))).isSome) && spOk (frJ (t.take i)).1 (frJ (t.take i)).2 (frJ (t.drop (i + 2))).1 (frJ (t.drop (i + 2))).2) := by
  have hd := dtw_at h hi
  have hdl : (dtw t).length = i := by rw [hd, List.length_take]; omega
  constructor
  · unfold spnJ
    rw [hdl, hd, if_pos hl]
  · unfold spnR
    rw [hdl, hd]
    by_cases hb2 : b = 46
    · rw [if_pos ⟨hl, by rw [hb, hb2]⟩, decide_eq_true hb2]
      cases e1 : frR (t.take i) with
      | none => rfl
      | some x =>
        cases e2 : frR (t.drop (i + 2)) with
        | none => simp
        | some y =>
          rw [frJ_eq e1, frJ_eq e2]
          simp only [Option.bind_some, Option.isSome_some, Bool.true_and]
          by_cases hs : spOk x.1 x.2 y.1 y.2 = true
          · rw [if_pos hs, hs]; rfl
          · rw [if_neg hs, show spOk x.1 x.2 y.1 y.2 = false by simpa using hs]; rfl
    · rw [if_neg (fun hh => hb2 (by have := hh.2; rw [hb] at this; exact Option.some.inj this)), decide_eq_false hb2]; rfl
theorem sp_end {t : List UInt8} {i : Nat} (h : ∀ j, j < i → t[j]? ≠ some 46) (hi : i ≤ t.length) (hl : t.length ≤ i + 1) : spnJ t = ((0, 0), (0, 0)) ∧ spnR t = none := by
  have hd := dtw_len h hi
  constructor
  · unfold spnJ; rw [if_neg (by omega)]
  · unfold spnR; rw [if_neg (by omega)]
theorem ok_l01ReadSpan : SpecOk Tryd.prog 27 s_rdSS := by
  intro args S h; unfold s_rdSS at h ⊢; (split at h <;> first | exact False.elim h | skip)
  dsimp only at h ⊢
  rename_i t
  refine funW tabOk (E := [(26, s_rdFS), (45, s_l01Span)]) ⟨ok_l01Read, ok_l01Span, trivial⟩ [(8, [(0, 1)])] (k := 0) (fn := Tryd.f27) rfl rfl rfl rfl rfl rfl ?_
  (repeat' ((try (conv => whnf)); first | (with_reducible first | refine And.intro ?_ ?_ | refine WX.of ?_) | exact zc | ((with_reducible refine VC.mk ?_); exact zw) | (with_reducible first | refine splitT ?_ | refine splitF ?_) | ((with_reducible refine splitM.mk (fun hsm => ?_) (fun hsm => ?_)) <;> (try exact zx)) | ((with_reducible refine splitB.mk (fun h => ?_) (fun h => ?_)) <;> (try simp only [zs, ne_eq] at h) <;> (try simp (disch := omega) only [w64] at h) <;> (try exact zx)) | (with_reducible intro hz; (try exact absurd hz (Nat.succ_ne_zero _)))))
  refine loopW tabOk (E := [(26, s_rdFS), (45, s_l01Span)]) ⟨ok_l01Read, ok_l01Span, trivial⟩ [(8, [(0, 1)])] (σ := Nat) (fun i => [(0, .str t), (2, .ptr 0 0 0), (4, .int .i64 i)]) (fun i => [.arr (.prod (.prod (.int .i64) (.int .i64)) (.prod (.int .i64) (.int .i64))) [((0, 0), (0, 0))] 0 true]) (fun i => t.length - i) (fun i => i ≤ t.length ∧ ∀ j, j < i → t[j]? ≠ some 46) 0 ⟨Nat.zero_le _, fun j hj => by omega⟩ ?_ ?_
  · (repeat' ((try (conv => whnf)); first | (with_reducible first | refine And.intro ?_ ?_ | refine WX.of ?_) | exact zc | ((with_reducible refine VC.mk ?_); exact zw) | (with_reducible first | refine splitT ?_ | refine splitF ?_) | ((with_reducible refine splitM.mk (fun hsm => ?_) (fun hsm => ?_)) <;> (try exact zx)) | ((with_reducible refine splitB.mk (fun h => ?_) (fun h => ?_)) <;> (try simp only [zs, ne_eq] at h) <;> (try simp (disch := omega) only [w64] at h) <;> (try exact zx)) | (with_reducible intro hz; (try exact absurd hz (Nat.succ_ne_zero _)))))
  · intro i ⟨hi, hp⟩
    by_cases hlt : i + 1 < t.length
    · obtain ⟨a, ha⟩ := get_some (l := t) (i := i) (by omega)
      obtain ⟨b, hb⟩ := get_some (l := t) (i := i + 1) hlt
      by_cases h46 : a = 46
      · subst h46
        obtain ⟨e1, e2⟩ := sp_at hp ha hlt hb
        rw [e1, e2]
        have ht1 : (t.take ((i : Nat) : Int).toNat).length ≤ 1048576 := by rw [List.length_take]; omega
        have hw2 : (IntKind.i64.wrap ((i : Int) + 2)).toNat = i + 2 := by rw [w64 (by omega)]; omega
        have hw1 : (IntKind.i64.wrap ((i : Int) + 1)).toNat = i + 1 := by rw [w64 (by omega)]; omega
        have ht2 : (t.drop (IntKind.i64.wrap ((i : Int) + 2)).toNat).length ≤ 1048576 := by rw [List.length_drop]; omega
        have hnn : ¬ ¬ (((46 : UInt8).toNat : Nat) : Int) = 46 := fun h => h rfl
        have kb : decide ((b.toNat : Int) = 46) = decide (b = 46) := by
          by_cases h : b = 46
          · subst h; rfl
          · rw [decide_eq_false h]; exact decide_eq_false fun h2 => h (UInt8.toNat_inj.1 (Int.ofNat.inj h2))
        have ka : (frR (t.take ((i : Nat) : Int).toNat)).isSome = (frR (t.take i)).isSome := by rw [Int.toNat_natCast]
        have kc : (frR (t.drop (IntKind.i64.wrap ((i : Int) + 2)).toNat)).isSome = (frR (t.drop (i + 2))).isSome := by rw [hw2]
        generalize hq1 : decide (b = 46) = q1 at *
        generalize hq2 : (frR (t.take i)).isSome = q2 at *
        generalize hq3 : (frR (t.drop (i + 2))).isSome = q3 at *
        cases q1 <;> cases q2 <;> cases q3
        all_goals
          (repeat' ((try (conv => whnf)); first | (with_reducible first | refine And.intro ?_ ?_ | refine WX.of ?_) | exact zc | ((with_reducible refine VC.mk ?_); exact zw) | with_reducible refine atL_n ha ?_ | with_reducible refine atL_0 ha ?_ | refine atL_w hb hw1 ?_ | ((with_reducible refine VC.mk ?_); exact ht1) | ((with_reducible refine VC.mk ?_); exact ht2) | ((with_reducible refine splitT_of ?_ ?_); (focus (simp only [kb, ka, kc, Bool.not_true, Bool.not_false, decide_true, decide_false]; done))) | ((with_reducible refine splitF_of ?_ ?_); (focus (simp only [kb, ka, kc, Bool.not_true, Bool.not_false, decide_true, decide_false]; done))) | (with_reducible first | refine splitT ?_ | refine splitF ?_) | ((with_reducible refine splitM.mk (fun hsm => ?_) (fun hsm => ?_)) <;> (try exact zx)) | ((with_reducible refine splitB.mk (fun h => ?_) (fun h => ?_)) <;> (try simp only [zs, ne_eq] at h) <;> (try simp (disch := omega) only [w64] at h) <;> (try exact zx)) | (with_reducible intro hz; (try exact absurd hz (Nat.succ_ne_zero _)))))
        all_goals first
          | exact absurd ‹_› hnn
          | exact VC.mk (by dsimp only; rw [hw2, Int.toNat_natCast]; rfl)
          | skip
      · have hn : ¬ (a.toNat : Int) = 46 := fun h => h46 (UInt8.toNat_inj.1 (Int.ofNat.inj h))
        (repeat' ((try (conv => whnf)); first | (with_reducible first | refine And.intro ?_ ?_ | refine WX.of ?_) | exact zc | ((with_reducible refine VC.mk ?_); exact zw) | with_reducible refine atL_n ha ?_ | with_reducible refine atL_0 ha ?_ | (with_reducible first | refine splitT ?_ | refine splitF ?_) | ((with_reducible refine splitM.mk (fun hsm => ?_) (fun hsm => ?_)) <;> (try exact zx)) | ((with_reducible refine splitB.mk (fun h => ?_) (fun h => ?_)) <;> (try simp only [zs, ne_eq] at h) <;> (try simp (disch := omega) only [w64] at h) <;> (try exact zx)) | (with_reducible intro hz; (try exact absurd hz (Nat.succ_ne_zero _)))))
        refine ⟨i + 1, by omega, ⟨by omega, fun j hj => ?_⟩, ?_⟩
        · by_cases hji : j = i
          · subst hji; rw [ha]; exact fun h => h46 (Option.some.inj h)
          · exact hp j (by omega)
        · (repeat' ((try (conv => whnf)); first | (with_reducible first | refine And.intro ?_ ?_ | refine WX.of ?_) | exact zc | ((with_reducible refine VC.mk ?_); exact zw) | (with_reducible first | refine splitT ?_ | refine splitF ?_) | ((with_reducible refine splitM.mk (fun hsm => ?_) (fun hsm => ?_)) <;> (try exact zx)) | ((with_reducible refine splitB.mk (fun h => ?_) (fun h => ?_)) <;> (try simp only [zs, ne_eq] at h) <;> (try simp (disch := omega) only [w64] at h) <;> (try exact zx)) | (with_reducible intro hz; (try exact absurd hz (Nat.succ_ne_zero _)))))
    · obtain ⟨e1, e2⟩ := sp_end hp hi (by omega)
      rw [e1, e2]
      (repeat' ((try (conv => whnf)); first | (with_reducible first | refine And.intro ?_ ?_ | refine WX.of ?_) | exact zc | ((with_reducible refine VC.mk ?_); exact zw) | (with_reducible first | refine splitT ?_ | refine splitF ?_) | ((with_reducible refine splitM.mk (fun hsm => ?_) (fun hsm => ?_)) <;> (try exact zx)) | ((with_reducible refine splitB.mk (fun h => ?_) (fun h => ?_)) <;> (try simp only [zs, ne_eq] at h) <;> (try simp (disch := omega) only [w64] at h) <;> (try exact zx)) | (with_reducible intro hz; (try exact absurd hz (Nat.succ_ne_zero _)))))
end Go.Proofs.YtamachahlhlhlaaDoor.Eng
set_option linter.unusedVariables false
set_option linter.unusedSimpArgs false
namespace Go.Proofs.YtamachahlhlhlaaDoor.Eng
open Go Go.RowKit
set_option maxRecDepth 100000
def rpV (t : List UInt8) : RpT := (rpR t).getD rp0
def s_rdRp : Spec := fun args S => match args, S with
  | [.str t], [] => ⟨t.length ≤ 1048576, .tup [.agg [.int .i64 (rpV t).1.1, .int .i64 (rpV t).1.2.1.1, .int .i64 (rpV t).1.2.1.2, .int .i64 (rpV t).1.2.2.1, .int .i64 (rpV t).1.2.2.2, .int .i64 (rpV t).2.1.1, .int .i64 (rpV t).2.1.2, .int .i64 (rpV t).2.2.1.1, .int .i64 (rpV t).2.2.1.2, .int .i64 (rpV t).2.2.2.1.1, .int .i64 (rpV t).2.2.2.1.2, .int .i64 (rpV t).2.2.2.2.1.1, .int .i64 (rpV t).2.2.2.2.1.2, .int .i64 (rpV t).2.2.2.2.2.1, .int .i64 (rpV t).2.2.2.2.2.2], .int .i64 (okE (rpR t).isSome)], []⟩
  | _, _ => noSpec
def okR (W : List (List UInt8)) : Nat → Bool
  | 0 => (numR (wR W 0)).isSome
  | k + 1 => okR W k && (frR (wR W (k + 1))).isSome
def lsR (W : List (List UInt8)) : Nat → List (Int × Int)
  | 0 => []
  | k + 1 => lsR W k ++ [frJ (wR W (k + 1))]
theorem lsR_len (W : List (List UInt8)) : ∀ k, (lsR W k).length = k
  | 0 => rfl
  | k + 1 => by simp [lsR, lsR_len W k]
theorem wR_at {W : List (List UInt8)} {i : Nat} (h : i < W.length) : W[i]? = some (wR W i) := by
  obtain ⟨a, ha⟩ := get_some (l := W) h
  unfold wR; rw [ha]; rfl
theorem wR_len {c : UInt8} {t : List UInt8} {i : Nat} (h : i < (splL c t).length) : (wR (splL c t) i).length ≤ t.length := splL_sub c t _ (List.mem_of_getElem? (wR_at h))
set_option maxHeartbeats 3200000 in
theorem ok_ReadReportS : SpecOk Tryd.prog 10 s_rdRp := by
  intro args S h; unfold s_rdRp at h ⊢; (split at h <;> first | exact False.elim h | skip)
  dsimp only at h ⊢
  rename_i t
  have hll := splL_len 32 t
  by_cases h7 : (splL 32 t).length = 7
  rotate_left 1
  · have hn : rpR t = none := if_neg fun hh => h7 hh.1.1
    have hk : decide (((splL 32 t).length : Int) ≠ 7) = true := decide_eq_true (by omega)
    unfold rpV
    rw [hn]
    refine funW tabOk (E := [(13, (s_splS 32)), (15, s_numS), (26, s_rdFS), (27, s_rdSS), (28, s_rpTold)]) ⟨(ok_l01Split 32), ok_l01Number, ok_l01Read, ok_l01ReadSpan, ok_l07Told, trivial⟩ [] (k := 0) (fn := Tryd.f10) rfl rfl rfl rfl rfl rfl ?_
    (repeat' ((try (conv => whnf)); first | (with_reducible first | refine And.intro ?_ ?_ | refine WX.of ?_) | exact zc | ((with_reducible refine VC.mk ?_); exact zw) | ((with_reducible refine splitT_of ?_ ?_); (focus (simp only [hk, Bool.not_true, Bool.not_false, decide_true, decide_false]; done))) | ((with_reducible refine splitF_of ?_ ?_); (focus (simp only [hk, Bool.not_true, Bool.not_false, decide_true, decide_false]; done))) | ((with_reducible refine VC.mk ?_); exact ⟨h, rfl⟩) | (with_reducible first | refine splitT ?_ | refine splitF ?_) | ((with_reducible refine splitM.mk (fun hsm => ?_) (fun hsm => ?_)) <;> (try exact zx)) | ((with_reducible refine splitB.mk (fun h => ?_) (fun h => ?_)) <;> (try simp only [zs, ne_eq] at h) <;> (try simp (disch := omega) only [w64] at h) <;> (try exact zx)) | (with_reducible intro hz; (try exact absurd hz (Nat.succ_ne_zero _)))))
  have hk : decide (((splL 32 t).length : Int) ≠ 7) = false := by rw [h7]; rfl
  have hat : ∀ i, i < 7 → (splL 32 t)[i]? = some (wR (splL 32 t) i) := fun i hi => wR_at (by omega)
  have hsz : ∀ i, i < 7 → (wR (splL 32 t) i).length ≤ 1048576 := fun i hi => Nat.le_trans (wR_len (by omega)) h
  have a0 := hat 0 (by decide)
  have a6 := hat 6 (by decide)
  have z0 := hsz 0 (by decide)
  have z6 := hsz 6 (by decide)
  refine funW tabOk (E := [(13, (s_splS 32)), (15, s_numS), (26, s_rdFS), (27, s_rdSS), (28, s_rpTold)]) ⟨(ok_l01Split 32), ok_l01Number, ok_l01Read, ok_l01ReadSpan, ok_l07Told, trivial⟩ [] (k := 0) (fn := Tryd.f10) rfl rfl rfl rfl rfl rfl ?_
  (repeat' ((try (conv => whnf)); first | (with_reducible first | refine And.intro ?_ ?_ | refine WX.of ?_) | exact zc | ((with_reducible refine VC.mk ?_); exact zw) | ((with_reducible refine splitT_of ?_ ?_); (focus (simp only [hk, Bool.not_true, Bool.not_false, decide_true, decide_false]; done))) | ((with_reducible refine splitF_of ?_ ?_); (focus (simp only [hk, Bool.not_true, Bool.not_false, decide_true, decide_false]; done))) | ((with_reducible refine VC.mk ?_); exact ⟨h, rfl⟩) | ((with_reducible refine VC.mk ?_); exact z0) | refine atL_w a0 (by decide) ?_ | (with_reducible first | refine splitT ?_ | refine splitF ?_) | ((with_reducible refine splitM.mk (fun hsm => ?_) (fun hsm => ?_)) <;> (try exact zx)) | ((with_reducible refine splitB.mk (fun h => ?_) (fun h => ?_)) <;> (try simp only [zs, ne_eq] at h) <;> (try simp (disch := omega) only [w64] at h) <;> (try exact zx)) | (with_reducible intro hz; (try exact absurd hz (Nat.succ_ne_zero _)))))
  refine loopW tabOk (E := [(13, (s_splS 32)), (15, s_numS), (26, s_rdFS), (27, s_rdSS), (28, s_rpTold)]) ⟨(ok_l01Split 32), ok_l01Number, ok_l01Read, ok_l01ReadSpan, ok_l07Told, trivial⟩ [] (σ := Nat) (fun k => [(2, .ptr 0 0 0), (4, .sl 1 0 (splL 32 t).length 0), (5, .int .i64 (numJ (wR (splL 32 t) 0))), (6, .bool (okR (splL 32 t) k)), (7, .sl 2 0 k 0), (8, .int .i64 ((k + 1 : Nat) : Int))]) (fun k => [.arr (.prod (.prod (.int .i64) (.prod (.prod (.int .i64) (.int .i64)) (.prod (.int .i64) (.int .i64)))) (.prod (.prod (.int .i64) (.int .i64)) (.prod (.prod (.int .i64) (.int .i64)) (.prod (.prod (.int .i64) (.int .i64)) (.prod (.prod (.int .i64) (.int .i64)) (.prod (.int .i64) (.int .i64))))))) [rp0] 0 true, .arr .str (splL 32 t) 1 true, .arr (.prod (.int .i64) (.int .i64)) (lsR (splL 32 t) k) 2 true]) (fun k => 5 - k) (fun k => k ≤ 5) 0 (Nat.zero_le _) ?_ ?_
  · (repeat' ((try (conv => whnf)); first | (with_reducible first | refine And.intro ?_ ?_ | refine WX.of ?_) | exact zc | ((with_reducible refine VC.mk ?_); exact zw) | (with_reducible first | refine splitT ?_ | refine splitF ?_) | ((with_reducible refine splitM.mk (fun hsm => ?_) (fun hsm => ?_)) <;> (try exact zx)) | ((with_reducible refine splitB.mk (fun h => ?_) (fun h => ?_)) <;> (try simp only [zs, ne_eq] at h) <;> (try simp (disch := omega) only [w64] at h) <;> (try exact zx)) | (with_reducible intro hz; (try exact absurd hz (Nat.succ_ne_zero _)))))
  · intro k hk5
    have hlen := lsR_len (splL 32 t) k
    by_cases hlt : k < 5
    · have ak := hat (k + 1) (by omega)
      have zk := hsz (k + 1) (by omega)
      (repeat' ((try (conv => whnf)); first | (with_reducible first | refine And.intro ?_ ?_ | refine WX.of ?_) | exact zc | ((with_reducible refine VC.mk ?_); exact zw) | refine atL_w ak (by omega) ?_ | ((with_reducible refine VC.mk ?_); exact zk) | (with_reducible first | refine splitT ?_ | refine splitF ?_) | ((with_reducible refine splitM.mk (fun hsm => ?_) (fun hsm => ?_)) <;> (try exact zx)) | ((with_reducible refine splitB.mk (fun h => ?_) (fun h => ?_)) <;> (try simp only [zs, ne_eq] at h) <;> (try simp (disch := omega) only [w64] at h) <;> (try exact zx)) | (with_reducible intro hz; (try exact absurd hz (Nat.succ_ne_zero _)))))
      all_goals
        refine ⟨k + 1, by omega, by omega, ?_⟩
        (repeat' ((try (conv => whnf)); first | (with_reducible first | refine And.intro ?_ ?_ | refine WX.of ?_) | exact zc | ((with_reducible refine VC.mk ?_); exact zw) | (with_reducible first | refine splitT ?_ | refine splitF ?_) | ((with_reducible refine splitM.mk (fun hsm => ?_) (fun hsm => ?_)) <;> (try exact zx)) | ((with_reducible refine splitB.mk (fun h => ?_) (fun h => ?_)) <;> (try simp only [zs, ne_eq] at h) <;> (try simp (disch := omega) only [w64] at h) <;> (try exact zx)) | (with_reducible intro hz; (try exact absurd hz (Nat.succ_ne_zero _)))))
        all_goals first
          | exact ⟨congrArg SV.bool (show okR (splL 32 t) (k + 1) = _ by simp only [okR]; rw [‹okR (splL 32 t) k = true›, Bool.true_and])⟩
          | exact ⟨congrArg SV.bool (show okR (splL 32 t) (k + 1) = _ by simp only [okR]; rw [‹okR (splL 32 t) k = false›, Bool.false_and])⟩
          | (refine ⟨?_⟩; simp only [lsR]; rw [seg_full hlen]; rfl)
          | skip
    · obtain rfl : k = 5 := by omega
      have e5 : lsR (splL 32 t) 5 = [frJ (wR (splL 32 t) 1), frJ (wR (splL 32 t) 2), frJ (wR (splL 32 t) 3), frJ (wR (splL 32 t) 4), frJ (wR (splL 32 t) 5)] := rfl
      have eG : okR (splL 32 t) 5 = rpG (splL 32 t) := rfl
      rw [e5]
      have kB : rpB (numJ (wR (splL 32 t) 0)) (frJ (wR (splL 32 t) 1)).1 (frJ (wR (splL 32 t) 1)).2 (frJ (wR (splL 32 t) 2)).1 (frJ (wR (splL 32 t) 2)).2 (frJ (wR (splL 32 t) 3)).1 (frJ (wR (splL 32 t) 3)).2 (frJ (wR (splL 32 t) 4)).1 (frJ (wR (splL 32 t) 4)).2 (frJ (wR (splL 32 t) 5)).1 (frJ (wR (splL 32 t) 5)).2 (spnJ (wR (splL 32 t) 6)).1.1 (spnJ (wR (splL 32 t) 6)).1.2 (spnJ (wR (splL 32 t) 6)).2.1 (spnJ (wR (splL 32 t) 6)).2.2 = rpBv (rpJ t) := rfl
      cases hG : okR (splL 32 t) 5 with
      | false =>
        have hn : rpR t = none := if_neg fun hh => by rw [← eG, hG] at hh; exact absurd hh.1.2 (by decide)
        unfold rpV
        rw [hn]
        (repeat' ((try (conv => whnf)); first | (with_reducible first | refine And.intro ?_ ?_ | refine WX.of ?_) | exact zc | ((with_reducible refine VC.mk ?_); exact zw) | refine atL_w a6 (by decide) ?_ | ((with_reducible refine VC.mk ?_); exact z6) | (with_reducible first | refine splitT ?_ | refine splitF ?_) | ((with_reducible refine splitM.mk (fun hsm => ?_) (fun hsm => ?_)) <;> (try exact zx)) | ((with_reducible refine splitB.mk (fun h => ?_) (fun h => ?_)) <;> (try simp only [zs, ne_eq] at h) <;> (try simp (disch := omega) only [w64] at h) <;> (try exact zx)) | (with_reducible intro hz; (try exact absurd hz (Nat.succ_ne_zero _)))))
      | true =>
        cases hS : (spnR (wR (splL 32 t) 6)).isSome with
        | false =>
          have hn : rpR t = none := if_neg fun hh => by rw [hS] at hh; exact absurd hh.2.1 (by decide)
          unfold rpV
          rw [hn]
          (repeat' ((try (conv => whnf)); first | (with_reducible first | refine And.intro ?_ ?_ | refine WX.of ?_) | exact zc | ((with_reducible refine VC.mk ?_); exact zw) | refine atL_w a6 (by decide) ?_ | ((with_reducible refine VC.mk ?_); exact z6) | ((with_reducible refine splitT_of ?_ ?_); (focus (simp only [hS, Bool.not_false, Bool.not_true, Bool.not_false, decide_true, decide_false]; done))) | ((with_reducible refine splitF_of ?_ ?_); (focus (simp only [hS, Bool.not_false, Bool.not_true, Bool.not_false, decide_true, decide_false]; done))) | (with_reducible first | refine splitT ?_ | refine splitF ?_) | ((with_reducible refine splitM.mk (fun hsm => ?_) (fun hsm => ?_)) <;> (try exact zx)) | ((with_reducible refine splitB.mk (fun h => ?_) (fun h => ?_)) <;> (try simp only [zs, ne_eq] at h) <;> (try simp (disch := omega) only [w64] at h) <;> (try exact zx)) | (with_reducible intro hz; (try exact absurd hz (Nat.succ_ne_zero _)))))
        | true =>
          cases hB : rpBv (rpJ t) with
          | false =>
            have hn : rpR t = none := if_neg fun hh => by rw [hB] at hh; exact absurd hh.2.2 (by decide)
            rw [hB] at kB
            unfold rpV
            rw [hn]
            (repeat' ((try (conv => whnf)); first | (with_reducible first | refine And.intro ?_ ?_ | refine WX.of ?_) | exact zc | ((with_reducible refine VC.mk ?_); exact zw) | refine atL_w a6 (by decide) ?_ | ((with_reducible refine VC.mk ?_); exact z6) | ((with_reducible refine splitT_of ?_ ?_); (focus (simp only [hS, kB, Bool.not_false, Bool.not_true, Bool.not_true, Bool.not_false, decide_true, decide_false]; done))) | ((with_reducible refine splitF_of ?_ ?_); (focus (simp only [hS, kB, Bool.not_false, Bool.not_true, Bool.not_true, Bool.not_false, decide_true, decide_false]; done))) | (with_reducible first | refine splitT ?_ | refine splitF ?_) | ((with_reducible refine splitM.mk (fun hsm => ?_) (fun hsm => ?_)) <;> (try exact zx)) | ((with_reducible refine splitB.mk (fun h => ?_) (fun h => ?_)) <;> (try simp only [zs, ne_eq] at h) <;> (try simp (disch := omega) only [w64] at h) <;> (try exact zx)) | (with_reducible intro hz; (try exact absurd hz (Nat.succ_ne_zero _)))))
          | true =>
            have hn : rpR t = some (rpJ t) := if_pos ⟨⟨h7, by rw [← eG]; exact hG⟩, hS, hB⟩
            rw [hB] at kB
            unfold rpV
            rw [hn]
            (repeat' ((try (conv => whnf)); first | (with_reducible first | refine And.intro ?_ ?_ | refine WX.of ?_) | exact zc | ((with_reducible refine VC.mk ?_); exact zw) | refine atL_w a6 (by decide) ?_ | ((with_reducible refine VC.mk ?_); exact z6) | ((with_reducible refine splitT_of ?_ ?_); (focus (simp only [hS, kB, Bool.not_false, Bool.not_true, Bool.not_true, Bool.not_false, decide_true, decide_false]; done))) | ((with_reducible refine splitF_of ?_ ?_); (focus (simp only [hS, kB, Bool.not_false, Bool.not_true, Bool.not_true, Bool.not_false, decide_true, decide_false]; done))) | (with_reducible first | refine splitT ?_ | refine splitF ?_) | ((with_reducible refine splitM.mk (fun hsm => ?_) (fun hsm => ?_)) <;> (try exact zx)) | ((with_reducible refine splitB.mk (fun h => ?_) (fun h => ?_)) <;> (try simp only [zs, ne_eq] at h) <;> (try simp (disch := omega) only [w64] at h) <;> (try exact zx)) | (with_reducible intro hz; (try exact absurd hz (Nat.succ_ne_zero _)))))
end Go.Proofs.YtamachahlhlhlaaDoor.Eng
set_option linter.unusedVariables false
set_option linter.unusedSimpArgs false
namespace Go.Proofs.YtamachahlhlhlaaDoor.Eng
open Go Go.RowKit
set_option maxRecDepth 100000
def s_rdFs : Spec := fun args S => match args, S with
  | [.sl 0 s n x], [.arr .str l 1 wr] => ⟨(s + n ≤ l.length ∧ n ≤ 1048576) ∧ ∀ (j : Nat) (a : List UInt8), l[j]? = some a → a.length ≤ 1048576, .sl 1 0 n 0, [.arr .str l 1 wr, .arr (.prod (.int .i64) (.int .i64)) ((seg l s n).map frD) 2 true]⟩
  | _, _ => noSpec
theorem ok_readFracs : SpecOk Tryd.prog 29 s_rdFs := by
  intro args S h; unfold s_rdFs at h ⊢; (split at h <;> first | exact False.elim h | skip)
  dsimp only at h ⊢
  rename_i s n x l wr
  obtain ⟨⟨h1, h2⟩, ho⟩ := h
  have hL := seg_len h1
  refine funW tabOk (E := [(47, s_rdFI)]) ⟨ok_ReadFracI, trivial⟩ [] (k := 1) (fn := Tryd.f29) rfl rfl rfl rfl rfl rfl ?_
  (repeat' ((try (conv => whnf)); first | (with_reducible first | refine And.intro ?_ ?_ | refine WX.of ?_) | exact zc | ((with_reducible refine VC.mk ?_); exact zw) | (with_reducible first | refine splitT ?_ | refine splitF ?_) | ((with_reducible refine splitM.mk (fun hsm => ?_) (fun hsm => ?_)) <;> (try exact zx)) | ((with_reducible refine splitB.mk (fun h => ?_) (fun h => ?_)) <;> (try simp only [zs, ne_eq] at h) <;> (try simp (disch := omega) only [w64] at h) <;> (try exact zx)) | (with_reducible intro hz; (try exact absurd hz (Nat.succ_ne_zero _)))))
  refine loopW tabOk (E := [(47, s_rdFI)]) ⟨ok_ReadFracI, trivial⟩ [] (σ := Nat) (fun i => [(3, .sl 1 0 i 0), (9, .sl 0 s n x), (10, .int .i64 n), (11, .int .i64 i)]) (fun i => [.arr .str l 1 wr, .arr (.prod (.int .i64) (.int .i64)) (((seg l s n).map frD).take i) 2 true]) (fun i => n - i) (fun i => i ≤ n) 0 (Nat.zero_le _) ?_ ?_
  · (repeat' ((try (conv => whnf)); first | (with_reducible first | refine And.intro ?_ ?_ | refine WX.of ?_) | exact zc | ((with_reducible refine VC.mk ?_); exact zw) | (with_reducible first | refine splitT ?_ | refine splitF ?_) | ((with_reducible refine splitM.mk (fun hsm => ?_) (fun hsm => ?_)) <;> (try exact zx)) | ((with_reducible refine splitB.mk (fun h => ?_) (fun h => ?_)) <;> (try simp only [zs, ne_eq] at h) <;> (try simp (disch := omega) only [w64] at h) <;> (try exact zx)) | (with_reducible intro hz; (try exact absurd hz (Nat.succ_ne_zero _)))))
  · intro i hi
    have hlen : (((seg l s n).map frD).take i).length = i := by rw [List.length_take, List.length_map]; omega
    by_cases hlt : i < n
    · obtain ⟨a, ha⟩ := get_some (l := seg l s n) (i := i) (by omega)
      have hz := ho _ _ (seg_get ha).1
      have hg : ((seg l s n).map frD)[i]? = some (frD a) := by rw [List.getElem?_map, ha]; rfl
      (repeat' ((try (conv => whnf)); first | (with_reducible first | refine And.intro ?_ ?_ | refine WX.of ?_) | exact zc | ((with_reducible refine VC.mk ?_); exact zw) | with_reducible refine atL_i ha ?_ | ((with_reducible refine VC.mk ?_); exact hz) | (with_reducible first | refine splitT ?_ | refine splitF ?_) | ((with_reducible refine splitM.mk (fun hsm => ?_) (fun hsm => ?_)) <;> (try exact zx)) | ((with_reducible refine splitB.mk (fun h => ?_) (fun h => ?_)) <;> (try simp only [zs, ne_eq] at h) <;> (try simp (disch := omega) only [w64] at h) <;> (try exact zx)) | (with_reducible intro hz; (try exact absurd hz (Nat.succ_ne_zero _)))))
      refine ⟨i + 1, by omega, hlt, ?_⟩
      (repeat' ((try (conv => whnf)); first | (with_reducible first | refine And.intro ?_ ?_ | refine WX.of ?_) | exact zc | ((with_reducible refine VC.mk ?_); exact zw) | (with_reducible first | refine splitT ?_ | refine splitF ?_) | ((with_reducible refine splitM.mk (fun hsm => ?_) (fun hsm => ?_)) <;> (try exact zx)) | ((with_reducible refine splitB.mk (fun h => ?_) (fun h => ?_)) <;> (try simp only [zs, ne_eq] at h) <;> (try simp (disch := omega) only [w64] at h) <;> (try exact zx)) | (with_reducible intro hz; (try exact absurd hz (Nat.succ_ne_zero _)))))
      all_goals exact ⟨app_take hg⟩
    · obtain rfl : i = n := by omega
      rw [List.take_of_length_le (by rw [List.length_map]; omega)]
      (repeat' ((try (conv => whnf)); first | (with_reducible first | refine And.intro ?_ ?_ | refine WX.of ?_) | exact zc | ((with_reducible refine VC.mk ?_); exact zw) | (with_reducible first | refine splitT ?_ | refine splitF ?_) | ((with_reducible refine splitM.mk (fun hsm => ?_) (fun hsm => ?_)) <;> (try exact zx)) | ((with_reducible refine splitB.mk (fun h => ?_) (fun h => ?_)) <;> (try simp only [zs, ne_eq] at h) <;> (try simp (disch := omega) only [w64] at h) <;> (try exact zx)) | (with_reducible intro hz; (try exact absurd hz (Nat.succ_ne_zero _)))))
set_option maxHeartbeats 3200000 in
theorem ok_ReadReportI : SpecOk Tryd.prog 11 s_rdRp := by
  intro args S h; unfold s_rdRp at h ⊢; (split at h <;> first | exact False.elim h | skip)
  dsimp only at h ⊢
  rename_i t
  have hll := splL_len 32 t
  have eP := rp_same t
  by_cases h7 : (splL 32 t).length = 7
  rotate_left 1
  · have hn : rpR t = none := if_neg fun hh => h7 hh.1.1
    have hk : decide (((splL 32 t).length : Int) ≠ 7) = true := decide_eq_true (by omega)
    unfold rpV
    rw [hn]
    refine funW tabOk (E := [(20, s_spl), (29, s_rdFs), (22, s_nmb), (30, s_rdSI), (31, s_rpx)]) ⟨ok_Split, ok_readFracs, ok_number, ok_ReadSpanI, ok_ReportTextI, trivial⟩ [(5, [(6, 0), (9, 0), (13, 0), (16, 0), (19, 0), (21, 0)])] (k := 0) (fn := Tryd.f11) rfl rfl rfl rfl rfl rfl ?_
    (repeat' ((try (conv => whnf)); first | (with_reducible first | refine And.intro ?_ ?_ | refine WX.of ?_) | exact zc | ((with_reducible refine VC.mk ?_); exact zw) | ((with_reducible refine splitT_of ?_ ?_); (focus (simp only [hk, Bool.not_true, Bool.not_false, decide_true, decide_false]; done))) | ((with_reducible refine splitF_of ?_ ?_); (focus (simp only [hk, Bool.not_true, Bool.not_false, decide_true, decide_false]; done))) | ((with_reducible refine VC.mk ?_); exact h) | (with_reducible first | refine splitT ?_ | refine splitF ?_) | ((with_reducible refine splitM.mk (fun hsm => ?_) (fun hsm => ?_)) <;> (try exact zx)) | ((with_reducible refine splitB.mk (fun h => ?_) (fun h => ?_)) <;> (try simp only [zs, ne_eq] at h) <;> (try simp (disch := omega) only [w64] at h) <;> (try exact zx)) | (with_reducible intro hz; (try exact absurd hz (Nat.succ_ne_zero _)))))
  have hk : decide (((splL 32 t).length : Int) ≠ 7) = false := by rw [h7]; rfl
  have hat : ∀ i, i < 7 → (splL 32 t)[i]? = some (wR (splL 32 t) i) := fun i hi => wR_at (by omega)
  have hsz : ∀ (j : Nat) (a : List UInt8), (splL 32 t)[j]? = some a → a.length ≤ 1048576 := fun j a ha => Nat.le_trans (splL_sub 32 t a (List.mem_of_getElem? ha)) h
  have a0 := hat 0 (by decide)
  have a6 := hat 6 (by decide)
  have z0 := hsz 0 _ a0
  have z6 := hsz 6 _ a6
  have e5 : (seg (splL 32 t) 1 5).map frD = [frD (wR (splL 32 t) 1), frD (wR (splL 32 t) 2), frD (wR (splL 32 t) 3), frD (wR (splL 32 t) 4), frD (wR (splL 32 t) 5)] := by
    obtain ⟨b0, b1, b2, b3, b4, b5, b6, hW⟩ := len7 h7
    rw [hW]; rfl
  refine funW tabOk (E := [(20, s_spl), (29, s_rdFs), (22, s_nmb), (30, s_rdSI), (31, s_rpx)]) ⟨ok_Split, ok_readFracs, ok_number, ok_ReadSpanI, ok_ReportTextI, trivial⟩ [(5, [(6, 0), (9, 0), (13, 0), (16, 0), (19, 0), (21, 0)])] (k := 0) (fn := Tryd.f11) rfl rfl rfl rfl rfl rfl ?_
  have hv1 : 0 ≤ (1 : Int) ∧ (1 : Int) ≤ 6 ∧ (6 : Int) ≤ ((splL 32 t).length : Int) := ⟨by decide, by decide, by omega⟩
  have b1 : ((seg (splL 32 t) 1 5).map frD)[0]? = some (frD (wR (splL 32 t) 1)) := by rw [e5]; rfl
  have b2 : ((seg (splL 32 t) 1 5).map frD)[1]? = some (frD (wR (splL 32 t) 2)) := by rw [e5]; rfl
  have b3 : ((seg (splL 32 t) 1 5).map frD)[2]? = some (frD (wR (splL 32 t) 3)) := by rw [e5]; rfl
  have b4 : ((seg (splL 32 t) 1 5).map frD)[3]? = some (frD (wR (splL 32 t) 4)) := by rw [e5]; rfl
  have b5 : ((seg (splL 32 t) 1 5).map frD)[4]? = some (frD (wR (splL 32 t) 5)) := by rw [e5]; rfl
  (repeat' ((try (conv => whnf)); first | (with_reducible first | refine And.intro ?_ ?_ | refine WX.of ?_) | exact zc | ((with_reducible refine VC.mk ?_); exact zw) | ((with_reducible refine splitT_of ?_ ?_); (focus (simp only [hk, Bool.not_true, Bool.not_false, decide_true, decide_false]; done))) | ((with_reducible refine splitF_of ?_ ?_); (focus (simp only [hk, Bool.not_true, Bool.not_false, decide_true, decide_false]; done))) | ((with_reducible refine VC.mk ?_); exact h) | ((with_reducible refine VC.mk ?_); exact ⟨⟨by omega, by decide⟩, hsz⟩) | ((with_reducible refine VC.mk ?_); exact z0) | ((with_reducible refine VC.mk ?_); exact z6) | refine atL_w a0 (by decide) ?_ | refine atL_w a6 (by decide) ?_ | refine atL_w b1 (by decide) ?_ | refine atL_w b2 (by decide) ?_ | refine atL_w b3 (by decide) ?_ | refine atL_w b4 (by decide) ?_ | refine atL_w b5 (by decide) ?_ | (with_reducible first | refine splitT ?_ | refine splitF ?_) | ((with_reducible refine splitM.mk (fun hsm => ?_) (fun hsm => ?_)) <;> (try exact zx)) | ((with_reducible refine splitB.mk (fun h => ?_) (fun h => ?_)) <;> (try simp only [zs, ne_eq] at h) <;> (try simp (disch := omega) only [w64] at h) <;> (try exact zx)) | (with_reducible intro hz; (try exact absurd hz (Nat.succ_ne_zero _)))))
  · have hn : rpR t = none := by
      rw [← rp_same]
      exact if_neg fun hh => ‹¬ _› hh.2
    exact VC.mk (by unfold rpV; rw [hn]; rfl)
  · have hs : rpR t = some (rpO t) := by
      rw [← rp_same]
      exact if_pos ⟨h7, by assumption⟩
    exact VC.mk (by unfold rpV; rw [hs]; rfl)
end Go.Proofs.YtamachahlhlhlaaDoor.Eng
set_option linter.unusedVariables false
set_option linter.unusedSimpArgs false
namespace Go.Proofs.YtamachahlhlhlaaDoor.Eng
open Go Go.RowKit
set_option maxRecDepth 100000
end Go.Proofs.YtamachahlhlhlaaDoor.Eng
set_option linter.unusedVariables false
set_option linter.unusedSimpArgs false
namespace Go.Proofs.YtamachahlhlhlaaDoor.Eng
open Go Go.RowKit
set_option maxRecDepth 100000
end Go.Proofs.YtamachahlhlhlaaDoor.Eng
set_option linter.unusedVariables false
set_option linter.unusedSimpArgs false
namespace Go.Proofs.YtamachahlhlhlaaDoor.Eng
open Go Go.RowKit
set_option maxRecDepth 100000
end Go.Proofs.YtamachahlhlhlaaDoor.Eng
set_option linter.unusedVariables false
set_option linter.unusedSimpArgs false
namespace Go.Proofs.YtamachahlhlhlaaDoor.Eng
open Go Go.RowKit
set_option maxRecDepth 100000
end Go.Proofs.YtamachahlhlhlaaDoor.Eng
set_option linter.unusedVariables false
set_option linter.unusedSimpArgs false
namespace Go.Proofs.YtamachahlhlhlaaDoor.Eng
open Go Go.RowKit
set_option maxRecDepth 100000
end Go.Proofs.YtamachahlhlhlaaDoor.Eng
set_option linter.unusedVariables false
set_option linter.unusedSimpArgs false
namespace Go.Proofs.YtamachahlhlhlaaDoor.Eng
open Go Go.RowKit
set_option maxRecDepth 100000
end Go.Proofs.YtamachahlhlhlaaDoor.Eng
set_option linter.unusedVariables false
set_option linter.unusedSimpArgs false
namespace Go.Proofs.YtamachahlhlhlaaDoor.Eng
open Go Go.RowKit
set_option maxRecDepth 100000
end Go.Proofs.YtamachahlhlhlaaDoor.Eng
set_option linter.unusedVariables false
set_option linter.unusedSimpArgs false
namespace Go.Proofs.YtamachahlhlhlaaDoor.Eng
open Go Go.RowKit
set_option maxRecDepth 100000
end Go.Proofs.YtamachahlhlhlaaDoor.Eng
set_option linter.unusedVariables false
set_option linter.unusedSimpArgs false
namespace Go.Proofs.YtamachahlhlhlaaDoor.Eng
open Go Go.RowKit
set_option maxRecDepth 100000
end Go.Proofs.YtamachahlhlhlaaDoor.Eng
set_option linter.unusedVariables false
set_option linter.unusedSimpArgs false
namespace Go.Proofs.YtamachahlhlhlaaDoor.Eng
open Go Go.RowKit
set_option maxRecDepth 100000
end Go.Proofs.YtamachahlhlhlaaDoor.Eng
set_option linter.unusedVariables false
set_option linter.unusedSimpArgs false
namespace Go.Proofs.YtamachahlhlhlaaDoor.Eng
open Go Go.RowKit
set_option maxRecDepth 100000
end Go.Proofs.YtamachahlhlhlaaDoor.Eng
set_option linter.unusedVariables false
set_option linter.unusedSimpArgs false
namespace Go.Proofs.YtamachahlhlhlaaDoor.Eng
open Go Go.RowKit
set_option maxRecDepth 100000
end Go.Proofs.YtamachahlhlhlaaDoor.Eng
set_option linter.unusedVariables false
set_option linter.unusedSimpArgs false
namespace Go.Proofs.YtamachahlhlhlaaDoor.Eng
open Go Go.RowKit
set_option maxRecDepth 100000
def s_eqShot : Spec := fun args S => match args, S with
  | [.agg [.int .i64 i, .int .i64 wp, .int .i64 wq, .int .i64 sp, .int .i64 sq], .agg [.int .i64 i', .int .i64 wp', .int .i64 wq', .int .i64 sp', .int .i64 sq']], [] => ⟨True, .bool (decide (i = i' ∧ wp = wp' ∧ wq = wq' ∧ sp = sp' ∧ sq = sq')), []⟩
  | _, _ => noSpec
theorem ok_eqShot : SpecOk Tryd.prog 32 s_eqShot := by
  intro args S h; unfold s_eqShot at h ⊢; (split at h <;> first | exact False.elim h | skip)
  dsimp only at h ⊢
  refine funW tabOk (E := [(33, s_eqFrac)]) ⟨ok_eqFrac, trivial⟩ [] (k := 0) (fn := Tryd.f32) rfl rfl rfl rfl rfl rfl ?_
  (repeat' ((try (conv => whnf)); first | (with_reducible first | refine And.intro ?_ ?_ | refine WX.of ?_) | exact zc | ((with_reducible refine VC.mk ?_); exact zw) | (with_reducible first | refine splitT ?_ | refine splitF ?_) | ((with_reducible refine splitM.mk (fun hsm => ?_) (fun hsm => ?_)) <;> (try exact zx)) | ((with_reducible refine splitB.mk (fun h => ?_) (fun h => ?_)) <;> (try simp only [zs, ne_eq] at h) <;> (try simp (disch := omega) only [w64] at h) <;> (try exact zx)) | (with_reducible intro hz; (try exact absurd hz (Nat.succ_ne_zero _)))))
  all_goals (refine ⟨?_⟩; simp_all)
def s_eqReport : Spec := fun args S => match args, S with
  | [.agg [.int .i64 i, .int .i64 wp, .int .i64 wq, .int .i64 sp, .int .i64 sq, .int .i64 fp, .int .i64 fq, .int .i64 kp, .int .i64 kq, .int .i64 lp, .int .i64 lq, .int .i64 ap, .int .i64 aq, .int .i64 zp, .int .i64 zq], .agg [.int .i64 i', .int .i64 wp', .int .i64 wq', .int .i64 sp', .int .i64 sq', .int .i64 fp', .int .i64 fq', .int .i64 kp', .int .i64 kq', .int .i64 lp', .int .i64 lq', .int .i64 ap', .int .i64 aq', .int .i64 zp', .int .i64 zq']], [] => ⟨True, .bool (decide (((i, (wp, wq), sp, sq), (fp, fq), (kp, kq), (lp, lq), (ap, aq), zp, zq) = (((i', (wp', wq'), sp', sq'), (fp', fq'), (kp', kq'), (lp', lq'), (ap', aq'), zp', zq') : RpT))), []⟩
  | _, _ => noSpec
set_option maxHeartbeats 3200000 in
theorem ok_eqReport : SpecOk Tryd.prog 12 s_eqReport := by
  intro args S h; unfold s_eqReport at h ⊢; (split at h <;> first | exact False.elim h | skip)
  dsimp only at h ⊢
  refine funW tabOk (E := [(32, s_eqShot), (33, s_eqFrac), (34, s_eqSpan)]) ⟨ok_eqShot, ok_eqFrac, ok_eqSpan, trivial⟩ [] (k := 0) (fn := Tryd.f12) rfl rfl rfl rfl rfl rfl ?_
  (repeat' ((try (conv => whnf)); first | (with_reducible first | refine And.intro ?_ ?_ | refine WX.of ?_) | exact zc | ((with_reducible refine VC.mk ?_); exact zw) | (with_reducible first | refine splitT ?_ | refine splitF ?_) | ((with_reducible refine splitM.mk (fun hsm => ?_) (fun hsm => ?_)) <;> (try exact zx)) | ((with_reducible refine splitB.mk (fun h => ?_) (fun h => ?_)) <;> (try simp only [zs, ne_eq] at h) <;> (try simp (disch := omega) only [w64] at h) <;> (try exact zx)) | (with_reducible intro hz; (try exact absurd hz (Nat.succ_ne_zero _)))))
  all_goals (refine ⟨?_⟩; simp_all)
instance decRpE : DecidableEq (ET.T (.prod (.prod (.int .i64) (.prod (.prod (.int .i64) (.int .i64)) (.prod (.int .i64) (.int .i64)))) (.prod (.prod (.int .i64) (.int .i64)) (.prod (.prod (.int .i64) (.int .i64)) (.prod (.prod (.int .i64) (.int .i64)) (.prod (.prod (.int .i64) (.int .i64)) (.prod (.int .i64) (.int .i64)))))))) := fun a b => @instDecidableEqProd ShT _ inferInstance inferInstance a b
end Go.Proofs.YtamachahlhlhlaaDoor.Eng
set_option linter.unusedVariables false
set_option linter.unusedSimpArgs false
namespace Go.Proofs.YtamachahlhlhlaaDoor.Eng
open Go Go.RowKit
set_option maxRecDepth 100000
theorem law_readReport {t : List UInt8} (ho : t.length ≤ 9223372036854775807) : RunsS Tryd.prog 4 [.str t] [] (.bool true) [] := by
  by_cases hl : t.length ≤ 1048576
  rotate_left 1
  · refine funW tabOk (E := []) trivial [] (k := 0) (fn := Tryd.f4) rfl rfl rfl rfl rfl rfl ?_
    (repeat' ((try (conv => whnf)); first | (with_reducible first | refine And.intro ?_ ?_ | refine WX.of ?_) | exact zc | ((with_reducible refine VC.mk ?_); exact zw) | (with_reducible first | refine splitT ?_ | refine splitF ?_) | ((with_reducible refine splitM.mk (fun hsm => ?_) (fun hsm => ?_)) <;> (try exact zx)) | ((with_reducible refine splitB.mk (fun h => ?_) (fun h => ?_)) <;> (try simp only [zs, ne_eq] at h) <;> (try simp (disch := omega) only [w64] at h) <;> (try exact zx)) | (with_reducible intro hz; (try exact absurd hz (Nat.succ_ne_zero _)))))
  · refine funW tabOk (E := [(10, s_rdRp), (11, s_rdRp), (12, s_eqReport)]) ⟨ok_ReadReportS, ok_ReadReportI, ok_eqReport, trivial⟩ [] (k := 0) (fn := Tryd.f4) rfl rfl rfl rfl rfl rfl ?_
    (repeat' ((try dsimp only); (try (conv => whnf)); first | (with_reducible first | refine And.intro ?_ ?_ | refine WX.of ?_) | exact zc | ((with_reducible refine VC.mk ?_); exact zw) | ((with_reducible refine VC.mk ?_); exact hl) | (with_reducible first | refine splitT ?_ | refine splitF ?_) | ((with_reducible refine splitM.mk (fun hsm => ?_) (fun hsm => ?_)) <;> (try exact zx)) | ((with_reducible refine splitB.mk (fun h => ?_) (fun h => ?_)) <;> (try simp only [zs, ne_eq] at h) <;> (try simp (disch := omega) only [w64] at h) <;> (try exact zx)) | (with_reducible intro hz; (try exact absurd hz (Nat.succ_ne_zero _)))))
end Go.Proofs.YtamachahlhlhlaaDoor.Eng
