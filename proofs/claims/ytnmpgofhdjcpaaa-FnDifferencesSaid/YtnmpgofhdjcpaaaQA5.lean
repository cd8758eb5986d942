/- Lemmas for the proof, no conditions of their own. -/
import Derived.Test.YtnmpgofhdjcpaaaQA4
set_option linter.unusedVariables false
set_option linter.unusedSimpArgs false
namespace Go.Proofs.Ytnmpgofhdjcpaaa.Eng
open Go Go.RowKit
set_option maxRecDepth 100000
def s_nms : Spec := fun args S => match args, S with
  | [], [] => ⟨True, .sl 0 0 8 0, [.arr .str nmL 1 true]⟩
  | _, _ => noSpec
theorem ok_l05Names : SpecOk Try.prog 78 s_nms := by
  intro args S h; unfold s_nms at h ⊢; (split at h <;> first | exact False.elim h | skip)
  dsimp only at h ⊢
  refine funW tabOk (E := []) trivial [] (k := 0) (fn := Try.f78) rfl rfl rfl rfl rfl rfl ?_
  (repeat' ((try (conv => whnf)); first | (with_reducible first | refine And.intro ?_ ?_ | refine WX.of ?_) | exact zc | ((with_reducible refine VC.mk ?_); exact zw) | (with_reducible first | refine splitT ?_ | refine splitF ?_) | ((with_reducible refine splitM.mk (fun hsm => ?_) (fun hsm => ?_)) <;> (try exact zx)) | ((with_reducible refine splitB.mk (fun h => ?_) (fun h => ?_)) <;> (try simp only [zs, ne_eq] at h) <;> (try simp (disch := omega) only [w64] at h) <;> (try exact zx)) | (with_reducible intro hz; (try exact absurd hz (Nat.succ_ne_zero _)))))
def s_minI : Spec := fun args S => match args, S with
  | [.int .i64 a, .int .i64 b], [] => ⟨True, .int .i64 (min a b), []⟩
  | _, _ => noSpec
theorem ok_l00Min : SpecOk Try.prog 85 s_minI := by
  intro args S h; unfold s_minI at h ⊢; (split at h <;> first | exact False.elim h | skip)
  dsimp only at h ⊢
  refine funW tabOk (E := []) trivial [] (k := 0) (fn := Try.f85) rfl rfl rfl rfl rfl rfl ?_
  (repeat' ((try (conv => whnf)); first | (with_reducible first | refine And.intro ?_ ?_ | refine WX.of ?_) | exact zc | ((with_reducible refine VC.mk ?_); exact zw) | (with_reducible first | refine splitT ?_ | refine splitF ?_) | ((with_reducible refine splitM.mk (fun hsm => ?_) (fun hsm => ?_)) <;> (try exact zx)) | ((with_reducible refine splitB.mk (fun h => ?_) (fun h => ?_)) <;> (try simp only [zs, ne_eq] at h) <;> (try simp (disch := omega) only [w64] at h) <;> (try exact zx)) | (with_reducible intro hz; (try exact absurd hz (Nat.succ_ne_zero _)))))
  all_goals (refine ⟨congrArg (SV.int .i64) ?_⟩; omega)
theorem dwS_t (L : List Int) : ∀ k, 0 ≤ (dwS L k).1 ∧ (dwS L k).1 ≤ 1 + 20 * (k : Int)
  | 0 => by simp [dwS]
  | k + 1 => by
    have ih := dwS_t L k
    simp only [dwS]
    generalize (dwS L k).1 = t at *
    generalize (dwS L k).2 = A at *
    unfold dwTn
    have h1 := pickA_b (t := t) (n := (k : Int) + 1) ih.1
    have e1 : dwT1 t k = pickA t ((k : Int) + 1) := rfl
    have h2 := pickA_b (t := dwT1 t k + 4) (n := 2) (by omega)
    have h3 : 0 ≤ dwT3 L (dwT1 t k + 4) ∧ dwT3 L (dwT1 t k + 4) ≤ dwT1 t k + 8 := by unfold dwT3; split <;> omega
    have h4 := pickA_b (t := dwT3 L (dwT1 t k + 4)) (n := 20) h3.1
    have h5 := pickA_b (t := pickA (dwT3 L (dwT1 t k + 4)) 20) (n := dwN60 A (dwFr L t k)) (by omega)
    have h6 : 0 ≤ dwT5 (dwT3 L (dwT1 t k + 4)) A (dwFr L t k) ∧ dwT5 (dwT3 L (dwT1 t k + 4)) A (dwFr L t k) ≤ dwT3 L (dwT1 t k + 4) + 4 := by unfold dwT5; split <;> omega
    have h7 := pickA_b (t := dwT5 (dwT3 L (dwT1 t k + 4)) A (dwFr L t k)) (n := 6) h6.1
    omega
theorem cellT {cv : SV} {L : List Int} {z z' : Int} (h : z = z') : [cv, SV.int .i64 z, SV.int .u64 (sdI L z)] = [cv, SV.int .i64 z', SV.int .u64 (sdI L z')] := by subst h; rfl
theorem rowX {A : List StT} {i : Nat} {x y : StT} (h : A.length = i) (e : x = y) : seg A 0 i ++ seg [x] 0 1 = A ++ [y] := by
  rw [seg_full h, e]; rfl
def s_dwn : Spec := fun args S => match args, S with
  | [.ptr 0 0 0], [.box [cv, .int .i64 t, .int .u64 sd] true false, rb] => ⟨codP 1 cv rb ∧ t = 0 ∧ sd = 0, .sl 2 0 (dwC (codL cv rb)) 0, [.box [cv, .int .i64 (dwS (codL cv rb) (dwC (codL cv rb))).1, .int .u64 (sdI (codL cv rb) (dwS (codL cv rb) (dwC (codL cv rb))).1)] true false, rb, .arr (.prod .str (.prod (.int .i64) (.prod (.prod (.prod (.int .i64) (.int .i64)) (.prod (.int .i64) (.int .i64))) (.prod (.prod (.int .i64) (.int .i64)) (.prod (.int .i64) (.int .i64)))))) (dwCh (codL cv rb)) 10 true]⟩
  | _, _ => noSpec
set_option maxHeartbeats 12800000 in
theorem ok_l05Drawn : SpecOk Try.prog 35 s_dwn := by
  intro args S h; unfold s_dwn at h ⊢; (split at h <;> first | exact False.elim h | skip)
  dsimp only at h ⊢
  rename_i cv t sd rb
  obtain ⟨hc, rfl, rfl⟩ := h
  have hb := cod_b hc
  have hC := dwC_b hb
  rcases codP_c hc with ⟨c, m, q, rfl, rfl, e, h3⟩ | ⟨s, m, y, q, wq, rfl, rfl, e, h3⟩
  · have hCw : IntKind.i64.wrap (1 + pickV (codL (.opt c 1 m 0) (.arrO (.int .u8) q 1)) 0 6) = (dwC (codL (.opt c 1 m 0) (.arrO (.int .u8) q 1)) : Int) := by rw [hC.2.2]; exact w64 (by omega)
    have hpk0 := pickA_b (t := 0) (n := 6) (Int.le_refl _)
    refine funW tabOk (E := [(78, s_nms), (79, s_pick), (82, s_oneS), (86, s_among), (81, s_btD), (83, s_smD), (84, s_neg), (80, s_num), (85, s_minI)]) ⟨ok_l05Names, ok_pick, ok_oneS, ok_among, ok_l05Between, ok_l05Small, ok_l01Neg, ok_l01Whole, ok_l00Min, trivial⟩ [(6, [(4, 1), (13, 0)]), (16, [(3, 1), (3, 2)])] (k := 2) (fn := Try.f35) rfl rfl rfl rfl rfl rfl ?_
    (repeat' ((try (conv => whnf)); first | (with_reducible first | refine And.intro ?_ ?_ | refine WX.of ?_) | exact zc | ((with_reducible refine VC.mk ?_); exact zw) | ((with_reducible refine VC.mk ?_); exact ⟨⟨⟨⟨rfl, h3⟩, by decide, rfl⟩, by decide⟩, by decide⟩) | (with_reducible first | refine splitT ?_ | refine splitF ?_) | ((with_reducible refine splitM.mk (fun hsm => ?_) (fun hsm => ?_)) <;> (try exact zx)) | ((with_reducible refine splitB.mk (fun h => ?_) (fun h => ?_)) <;> (try simp only [zs, ne_eq] at h) <;> (try simp (disch := omega) only [w64] at h) <;> (try exact zx)) | (with_reducible intro hz; (try exact absurd hz (Nat.succ_ne_zero _)))))
    refine loopW tabOk (E := [(78, s_nms), (79, s_pick), (82, s_oneS), (86, s_among), (81, s_btD), (83, s_smD), (84, s_neg), (80, s_num), (85, s_minI)]) ⟨ok_l05Names, ok_pick, ok_oneS, ok_among, ok_l05Between, ok_l05Small, ok_l01Neg, ok_l01Whole, ok_l00Min, trivial⟩ [(6, [(4, 1), (13, 0)]), (16, [(3, 1), (3, 2)])] (σ := Nat) (fun i => [(0, .ptr 0 0 0), (3, .sl 2 0 i 0), (4, .sl 3 0 8 0), (5, .int .i64 ((dwC (codL (.opt c 1 m 0) (.arrO (.int .u8) q 1)) : Int) - i))]) (fun i => [.box [.opt c 1 m 0, .int .i64 (dwS (codL (.opt c 1 m 0) (.arrO (.int .u8) q 1)) i).1, .int .u64 (sdI (codL (.opt c 1 m 0) (.arrO (.int .u8) q 1)) (dwS (codL (.opt c 1 m 0) (.arrO (.int .u8) q 1)) i).1)] true false, .arrO (.int .u8) q 1, .arr (.prod .str (.prod (.int .i64) (.prod (.prod (.prod (.int .i64) (.int .i64)) (.prod (.int .i64) (.int .i64))) (.prod (.prod (.int .i64) (.int .i64)) (.prod (.int .i64) (.int .i64)))))) (dwS (codL (.opt c 1 m 0) (.arrO (.int .u8) q 1)) i).2 10 true, .arr .str nmL 1 true]) (fun i => dwC (codL (.opt c 1 m 0) (.arrO (.int .u8) q 1)) - i) (fun i => i ≤ dwC (codL (.opt c 1 m 0) (.arrO (.int .u8) q 1))) 0 (Nat.zero_le _) ?_ ?_
    · (repeat' ((try (conv => whnf)); first | (with_reducible first | refine And.intro ?_ ?_ | refine WX.of ?_) | exact zc | ((with_reducible refine VC.mk ?_); exact zw) | (with_reducible first | refine splitT ?_ | refine splitF ?_) | ((with_reducible refine splitM.mk (fun hsm => ?_) (fun hsm => ?_)) <;> (try exact zx)) | ((with_reducible refine splitB.mk (fun h => ?_) (fun h => ?_)) <;> (try simp only [zs, ne_eq] at h) <;> (try simp (disch := omega) only [w64] at h) <;> (try exact zx)) | (with_reducible intro hz; (try exact absurd hz (Nat.succ_ne_zero _)))))
    · intro i hi
      have hlenA : ((dwS (codL (.opt c 1 m 0) (.arrO (.int .u8) q 1)) i).2).length = i := dwS_len _ i
      have hTb := dwS_t (codL (.opt c 1 m 0) (.arrO (.int .u8) q 1)) i
      have htw := dwS_tw hb i
      by_cases hlt : i < dwC (codL (.opt c 1 m 0) (.arrO (.int .u8) q 1))
      · have hw1 : IntKind.i64.wrap ((i : Int) + 1) = (i : Int) + 1 := w64 (by omega)
        have hnm : nmL[i]? = some (nmK i) := by
          obtain ⟨a, ha⟩ := get_some (l := nmL) (i := i) (by show i < 8; omega)
          unfold nmK; rw [ha]; rfl
        have hpv := pickV_b hb (dwS (codL (.opt c 1 m 0) (.arrO (.int .u8) q 1)) i).1 (IntKind.i64.wrap ((i : Int) + 1))
        have hpv2 := hpv.2 (by omega)
        have hFR : IntKind.i64.wrap (pickV (codL (.opt c 1 m 0) (.arrO (.int .u8) q 1)) (dwS (codL (.opt c 1 m 0) (.arrO (.int .u8) q 1)) i).1 (IntKind.i64.wrap ((i : Int) + 1)) - 1) = dwFr (codL (.opt c 1 m 0) (.arrO (.int .u8) q 1)) (dwS (codL (.opt c 1 m 0) (.arrO (.int .u8) q 1)) i).1 i := by
          have e2 : dwFr (codL (.opt c 1 m 0) (.arrO (.int .u8) q 1)) (dwS (codL (.opt c 1 m 0) (.arrO (.int .u8) q 1)) i).1 i = pickV (codL (.opt c 1 m 0) (.arrO (.int .u8) q 1)) (dwS (codL (.opt c 1 m 0) (.arrO (.int .u8) q 1)) i).1 (IntKind.i64.wrap ((i : Int) + 1)) - 1 := by unfold dwFr; rw [hw1]
          rw [e2]; exact w64 (by omega)
        have hFb : -1 ≤ dwFr (codL (.opt c 1 m 0) (.arrO (.int .u8) q 1)) (dwS (codL (.opt c 1 m 0) (.arrO (.int .u8) q 1)) i).1 i ∧ dwFr (codL (.opt c 1 m 0) (.arrO (.int .u8) q 1)) (dwS (codL (.opt c 1 m 0) (.arrO (.int .u8) q 1)) i).1 i < (i : Int) := by
          rw [← hFR, w64 (by omega)]; omega
        have eP1 : (pickA (dwS (codL (.opt c 1 m 0) (.arrO (.int .u8) q 1)) i).1 (IntKind.i64.wrap ((i : Int) + 1))) = dwT1 (dwS (codL (.opt c 1 m 0) (.arrO (.int .u8) q 1)) i).1 i := by rw [hw1]; rfl
        have hA1 := pickA_b (t := (dwS (codL (.opt c 1 m 0) (.arrO (.int .u8) q 1)) i).1) (n := IntKind.i64.wrap ((i : Int) + 1)) hTb.1
        have hA2 := pickA_b (t := (pickA (dwS (codL (.opt c 1 m 0) (.arrO (.int .u8) q 1)) i).1 (IntKind.i64.wrap ((i : Int) + 1))) + 4) (n := 2) (by omega)
        have hlo := smW_b hb (t := (pickA (dwS (codL (.opt c 1 m 0) (.arrO (.int .u8) q 1)) i).1 (IntKind.i64.wrap ((i : Int) + 1)))) (most := 8) (by decide)
        by_cases h1 : pickV (codL (.opt c 1 m 0) (.arrO (.int .u8) q 1)) ((pickA (dwS (codL (.opt c 1 m 0) (.arrO (.int .u8) q 1)) i).1 (IntKind.i64.wrap ((i : Int) + 1))) + 4) 2 = 0
        · have k1 : decide (pickV (codL (.opt c 1 m 0) (.arrO (.int .u8) q 1)) ((pickA (dwS (codL (.opt c 1 m 0) (.arrO (.int .u8) q 1)) i).1 (IntKind.i64.wrap ((i : Int) + 1))) + 4) 2 = 0) = true := decide_eq_true h1
          have eT3 : dwT3 (codL (.opt c 1 m 0) (.arrO (.int .u8) q 1)) ((pickA (dwS (codL (.opt c 1 m 0) (.arrO (.int .u8) q 1)) i).1 (IntKind.i64.wrap ((i : Int) + 1))) + 4) = pickA ((pickA (dwS (codL (.opt c 1 m 0) (.arrO (.int .u8) q 1)) i).1 (IntKind.i64.wrap ((i : Int) + 1))) + 4) 2 + 2 := if_pos h1
          have hsb := smW_b hb (t := pickA ((pickA (dwS (codL (.opt c 1 m 0) (.arrO (.int .u8) q 1)) i).1 (IntKind.i64.wrap ((i : Int) + 1))) + 4) 2) (most := 3) (by decide)
          have hsg := tw_sgn (smW (codL (.opt c 1 m 0) (.arrO (.int .u8) q 1)) (pickA ((pickA (dwS (codL (.opt c 1 m 0) (.arrO (.int .u8) q 1)) i).1 (IntKind.i64.wrap ((i : Int) + 1))) + 4) 2) 3)
          have hs2 := smF_ok (tw_ok (x := smW (codL (.opt c 1 m 0) (.arrO (.int .u8) q 1)) (pickA ((pickA (dwS (codL (.opt c 1 m 0) (.arrO (.int .u8) q 1)) i).1 (IntKind.i64.wrap ((i : Int) + 1))) + 4) 2) 3) (by omega))
          by_cases h2 : smW (codL (.opt c 1 m 0) (.arrO (.int .u8) q 1)) (pickA ((pickA (dwS (codL (.opt c 1 m 0) (.arrO (.int .u8) q 1)) i).1 (IntKind.i64.wrap ((i : Int) + 1))) + 4) 2) 3 < 0
          · have k2 : decide ((tw (smW (codL (.opt c 1 m 0) (.arrO (.int .u8) q 1)) (pickA ((pickA (dwS (codL (.opt c 1 m 0) (.arrO (.int .u8) q 1)) i).1 (IntKind.i64.wrap ((i : Int) + 1))) + 4) 2) 3)).1 < 0) = true := decide_eq_true (hsg.1.2 h2)
            have eDr : tw (dwDr (codL (.opt c 1 m 0) (.arrO (.int .u8) q 1)) ((pickA (dwS (codL (.opt c 1 m 0) (.arrO (.int .u8) q 1)) i).1 (IntKind.i64.wrap ((i : Int) + 1))) + 4)) = (-(tw (smW (codL (.opt c 1 m 0) (.arrO (.int .u8) q 1)) (pickA ((pickA (dwS (codL (.opt c 1 m 0) (.arrO (.int .u8) q 1)) i).1 (IntKind.i64.wrap ((i : Int) + 1))) + 4) 2) 3)).1, (tw (smW (codL (.opt c 1 m 0) (.arrO (.int .u8) q 1)) (pickA ((pickA (dwS (codL (.opt c 1 m 0) (.arrO (.int .u8) q 1)) i).1 (IntKind.i64.wrap ((i : Int) + 1))) + 4) 2) 3)).2) := by unfold dwDr absI; rw [if_pos h1, if_pos h2, tw_neg]
            have hA4 := pickA_b (t := pickA ((pickA (dwS (codL (.opt c 1 m 0) (.arrO (.int .u8) q 1)) i).1 (IntKind.i64.wrap ((i : Int) + 1))) + 4) 2 + 2) (n := 20) (by omega)
            by_cases hf : 0 ≤ dwFr (codL (.opt c 1 m 0) (.arrO (.int .u8) q 1)) (dwS (codL (.opt c 1 m 0) (.arrO (.int .u8) q 1)) i).1 i
            · have k3 : decide (0 ≤ IntKind.i64.wrap (pickV (codL (.opt c 1 m 0) (.arrO (.int .u8) q 1)) (dwS (codL (.opt c 1 m 0) (.arrO (.int .u8) q 1)) i).1 (IntKind.i64.wrap ((i : Int) + 1)) - 1)) = true := by rw [hFR]; exact decide_eq_true hf
              obtain ⟨p, hp⟩ := get_some (l := (dwS (codL (.opt c 1 m 0) (.arrO (.int .u8) q 1)) i).2) (i := (dwFr (codL (.opt c 1 m 0) (.arrO (.int .u8) q 1)) (dwS (codL (.opt c 1 m 0) (.arrO (.int .u8) q 1)) i).1 i).toNat) (by omega)
              have hpg := htw _ _ hp
              have hgd := hpg.gd
              have hmd := hpg.md
              obtain ⟨nm0, fr0, ⟨⟨p0, q0⟩, p0', q0'⟩, ⟨dp0, dq0⟩, md0, gd0⟩ := p
              dsimp only at hgd hmd
              have hst : stAt ((dwS (codL (.opt c 1 m 0) (.arrO (.int .u8) q 1)) i).2) (dwFr (codL (.opt c 1 m 0) (.arrO (.int .u8) q 1)) (dwS (codL (.opt c 1 m 0) (.arrO (.int .u8) q 1)) i).1 i) = (nm0, fr0, ((p0, q0), p0', q0'), (dp0, dq0), md0, gd0) := stAt_z hp
              have hn60 : IntKind.i64.wrap (min gd0 60 + 1) = dwN60 ((dwS (codL (.opt c 1 m 0) (.arrO (.int .u8) q 1)) i).2) (dwFr (codL (.opt c 1 m 0) (.arrO (.int .u8) q 1)) (dwS (codL (.opt c 1 m 0) (.arrO (.int .u8) q 1)) i).1 i) := by unfold dwN60; rw [hst]; exact w64 (by omega)
              have hn6b : 1 ≤ dwN60 ((dwS (codL (.opt c 1 m 0) (.arrO (.int .u8) q 1)) i).2) (dwFr (codL (.opt c 1 m 0) (.arrO (.int .u8) q 1)) (dwS (codL (.opt c 1 m 0) (.arrO (.int .u8) q 1)) i).1 i) ∧ dwN60 ((dwS (codL (.opt c 1 m 0) (.arrO (.int .u8) q 1)) i).2) (dwFr (codL (.opt c 1 m 0) (.arrO (.int .u8) q 1)) (dwS (codL (.opt c 1 m 0) (.arrO (.int .u8) q 1)) i).1 i) ≤ 61 := by rw [← hn60, w64 (by omega)]; omega
              have hn6c : IntKind.i64.wrap (min gd0 60 + 1) ≤ 1000000000 := by rw [hn60]; omega
              have hv5 := pickV_b hb (pickA (pickA ((pickA (dwS (codL (.opt c 1 m 0) (.arrO (.int .u8) q 1)) i).1 (IntKind.i64.wrap ((i : Int) + 1))) + 4) 2 + 2) 20) (IntKind.i64.wrap (min gd0 60 + 1))
              have hv6 := hv5.2 (by rw [hn60]; omega)
              have hmw : IntKind.i64.wrap (md0 + pickV (codL (.opt c 1 m 0) (.arrO (.int .u8) q 1)) (pickA (pickA ((pickA (dwS (codL (.opt c 1 m 0) (.arrO (.int .u8) q 1)) i).1 (IntKind.i64.wrap ((i : Int) + 1))) + 4) 2 + 2) 20) (IntKind.i64.wrap (min gd0 60 + 1))) = md0 + pickV (codL (.opt c 1 m 0) (.arrO (.int .u8) q 1)) (pickA (pickA ((pickA (dwS (codL (.opt c 1 m 0) (.arrO (.int .u8) q 1)) i).1 (IntKind.i64.wrap ((i : Int) + 1))) + 4) 2 + 2) 20) (IntKind.i64.wrap (min gd0 60 + 1)) := w64 (by omega)
              have k4 : decide (100000 < IntKind.i64.wrap (md0 + pickV (codL (.opt c 1 m 0) (.arrO (.int .u8) q 1)) (pickA (pickA ((pickA (dwS (codL (.opt c 1 m 0) (.arrO (.int .u8) q 1)) i).1 (IntKind.i64.wrap ((i : Int) + 1))) + 4) 2 + 2) 20) (IntKind.i64.wrap (min gd0 60 + 1)))) = false := by rw [hmw]; exact decide_eq_false (by omega)
              have hA5 := pickA_b (t := pickA (pickA ((pickA (dwS (codL (.opt c 1 m 0) (.arrO (.int .u8) q 1)) i).1 (IntKind.i64.wrap ((i : Int) + 1))) + 4) 2 + 2) 20) (n := IntKind.i64.wrap (min gd0 60 + 1)) (by omega)
              have hfb : 0 ≤ IntKind.i64.wrap (pickV (codL (.opt c 1 m 0) (.arrO (.int .u8) q 1)) (dwS (codL (.opt c 1 m 0) (.arrO (.int .u8) q 1)) i).1 (IntKind.i64.wrap ((i : Int) + 1)) - 1) ∧ IntKind.i64.wrap (pickV (codL (.opt c 1 m 0) (.arrO (.int .u8) q 1)) (dwS (codL (.opt c 1 m 0) (.arrO (.int .u8) q 1)) i).1 (IntKind.i64.wrap ((i : Int) + 1)) - 1) < ((i : Nat) : Int) := by rw [hFR]; omega
              have hfn : 0 + (IntKind.i64.wrap (pickV (codL (.opt c 1 m 0) (.arrO (.int .u8) q 1)) (dwS (codL (.opt c 1 m 0) (.arrO (.int .u8) q 1)) i).1 (IntKind.i64.wrap ((i : Int) + 1)) - 1)).toNat = (dwFr (codL (.opt c 1 m 0) (.arrO (.int .u8) q 1)) (dwS (codL (.opt c 1 m 0) (.arrO (.int .u8) q 1)) i).1 i).toNat := by rw [hFR]; omega
              (repeat' ((try dsimp only); (try (conv => whnf)); first | (with_reducible first | refine And.intro ?_ ?_ | refine WX.of ?_) | exact zc | ((with_reducible refine VC.mk ?_); exact zw) | with_reducible refine atL_0 hnm ?_ | refine atL_q hp hfn ?_ | ((with_reducible refine VC.mk ?_); exact hfb) | ((with_reducible refine VC.mk ?_); exact hs2) | ((with_reducible refine VC.mk ?_); exact ⟨⟨⟨⟨rfl, h3⟩, by omega, rfl⟩, by omega⟩, by omega⟩) | ((with_reducible refine VC.mk ?_); exact ⟨⟨⟨⟨rfl, h3⟩, by omega, rfl⟩, by omega⟩, by decide⟩) | ((with_reducible refine VC.mk ?_); exact ⟨⟨⟨⟨rfl, h3⟩, by omega, rfl⟩, by omega⟩, by decide, by decide⟩) | ((with_reducible refine VC.mk ?_); exact ⟨⟨⟨⟨rfl, h3⟩, by omega, rfl⟩, by omega⟩, rfl, by decide, by decide⟩) | ((with_reducible refine splitT_of ?_ ?_); (focus (simp only [k1, k2, k3, k4, Bool.not_true, Bool.not_false, decide_true, decide_false]; done))) | ((with_reducible refine splitF_of ?_ ?_); (focus (simp only [k1, k2, k3, k4, Bool.not_true, Bool.not_false, decide_true, decide_false]; done))) | (with_reducible first | refine splitT ?_ | refine splitF ?_) | ((with_reducible refine splitM.mk (fun hsm => ?_) (fun hsm => ?_)) <;> (try exact zx)) | ((with_reducible refine splitB.mk (fun h => ?_) (fun h => ?_)) <;> (try simp only [zs, ne_eq] at h) <;> (try simp (disch := omega) only [w64] at h) <;> (try exact zx)) | (with_reducible intro hz; (try exact absurd hz (Nat.succ_ne_zero _)))))
              have eT5 : dwT5 (pickA ((pickA (dwS (codL (.opt c 1 m 0) (.arrO (.int .u8) q 1)) i).1 (IntKind.i64.wrap ((i : Int) + 1))) + 4) 2 + 2) ((dwS (codL (.opt c 1 m 0) (.arrO (.int .u8) q 1)) i).2) (dwFr (codL (.opt c 1 m 0) (.arrO (.int .u8) q 1)) (dwS (codL (.opt c 1 m 0) (.arrO (.int .u8) q 1)) i).1 i) = pickA (pickA (pickA ((pickA (dwS (codL (.opt c 1 m 0) (.arrO (.int .u8) q 1)) i).1 (IntKind.i64.wrap ((i : Int) + 1))) + 4) 2 + 2) 20) (IntKind.i64.wrap (min gd0 60 + 1)) := by unfold dwT5; rw [if_pos hf, hn60]
              have eMd : dwMd (codL (.opt c 1 m 0) (.arrO (.int .u8) q 1)) (pickA ((pickA (dwS (codL (.opt c 1 m 0) (.arrO (.int .u8) q 1)) i).1 (IntKind.i64.wrap ((i : Int) + 1))) + 4) 2 + 2) ((dwS (codL (.opt c 1 m 0) (.arrO (.int .u8) q 1)) i).2) (dwFr (codL (.opt c 1 m 0) (.arrO (.int .u8) q 1)) (dwS (codL (.opt c 1 m 0) (.arrO (.int .u8) q 1)) i).1 i) = IntKind.i64.wrap (md0 + pickV (codL (.opt c 1 m 0) (.arrO (.int .u8) q 1)) (pickA (pickA ((pickA (dwS (codL (.opt c 1 m 0) (.arrO (.int .u8) q 1)) i).1 (IntKind.i64.wrap ((i : Int) + 1))) + 4) 2 + 2) 20) (IntKind.i64.wrap (min gd0 60 + 1))) := by unfold dwMd; rw [if_pos hf, hst, hmw, hn60]
              have eTn : dwTn (codL (.opt c 1 m 0) (.arrO (.int .u8) q 1)) (dwS (codL (.opt c 1 m 0) (.arrO (.int .u8) q 1)) i).1 i ((dwS (codL (.opt c 1 m 0) (.arrO (.int .u8) q 1)) i).2) = pickA (pickA (pickA (pickA ((pickA (dwS (codL (.opt c 1 m 0) (.arrO (.int .u8) q 1)) i).1 (IntKind.i64.wrap ((i : Int) + 1))) + 4) 2 + 2) 20) (IntKind.i64.wrap (min gd0 60 + 1))) 6 := by unfold dwTn; rw [← eP1, eT3, eT5]
              have eX : dwSt (codL (.opt c 1 m 0) (.arrO (.int .u8) q 1)) (dwS (codL (.opt c 1 m 0) (.arrO (.int .u8) q 1)) i).1 i ((dwS (codL (.opt c 1 m 0) (.arrO (.int .u8) q 1)) i).2) = (nmK i, IntKind.i64.wrap (pickV (codL (.opt c 1 m 0) (.arrO (.int .u8) q 1)) (dwS (codL (.opt c 1 m 0) (.arrO (.int .u8) q 1)) i).1 (IntKind.i64.wrap ((i : Int) + 1)) - 1), (tw (smW (codL (.opt c 1 m 0) (.arrO (.int .u8) q 1)) (pickA (dwS (codL (.opt c 1 m 0) (.arrO (.int .u8) q 1)) i).1 (IntKind.i64.wrap ((i : Int) + 1))) 8), tw (smW (codL (.opt c 1 m 0) (.arrO (.int .u8) q 1)) (pickA (dwS (codL (.opt c 1 m 0) (.arrO (.int .u8) q 1)) i).1 (IntKind.i64.wrap ((i : Int) + 1))) 8 + absI (smW (codL (.opt c 1 m 0) (.arrO (.int .u8) q 1)) ((pickA (dwS (codL (.opt c 1 m 0) (.arrO (.int .u8) q 1)) i).1 (IntKind.i64.wrap ((i : Int) + 1))) + 2) 6))), tw (dwDr (codL (.opt c 1 m 0) (.arrO (.int .u8) q 1)) ((pickA (dwS (codL (.opt c 1 m 0) (.arrO (.int .u8) q 1)) i).1 (IntKind.i64.wrap ((i : Int) + 1))) + 4)), IntKind.i64.wrap (md0 + pickV (codL (.opt c 1 m 0) (.arrO (.int .u8) q 1)) (pickA (pickA ((pickA (dwS (codL (.opt c 1 m 0) (.arrO (.int .u8) q 1)) i).1 (IntKind.i64.wrap ((i : Int) + 1))) + 4) 2 + 2) 20) (IntKind.i64.wrap (min gd0 60 + 1))), amV (codL (.opt c 1 m 0) (.arrO (.int .u8) q 1)) (pickA (pickA (pickA ((pickA (dwS (codL (.opt c 1 m 0) (.arrO (.int .u8) q 1)) i).1 (IntKind.i64.wrap ((i : Int) + 1))) + 4) 2 + 2) 20) (IntKind.i64.wrap (min gd0 60 + 1))) [0, 5, 30, 60, 100, 365]) := by
                unfold dwSt; rw [← eP1, eT3, eT5, eMd, hFR]; rfl
              rw [eDr] at eX
              refine ⟨i + 1, by omega, by omega, ?_⟩
              (repeat' ((try (conv => whnf)); first | (with_reducible first | refine And.intro ?_ ?_ | refine WX.of ?_) | exact zc | ((with_reducible refine VC.mk ?_); exact zw) | ((with_reducible refine VC.mk ?_); exact cellT eTn) | ((with_reducible refine VC.mk ?_); exact rowX hlenA eX.symm) | (with_reducible first | refine splitT ?_ | refine splitF ?_) | ((with_reducible refine splitM.mk (fun hsm => ?_) (fun hsm => ?_)) <;> (try exact zx)) | ((with_reducible refine splitB.mk (fun h => ?_) (fun h => ?_)) <;> (try simp only [zs, ne_eq] at h) <;> (try simp (disch := omega) only [w64] at h) <;> (try exact zx)) | (with_reducible intro hz; (try exact absurd hz (Nat.succ_ne_zero _)))))
            · have k3 : decide (0 ≤ IntKind.i64.wrap (pickV (codL (.opt c 1 m 0) (.arrO (.int .u8) q 1)) (dwS (codL (.opt c 1 m 0) (.arrO (.int .u8) q 1)) i).1 (IntKind.i64.wrap ((i : Int) + 1)) - 1)) = false := by rw [hFR]; exact decide_eq_false hf
              have hv5 := pickV_b hb (pickA ((pickA (dwS (codL (.opt c 1 m 0) (.arrO (.int .u8) q 1)) i).1 (IntKind.i64.wrap ((i : Int) + 1))) + 4) 2 + 2) 20
              have hv6 := hv5.2 (by decide)
              have k4 : decide (100000 < pickV (codL (.opt c 1 m 0) (.arrO (.int .u8) q 1)) (pickA ((pickA (dwS (codL (.opt c 1 m 0) (.arrO (.int .u8) q 1)) i).1 (IntKind.i64.wrap ((i : Int) + 1))) + 4) 2 + 2) 20) = false := decide_eq_false (by omega)
              (repeat' ((try (conv => whnf)); first | (with_reducible first | refine And.intro ?_ ?_ | refine WX.of ?_) | exact zc | ((with_reducible refine VC.mk ?_); exact zw) | with_reducible refine atL_0 hnm ?_ | ((with_reducible refine VC.mk ?_); exact hs2) | ((with_reducible refine VC.mk ?_); exact ⟨⟨⟨⟨rfl, h3⟩, by omega, rfl⟩, by omega⟩, by omega⟩) | ((with_reducible refine VC.mk ?_); exact ⟨⟨⟨⟨rfl, h3⟩, by omega, rfl⟩, by omega⟩, by decide⟩) | ((with_reducible refine VC.mk ?_); exact ⟨⟨⟨⟨rfl, h3⟩, by omega, rfl⟩, by omega⟩, by decide, by decide⟩) | ((with_reducible refine VC.mk ?_); exact ⟨⟨⟨⟨rfl, h3⟩, by omega, rfl⟩, by omega⟩, rfl, by decide, by decide⟩) | ((with_reducible refine splitT_of ?_ ?_); (focus (simp only [k1, k2, k3, k4, Bool.not_true, Bool.not_false, decide_true, decide_false]; done))) | ((with_reducible refine splitF_of ?_ ?_); (focus (simp only [k1, k2, k3, k4, Bool.not_true, Bool.not_false, decide_true, decide_false]; done))) | (with_reducible first | refine splitT ?_ | refine splitF ?_) | ((with_reducible refine splitM.mk (fun hsm => ?_) (fun hsm => ?_)) <;> (try exact zx)) | ((with_reducible refine splitB.mk (fun h => ?_) (fun h => ?_)) <;> (try simp only [zs, ne_eq] at h) <;> (try simp (disch := omega) only [w64] at h) <;> (try exact zx)) | (with_reducible intro hz; (try exact absurd hz (Nat.succ_ne_zero _)))))
              have eT5 : dwT5 (pickA ((pickA (dwS (codL (.opt c 1 m 0) (.arrO (.int .u8) q 1)) i).1 (IntKind.i64.wrap ((i : Int) + 1))) + 4) 2 + 2) ((dwS (codL (.opt c 1 m 0) (.arrO (.int .u8) q 1)) i).2) (dwFr (codL (.opt c 1 m 0) (.arrO (.int .u8) q 1)) (dwS (codL (.opt c 1 m 0) (.arrO (.int .u8) q 1)) i).1 i) = pickA (pickA ((pickA (dwS (codL (.opt c 1 m 0) (.arrO (.int .u8) q 1)) i).1 (IntKind.i64.wrap ((i : Int) + 1))) + 4) 2 + 2) 20 := by unfold dwT5; rw [if_neg hf]
              have eMd : dwMd (codL (.opt c 1 m 0) (.arrO (.int .u8) q 1)) (pickA ((pickA (dwS (codL (.opt c 1 m 0) (.arrO (.int .u8) q 1)) i).1 (IntKind.i64.wrap ((i : Int) + 1))) + 4) 2 + 2) ((dwS (codL (.opt c 1 m 0) (.arrO (.int .u8) q 1)) i).2) (dwFr (codL (.opt c 1 m 0) (.arrO (.int .u8) q 1)) (dwS (codL (.opt c 1 m 0) (.arrO (.int .u8) q 1)) i).1 i) = pickV (codL (.opt c 1 m 0) (.arrO (.int .u8) q 1)) (pickA ((pickA (dwS (codL (.opt c 1 m 0) (.arrO (.int .u8) q 1)) i).1 (IntKind.i64.wrap ((i : Int) + 1))) + 4) 2 + 2) 20 := by unfold dwMd; rw [if_neg hf]
              have eTn : dwTn (codL (.opt c 1 m 0) (.arrO (.int .u8) q 1)) (dwS (codL (.opt c 1 m 0) (.arrO (.int .u8) q 1)) i).1 i ((dwS (codL (.opt c 1 m 0) (.arrO (.int .u8) q 1)) i).2) = pickA (pickA (pickA ((pickA (dwS (codL (.opt c 1 m 0) (.arrO (.int .u8) q 1)) i).1 (IntKind.i64.wrap ((i : Int) + 1))) + 4) 2 + 2) 20) 6 := by unfold dwTn; rw [← eP1, eT3, eT5]
              have eX : dwSt (codL (.opt c 1 m 0) (.arrO (.int .u8) q 1)) (dwS (codL (.opt c 1 m 0) (.arrO (.int .u8) q 1)) i).1 i ((dwS (codL (.opt c 1 m 0) (.arrO (.int .u8) q 1)) i).2) = (nmK i, IntKind.i64.wrap (pickV (codL (.opt c 1 m 0) (.arrO (.int .u8) q 1)) (dwS (codL (.opt c 1 m 0) (.arrO (.int .u8) q 1)) i).1 (IntKind.i64.wrap ((i : Int) + 1)) - 1), (tw (smW (codL (.opt c 1 m 0) (.arrO (.int .u8) q 1)) (pickA (dwS (codL (.opt c 1 m 0) (.arrO (.int .u8) q 1)) i).1 (IntKind.i64.wrap ((i : Int) + 1))) 8), tw (smW (codL (.opt c 1 m 0) (.arrO (.int .u8) q 1)) (pickA (dwS (codL (.opt c 1 m 0) (.arrO (.int .u8) q 1)) i).1 (IntKind.i64.wrap ((i : Int) + 1))) 8 + absI (smW (codL (.opt c 1 m 0) (.arrO (.int .u8) q 1)) ((pickA (dwS (codL (.opt c 1 m 0) (.arrO (.int .u8) q 1)) i).1 (IntKind.i64.wrap ((i : Int) + 1))) + 2) 6))), tw (dwDr (codL (.opt c 1 m 0) (.arrO (.int .u8) q 1)) ((pickA (dwS (codL (.opt c 1 m 0) (.arrO (.int .u8) q 1)) i).1 (IntKind.i64.wrap ((i : Int) + 1))) + 4)), pickV (codL (.opt c 1 m 0) (.arrO (.int .u8) q 1)) (pickA ((pickA (dwS (codL (.opt c 1 m 0) (.arrO (.int .u8) q 1)) i).1 (IntKind.i64.wrap ((i : Int) + 1))) + 4) 2 + 2) 20, amV (codL (.opt c 1 m 0) (.arrO (.int .u8) q 1)) (pickA (pickA ((pickA (dwS (codL (.opt c 1 m 0) (.arrO (.int .u8) q 1)) i).1 (IntKind.i64.wrap ((i : Int) + 1))) + 4) 2 + 2) 20) [0, 5, 30, 60, 100, 365]) := by
                unfold dwSt; rw [← eP1, eT3, eT5, eMd, hFR]; rfl
              rw [eDr] at eX
              refine ⟨i + 1, by omega, by omega, ?_⟩
              (repeat' ((try (conv => whnf)); first | (with_reducible first | refine And.intro ?_ ?_ | refine WX.of ?_) | exact zc | ((with_reducible refine VC.mk ?_); exact zw) | ((with_reducible refine VC.mk ?_); exact cellT eTn) | ((with_reducible refine VC.mk ?_); exact rowX hlenA eX.symm) | (with_reducible first | refine splitT ?_ | refine splitF ?_) | ((with_reducible refine splitM.mk (fun hsm => ?_) (fun hsm => ?_)) <;> (try exact zx)) | ((with_reducible refine splitB.mk (fun h => ?_) (fun h => ?_)) <;> (try simp only [zs, ne_eq] at h) <;> (try simp (disch := omega) only [w64] at h) <;> (try exact zx)) | (with_reducible intro hz; (try exact absurd hz (Nat.succ_ne_zero _)))))
          · have k2 : decide ((tw (smW (codL (.opt c 1 m 0) (.arrO (.int .u8) q 1)) (pickA ((pickA (dwS (codL (.opt c 1 m 0) (.arrO (.int .u8) q 1)) i).1 (IntKind.i64.wrap ((i : Int) + 1))) + 4) 2) 3)).1 < 0) = false := decide_eq_false fun h => h2 (hsg.1.1 h)
            have eDr : tw (dwDr (codL (.opt c 1 m 0) (.arrO (.int .u8) q 1)) ((pickA (dwS (codL (.opt c 1 m 0) (.arrO (.int .u8) q 1)) i).1 (IntKind.i64.wrap ((i : Int) + 1))) + 4)) = tw (smW (codL (.opt c 1 m 0) (.arrO (.int .u8) q 1)) (pickA ((pickA (dwS (codL (.opt c 1 m 0) (.arrO (.int .u8) q 1)) i).1 (IntKind.i64.wrap ((i : Int) + 1))) + 4) 2) 3) := by unfold dwDr absI; rw [if_pos h1, if_neg h2]
            have hA4 := pickA_b (t := pickA ((pickA (dwS (codL (.opt c 1 m 0) (.arrO (.int .u8) q 1)) i).1 (IntKind.i64.wrap ((i : Int) + 1))) + 4) 2 + 2) (n := 20) (by omega)
            by_cases hf : 0 ≤ dwFr (codL (.opt c 1 m 0) (.arrO (.int .u8) q 1)) (dwS (codL (.opt c 1 m 0) (.arrO (.int .u8) q 1)) i).1 i
            · have k3 : decide (0 ≤ IntKind.i64.wrap (pickV (codL (.opt c 1 m 0) (.arrO (.int .u8) q 1)) (dwS (codL (.opt c 1 m 0) (.arrO (.int .u8) q 1)) i).1 (IntKind.i64.wrap ((i : Int) + 1)) - 1)) = true := by rw [hFR]; exact decide_eq_true hf
              obtain ⟨p, hp⟩ := get_some (l := (dwS (codL (.opt c 1 m 0) (.arrO (.int .u8) q 1)) i).2) (i := (dwFr (codL (.opt c 1 m 0) (.arrO (.int .u8) q 1)) (dwS (codL (.opt c 1 m 0) (.arrO (.int .u8) q 1)) i).1 i).toNat) (by omega)
              have hpg := htw _ _ hp
              have hgd := hpg.gd
              have hmd := hpg.md
              obtain ⟨nm0, fr0, ⟨⟨p0, q0⟩, p0', q0'⟩, ⟨dp0, dq0⟩, md0, gd0⟩ := p
              dsimp only at hgd hmd
              have hst : stAt ((dwS (codL (.opt c 1 m 0) (.arrO (.int .u8) q 1)) i).2) (dwFr (codL (.opt c 1 m 0) (.arrO (.int .u8) q 1)) (dwS (codL (.opt c 1 m 0) (.arrO (.int .u8) q 1)) i).1 i) = (nm0, fr0, ((p0, q0), p0', q0'), (dp0, dq0), md0, gd0) := stAt_z hp
              have hn60 : IntKind.i64.wrap (min gd0 60 + 1) = dwN60 ((dwS (codL (.opt c 1 m 0) (.arrO (.int .u8) q 1)) i).2) (dwFr (codL (.opt c 1 m 0) (.arrO (.int .u8) q 1)) (dwS (codL (.opt c 1 m 0) (.arrO (.int .u8) q 1)) i).1 i) := by unfold dwN60; rw [hst]; exact w64 (by omega)
              have hn6b : 1 ≤ dwN60 ((dwS (codL (.opt c 1 m 0) (.arrO (.int .u8) q 1)) i).2) (dwFr (codL (.opt c 1 m 0) (.arrO (.int .u8) q 1)) (dwS (codL (.opt c 1 m 0) (.arrO (.int .u8) q 1)) i).1 i) ∧ dwN60 ((dwS (codL (.opt c 1 m 0) (.arrO (.int .u8) q 1)) i).2) (dwFr (codL (.opt c 1 m 0) (.arrO (.int .u8) q 1)) (dwS (codL (.opt c 1 m 0) (.arrO (.int .u8) q 1)) i).1 i) ≤ 61 := by rw [← hn60, w64 (by omega)]; omega
              have hn6c : IntKind.i64.wrap (min gd0 60 + 1) ≤ 1000000000 := by rw [hn60]; omega
              have hv5 := pickV_b hb (pickA (pickA ((pickA (dwS (codL (.opt c 1 m 0) (.arrO (.int .u8) q 1)) i).1 (IntKind.i64.wrap ((i : Int) + 1))) + 4) 2 + 2) 20) (IntKind.i64.wrap (min gd0 60 + 1))
              have hv6 := hv5.2 (by rw [hn60]; omega)
              have hmw : IntKind.i64.wrap (md0 + pickV (codL (.opt c 1 m 0) (.arrO (.int .u8) q 1)) (pickA (pickA ((pickA (dwS (codL (.opt c 1 m 0) (.arrO (.int .u8) q 1)) i).1 (IntKind.i64.wrap ((i : Int) + 1))) + 4) 2 + 2) 20) (IntKind.i64.wrap (min gd0 60 + 1))) = md0 + pickV (codL (.opt c 1 m 0) (.arrO (.int .u8) q 1)) (pickA (pickA ((pickA (dwS (codL (.opt c 1 m 0) (.arrO (.int .u8) q 1)) i).1 (IntKind.i64.wrap ((i : Int) + 1))) + 4) 2 + 2) 20) (IntKind.i64.wrap (min gd0 60 + 1)) := w64 (by omega)
              have k4 : decide (100000 < IntKind.i64.wrap (md0 + pickV (codL (.opt c 1 m 0) (.arrO (.int .u8) q 1)) (pickA (pickA ((pickA (dwS (codL (.opt c 1 m 0) (.arrO (.int .u8) q 1)) i).1 (IntKind.i64.wrap ((i : Int) + 1))) + 4) 2 + 2) 20) (IntKind.i64.wrap (min gd0 60 + 1)))) = false := by rw [hmw]; exact decide_eq_false (by omega)
              have hA5 := pickA_b (t := pickA (pickA ((pickA (dwS (codL (.opt c 1 m 0) (.arrO (.int .u8) q 1)) i).1 (IntKind.i64.wrap ((i : Int) + 1))) + 4) 2 + 2) 20) (n := IntKind.i64.wrap (min gd0 60 + 1)) (by omega)
              have hfb : 0 ≤ IntKind.i64.wrap (pickV (codL (.opt c 1 m 0) (.arrO (.int .u8) q 1)) (dwS (codL (.opt c 1 m 0) (.arrO (.int .u8) q 1)) i).1 (IntKind.i64.wrap ((i : Int) + 1)) - 1) ∧ IntKind.i64.wrap (pickV (codL (.opt c 1 m 0) (.arrO (.int .u8) q 1)) (dwS (codL (.opt c 1 m 0) (.arrO (.int .u8) q 1)) i).1 (IntKind.i64.wrap ((i : Int) + 1)) - 1) < ((i : Nat) : Int) := by rw [hFR]; omega
              have hfn : 0 + (IntKind.i64.wrap (pickV (codL (.opt c 1 m 0) (.arrO (.int .u8) q 1)) (dwS (codL (.opt c 1 m 0) (.arrO (.int .u8) q 1)) i).1 (IntKind.i64.wrap ((i : Int) + 1)) - 1)).toNat = (dwFr (codL (.opt c 1 m 0) (.arrO (.int .u8) q 1)) (dwS (codL (.opt c 1 m 0) (.arrO (.int .u8) q 1)) i).1 i).toNat := by rw [hFR]; omega
              (repeat' ((try dsimp only); (try (conv => whnf)); first | (with_reducible first | refine And.intro ?_ ?_ | refine WX.of ?_) | exact zc | ((with_reducible refine VC.mk ?_); exact zw) | with_reducible refine atL_0 hnm ?_ | refine atL_q hp hfn ?_ | ((with_reducible refine VC.mk ?_); exact hfb) | ((with_reducible refine VC.mk ?_); exact ⟨⟨⟨⟨rfl, h3⟩, by omega, rfl⟩, by omega⟩, by omega⟩) | ((with_reducible refine VC.mk ?_); exact ⟨⟨⟨⟨rfl, h3⟩, by omega, rfl⟩, by omega⟩, by decide⟩) | ((with_reducible refine VC.mk ?_); exact ⟨⟨⟨⟨rfl, h3⟩, by omega, rfl⟩, by omega⟩, by decide, by decide⟩) | ((with_reducible refine VC.mk ?_); exact ⟨⟨⟨⟨rfl, h3⟩, by omega, rfl⟩, by omega⟩, rfl, by decide, by decide⟩) | ((with_reducible refine splitT_of ?_ ?_); (focus (simp only [k1, k2, k3, k4, Bool.not_true, Bool.not_false, decide_true, decide_false]; done))) | ((with_reducible refine splitF_of ?_ ?_); (focus (simp only [k1, k2, k3, k4, Bool.not_true, Bool.not_false, decide_true, decide_false]; done))) | (with_reducible first | refine splitT ?_ | refine splitF ?_) | ((with_reducible refine splitM.mk (fun hsm => ?_) (fun hsm => ?_)) <;> (try exact zx)) | ((with_reducible refine splitB.mk (fun h => ?_) (fun h => ?_)) <;> (try simp only [zs, ne_eq] at h) <;> (try simp (disch := omega) only [w64] at h) <;> (try exact zx)) | (with_reducible intro hz; (try exact absurd hz (Nat.succ_ne_zero _)))))
              have eT5 : dwT5 (pickA ((pickA (dwS (codL (.opt c 1 m 0) (.arrO (.int .u8) q 1)) i).1 (IntKind.i64.wrap ((i : Int) + 1))) + 4) 2 + 2) ((dwS (codL (.opt c 1 m 0) (.arrO (.int .u8) q 1)) i).2) (dwFr (codL (.opt c 1 m 0) (.arrO (.int .u8) q 1)) (dwS (codL (.opt c 1 m 0) (.arrO (.int .u8) q 1)) i).1 i) = pickA (pickA (pickA ((pickA (dwS (codL (.opt c 1 m 0) (.arrO (.int .u8) q 1)) i).1 (IntKind.i64.wrap ((i : Int) + 1))) + 4) 2 + 2) 20) (IntKind.i64.wrap (min gd0 60 + 1)) := by unfold dwT5; rw [if_pos hf, hn60]
              have eMd : dwMd (codL (.opt c 1 m 0) (.arrO (.int .u8) q 1)) (pickA ((pickA (dwS (codL (.opt c 1 m 0) (.arrO (.int .u8) q 1)) i).1 (IntKind.i64.wrap ((i : Int) + 1))) + 4) 2 + 2) ((dwS (codL (.opt c 1 m 0) (.arrO (.int .u8) q 1)) i).2) (dwFr (codL (.opt c 1 m 0) (.arrO (.int .u8) q 1)) (dwS (codL (.opt c 1 m 0) (.arrO (.int .u8) q 1)) i).1 i) = IntKind.i64.wrap (md0 + pickV (codL (.opt c 1 m 0) (.arrO (.int .u8) q 1)) (pickA (pickA ((pickA (dwS (codL (.opt c 1 m 0) (.arrO (.int .u8) q 1)) i).1 (IntKind.i64.wrap ((i : Int) + 1))) + 4) 2 + 2) 20) (IntKind.i64.wrap (min gd0 60 + 1))) := by unfold dwMd; rw [if_pos hf, hst, hmw, hn60]
              have eTn : dwTn (codL (.opt c 1 m 0) (.arrO (.int .u8) q 1)) (dwS (codL (.opt c 1 m 0) (.arrO (.int .u8) q 1)) i).1 i ((dwS (codL (.opt c 1 m 0) (.arrO (.int .u8) q 1)) i).2) = pickA (pickA (pickA (pickA ((pickA (dwS (codL (.opt c 1 m 0) (.arrO (.int .u8) q 1)) i).1 (IntKind.i64.wrap ((i : Int) + 1))) + 4) 2 + 2) 20) (IntKind.i64.wrap (min gd0 60 + 1))) 6 := by unfold dwTn; rw [← eP1, eT3, eT5]
              have eX : dwSt (codL (.opt c 1 m 0) (.arrO (.int .u8) q 1)) (dwS (codL (.opt c 1 m 0) (.arrO (.int .u8) q 1)) i).1 i ((dwS (codL (.opt c 1 m 0) (.arrO (.int .u8) q 1)) i).2) = (nmK i, IntKind.i64.wrap (pickV (codL (.opt c 1 m 0) (.arrO (.int .u8) q 1)) (dwS (codL (.opt c 1 m 0) (.arrO (.int .u8) q 1)) i).1 (IntKind.i64.wrap ((i : Int) + 1)) - 1), (tw (smW (codL (.opt c 1 m 0) (.arrO (.int .u8) q 1)) (pickA (dwS (codL (.opt c 1 m 0) (.arrO (.int .u8) q 1)) i).1 (IntKind.i64.wrap ((i : Int) + 1))) 8), tw (smW (codL (.opt c 1 m 0) (.arrO (.int .u8) q 1)) (pickA (dwS (codL (.opt c 1 m 0) (.arrO (.int .u8) q 1)) i).1 (IntKind.i64.wrap ((i : Int) + 1))) 8 + absI (smW (codL (.opt c 1 m 0) (.arrO (.int .u8) q 1)) ((pickA (dwS (codL (.opt c 1 m 0) (.arrO (.int .u8) q 1)) i).1 (IntKind.i64.wrap ((i : Int) + 1))) + 2) 6))), tw (dwDr (codL (.opt c 1 m 0) (.arrO (.int .u8) q 1)) ((pickA (dwS (codL (.opt c 1 m 0) (.arrO (.int .u8) q 1)) i).1 (IntKind.i64.wrap ((i : Int) + 1))) + 4)), IntKind.i64.wrap (md0 + pickV (codL (.opt c 1 m 0) (.arrO (.int .u8) q 1)) (pickA (pickA ((pickA (dwS (codL (.opt c 1 m 0) (.arrO (.int .u8) q 1)) i).1 (IntKind.i64.wrap ((i : Int) + 1))) + 4) 2 + 2) 20) (IntKind.i64.wrap (min gd0 60 + 1))), amV (codL (.opt c 1 m 0) (.arrO (.int .u8) q 1)) (pickA (pickA (pickA ((pickA (dwS (codL (.opt c 1 m 0) (.arrO (.int .u8) q 1)) i).1 (IntKind.i64.wrap ((i : Int) + 1))) + 4) 2 + 2) 20) (IntKind.i64.wrap (min gd0 60 + 1))) [0, 5, 30, 60, 100, 365]) := by
                unfold dwSt; rw [← eP1, eT3, eT5, eMd, hFR]; rfl
              rw [eDr] at eX
              refine ⟨i + 1, by omega, by omega, ?_⟩
              (repeat' ((try (conv => whnf)); first | (with_reducible first | refine And.intro ?_ ?_ | refine WX.of ?_) | exact zc | ((with_reducible refine VC.mk ?_); exact zw) | ((with_reducible refine VC.mk ?_); exact cellT eTn) | ((with_reducible refine VC.mk ?_); exact rowX hlenA eX.symm) | (with_reducible first | refine splitT ?_ | refine splitF ?_) | ((with_reducible refine splitM.mk (fun hsm => ?_) (fun hsm => ?_)) <;> (try exact zx)) | ((with_reducible refine splitB.mk (fun h => ?_) (fun h => ?_)) <;> (try simp only [zs, ne_eq] at h) <;> (try simp (disch := omega) only [w64] at h) <;> (try exact zx)) | (with_reducible intro hz; (try exact absurd hz (Nat.succ_ne_zero _)))))
            · have k3 : decide (0 ≤ IntKind.i64.wrap (pickV (codL (.opt c 1 m 0) (.arrO (.int .u8) q 1)) (dwS (codL (.opt c 1 m 0) (.arrO (.int .u8) q 1)) i).1 (IntKind.i64.wrap ((i : Int) + 1)) - 1)) = false := by rw [hFR]; exact decide_eq_false hf
              have hv5 := pickV_b hb (pickA ((pickA (dwS (codL (.opt c 1 m 0) (.arrO (.int .u8) q 1)) i).1 (IntKind.i64.wrap ((i : Int) + 1))) + 4) 2 + 2) 20
              have hv6 := hv5.2 (by decide)
              have k4 : decide (100000 < pickV (codL (.opt c 1 m 0) (.arrO (.int .u8) q 1)) (pickA ((pickA (dwS (codL (.opt c 1 m 0) (.arrO (.int .u8) q 1)) i).1 (IntKind.i64.wrap ((i : Int) + 1))) + 4) 2 + 2) 20) = false := decide_eq_false (by omega)
              (repeat' ((try (conv => whnf)); first | (with_reducible first | refine And.intro ?_ ?_ | refine WX.of ?_) | exact zc | ((with_reducible refine VC.mk ?_); exact zw) | with_reducible refine atL_0 hnm ?_ | ((with_reducible refine VC.mk ?_); exact ⟨⟨⟨⟨rfl, h3⟩, by omega, rfl⟩, by omega⟩, by omega⟩) | ((with_reducible refine VC.mk ?_); exact ⟨⟨⟨⟨rfl, h3⟩, by omega, rfl⟩, by omega⟩, by decide⟩) | ((with_reducible refine VC.mk ?_); exact ⟨⟨⟨⟨rfl, h3⟩, by omega, rfl⟩, by omega⟩, by decide, by decide⟩) | ((with_reducible refine VC.mk ?_); exact ⟨⟨⟨⟨rfl, h3⟩, by omega, rfl⟩, by omega⟩, rfl, by decide, by decide⟩) | ((with_reducible refine splitT_of ?_ ?_); (focus (simp only [k1, k2, k3, k4, Bool.not_true, Bool.not_false, decide_true, decide_false]; done))) | ((with_reducible refine splitF_of ?_ ?_); (focus (simp only [k1, k2, k3, k4, Bool.not_true, Bool.not_false, decide_true, decide_false]; done))) | (with_reducible first | refine splitT ?_ | refine splitF ?_) | ((with_reducible refine splitM.mk (fun hsm => ?_) (fun hsm => ?_)) <;> (try exact zx)) | ((with_reducible refine splitB.mk (fun h => ?_) (fun h => ?_)) <;> (try simp only [zs, ne_eq] at h) <;> (try simp (disch := omega) only [w64] at h) <;> (try exact zx)) | (with_reducible intro hz; (try exact absurd hz (Nat.succ_ne_zero _)))))
              have eT5 : dwT5 (pickA ((pickA (dwS (codL (.opt c 1 m 0) (.arrO (.int .u8) q 1)) i).1 (IntKind.i64.wrap ((i : Int) + 1))) + 4) 2 + 2) ((dwS (codL (.opt c 1 m 0) (.arrO (.int .u8) q 1)) i).2) (dwFr (codL (.opt c 1 m 0) (.arrO (.int .u8) q 1)) (dwS (codL (.opt c 1 m 0) (.arrO (.int .u8) q 1)) i).1 i) = pickA (pickA ((pickA (dwS (codL (.opt c 1 m 0) (.arrO (.int .u8) q 1)) i).1 (IntKind.i64.wrap ((i : Int) + 1))) + 4) 2 + 2) 20 := by unfold dwT5; rw [if_neg hf]
              have eMd : dwMd (codL (.opt c 1 m 0) (.arrO (.int .u8) q 1)) (pickA ((pickA (dwS (codL (.opt c 1 m 0) (.arrO (.int .u8) q 1)) i).1 (IntKind.i64.wrap ((i : Int) + 1))) + 4) 2 + 2) ((dwS (codL (.opt c 1 m 0) (.arrO (.int .u8) q 1)) i).2) (dwFr (codL (.opt c 1 m 0) (.arrO (.int .u8) q 1)) (dwS (codL (.opt c 1 m 0) (.arrO (.int .u8) q 1)) i).1 i) = pickV (codL (.opt c 1 m 0) (.arrO (.int .u8) q 1)) (pickA ((pickA (dwS (codL (.opt c 1 m 0) (.arrO (.int .u8) q 1)) i).1 (IntKind.i64.wrap ((i : Int) + 1))) + 4) 2 + 2) 20 := by unfold dwMd; rw [if_neg hf]
              have eTn : dwTn (codL (.opt c 1 m 0) (.arrO (.int .u8) q 1)) (dwS (codL (.opt c 1 m 0) (.arrO (.int .u8) q 1)) i).1 i ((dwS (codL (.opt c 1 m 0) (.arrO (.int .u8) q 1)) i).2) = pickA (pickA (pickA ((pickA (dwS (codL (.opt c 1 m 0) (.arrO (.int .u8) q 1)) i).1 (IntKind.i64.wrap ((i : Int) + 1))) + 4) 2 + 2) 20) 6 := by unfold dwTn; rw [← eP1, eT3, eT5]
              have eX : dwSt (codL (.opt c 1 m 0) (.arrO (.int .u8) q 1)) (dwS (codL (.opt c 1 m 0) (.arrO (.int .u8) q 1)) i).1 i ((dwS (codL (.opt c 1 m 0) (.arrO (.int .u8) q 1)) i).2) = (nmK i, IntKind.i64.wrap (pickV (codL (.opt c 1 m 0) (.arrO (.int .u8) q 1)) (dwS (codL (.opt c 1 m 0) (.arrO (.int .u8) q 1)) i).1 (IntKind.i64.wrap ((i : Int) + 1)) - 1), (tw (smW (codL (.opt c 1 m 0) (.arrO (.int .u8) q 1)) (pickA (dwS (codL (.opt c 1 m 0) (.arrO (.int .u8) q 1)) i).1 (IntKind.i64.wrap ((i : Int) + 1))) 8), tw (smW (codL (.opt c 1 m 0) (.arrO (.int .u8) q 1)) (pickA (dwS (codL (.opt c 1 m 0) (.arrO (.int .u8) q 1)) i).1 (IntKind.i64.wrap ((i : Int) + 1))) 8 + absI (smW (codL (.opt c 1 m 0) (.arrO (.int .u8) q 1)) ((pickA (dwS (codL (.opt c 1 m 0) (.arrO (.int .u8) q 1)) i).1 (IntKind.i64.wrap ((i : Int) + 1))) + 2) 6))), tw (dwDr (codL (.opt c 1 m 0) (.arrO (.int .u8) q 1)) ((pickA (dwS (codL (.opt c 1 m 0) (.arrO (.int .u8) q 1)) i).1 (IntKind.i64.wrap ((i : Int) + 1))) + 4)), pickV (codL (.opt c 1 m 0) (.arrO (.int .u8) q 1)) (pickA ((pickA (dwS (codL (.opt c 1 m 0) (.arrO (.int .u8) q 1)) i).1 (IntKind.i64.wrap ((i : Int) + 1))) + 4) 2 + 2) 20, amV (codL (.opt c 1 m 0) (.arrO (.int .u8) q 1)) (pickA (pickA ((pickA (dwS (codL (.opt c 1 m 0) (.arrO (.int .u8) q 1)) i).1 (IntKind.i64.wrap ((i : Int) + 1))) + 4) 2 + 2) 20) [0, 5, 30, 60, 100, 365]) := by
                unfold dwSt; rw [← eP1, eT3, eT5, eMd, hFR]; rfl
              rw [eDr] at eX
              refine ⟨i + 1, by omega, by omega, ?_⟩
              (repeat' ((try (conv => whnf)); first | (with_reducible first | refine And.intro ?_ ?_ | refine WX.of ?_) | exact zc | ((with_reducible refine VC.mk ?_); exact zw) | ((with_reducible refine VC.mk ?_); exact cellT eTn) | ((with_reducible refine VC.mk ?_); exact rowX hlenA eX.symm) | (with_reducible first | refine splitT ?_ | refine splitF ?_) | ((with_reducible refine splitM.mk (fun hsm => ?_) (fun hsm => ?_)) <;> (try exact zx)) | ((with_reducible refine splitB.mk (fun h => ?_) (fun h => ?_)) <;> (try simp only [zs, ne_eq] at h) <;> (try simp (disch := omega) only [w64] at h) <;> (try exact zx)) | (with_reducible intro hz; (try exact absurd hz (Nat.succ_ne_zero _)))))
        · have k1 : decide (pickV (codL (.opt c 1 m 0) (.arrO (.int .u8) q 1)) ((pickA (dwS (codL (.opt c 1 m 0) (.arrO (.int .u8) q 1)) i).1 (IntKind.i64.wrap ((i : Int) + 1))) + 4) 2 = 0) = false := decide_eq_false h1
          have eT3 : dwT3 (codL (.opt c 1 m 0) (.arrO (.int .u8) q 1)) ((pickA (dwS (codL (.opt c 1 m 0) (.arrO (.int .u8) q 1)) i).1 (IntKind.i64.wrap ((i : Int) + 1))) + 4) = pickA ((pickA (dwS (codL (.opt c 1 m 0) (.arrO (.int .u8) q 1)) i).1 (IntKind.i64.wrap ((i : Int) + 1))) + 4) 2 := if_neg h1
          have eDr : tw (dwDr (codL (.opt c 1 m 0) (.arrO (.int .u8) q 1)) ((pickA (dwS (codL (.opt c 1 m 0) (.arrO (.int .u8) q 1)) i).1 (IntKind.i64.wrap ((i : Int) + 1))) + 4)) = (0, 1) := by unfold dwDr; rw [if_neg h1, tw_0]
          have hA4 := pickA_b (t := pickA ((pickA (dwS (codL (.opt c 1 m 0) (.arrO (.int .u8) q 1)) i).1 (IntKind.i64.wrap ((i : Int) + 1))) + 4) 2) (n := 20) (by omega)
          by_cases hf : 0 ≤ dwFr (codL (.opt c 1 m 0) (.arrO (.int .u8) q 1)) (dwS (codL (.opt c 1 m 0) (.arrO (.int .u8) q 1)) i).1 i
          · have k3 : decide (0 ≤ IntKind.i64.wrap (pickV (codL (.opt c 1 m 0) (.arrO (.int .u8) q 1)) (dwS (codL (.opt c 1 m 0) (.arrO (.int .u8) q 1)) i).1 (IntKind.i64.wrap ((i : Int) + 1)) - 1)) = true := by rw [hFR]; exact decide_eq_true hf
            obtain ⟨p, hp⟩ := get_some (l := (dwS (codL (.opt c 1 m 0) (.arrO (.int .u8) q 1)) i).2) (i := (dwFr (codL (.opt c 1 m 0) (.arrO (.int .u8) q 1)) (dwS (codL (.opt c 1 m 0) (.arrO (.int .u8) q 1)) i).1 i).toNat) (by omega)
            have hpg := htw _ _ hp
            have hgd := hpg.gd
            have hmd := hpg.md
            obtain ⟨nm0, fr0, ⟨⟨p0, q0⟩, p0', q0'⟩, ⟨dp0, dq0⟩, md0, gd0⟩ := p
            dsimp only at hgd hmd
            have hst : stAt ((dwS (codL (.opt c 1 m 0) (.arrO (.int .u8) q 1)) i).2) (dwFr (codL (.opt c 1 m 0) (.arrO (.int .u8) q 1)) (dwS (codL (.opt c 1 m 0) (.arrO (.int .u8) q 1)) i).1 i) = (nm0, fr0, ((p0, q0), p0', q0'), (dp0, dq0), md0, gd0) := stAt_z hp
            have hn60 : IntKind.i64.wrap (min gd0 60 + 1) = dwN60 ((dwS (codL (.opt c 1 m 0) (.arrO (.int .u8) q 1)) i).2) (dwFr (codL (.opt c 1 m 0) (.arrO (.int .u8) q 1)) (dwS (codL (.opt c 1 m 0) (.arrO (.int .u8) q 1)) i).1 i) := by unfold dwN60; rw [hst]; exact w64 (by omega)
            have hn6b : 1 ≤ dwN60 ((dwS (codL (.opt c 1 m 0) (.arrO (.int .u8) q 1)) i).2) (dwFr (codL (.opt c 1 m 0) (.arrO (.int .u8) q 1)) (dwS (codL (.opt c 1 m 0) (.arrO (.int .u8) q 1)) i).1 i) ∧ dwN60 ((dwS (codL (.opt c 1 m 0) (.arrO (.int .u8) q 1)) i).2) (dwFr (codL (.opt c 1 m 0) (.arrO (.int .u8) q 1)) (dwS (codL (.opt c 1 m 0) (.arrO (.int .u8) q 1)) i).1 i) ≤ 61 := by rw [← hn60, w64 (by omega)]; omega
            have hn6c : IntKind.i64.wrap (min gd0 60 + 1) ≤ 1000000000 := by rw [hn60]; omega
            have hv5 := pickV_b hb (pickA (pickA ((pickA (dwS (codL (.opt c 1 m 0) (.arrO (.int .u8) q 1)) i).1 (IntKind.i64.wrap ((i : Int) + 1))) + 4) 2) 20) (IntKind.i64.wrap (min gd0 60 + 1))
            have hv6 := hv5.2 (by rw [hn60]; omega)
            have hmw : IntKind.i64.wrap (md0 + pickV (codL (.opt c 1 m 0) (.arrO (.int .u8) q 1)) (pickA (pickA ((pickA (dwS (codL (.opt c 1 m 0) (.arrO (.int .u8) q 1)) i).1 (IntKind.i64.wrap ((i : Int) + 1))) + 4) 2) 20) (IntKind.i64.wrap (min gd0 60 + 1))) = md0 + pickV (codL (.opt c 1 m 0) (.arrO (.int .u8) q 1)) (pickA (pickA ((pickA (dwS (codL (.opt c 1 m 0) (.arrO (.int .u8) q 1)) i).1 (IntKind.i64.wrap ((i : Int) + 1))) + 4) 2) 20) (IntKind.i64.wrap (min gd0 60 + 1)) := w64 (by omega)
            have k4 : decide (100000 < IntKind.i64.wrap (md0 + pickV (codL (.opt c 1 m 0) (.arrO (.int .u8) q 1)) (pickA (pickA ((pickA (dwS (codL (.opt c 1 m 0) (.arrO (.int .u8) q 1)) i).1 (IntKind.i64.wrap ((i : Int) + 1))) + 4) 2) 20) (IntKind.i64.wrap (min gd0 60 + 1)))) = false := by rw [hmw]; exact decide_eq_false (by omega)
            have hA5 := pickA_b (t := pickA (pickA ((pickA (dwS (codL (.opt c 1 m 0) (.arrO (.int .u8) q 1)) i).1 (IntKind.i64.wrap ((i : Int) + 1))) + 4) 2) 20) (n := IntKind.i64.wrap (min gd0 60 + 1)) (by omega)
            have hfb : 0 ≤ IntKind.i64.wrap (pickV (codL (.opt c 1 m 0) (.arrO (.int .u8) q 1)) (dwS (codL (.opt c 1 m 0) (.arrO (.int .u8) q 1)) i).1 (IntKind.i64.wrap ((i : Int) + 1)) - 1) ∧ IntKind.i64.wrap (pickV (codL (.opt c 1 m 0) (.arrO (.int .u8) q 1)) (dwS (codL (.opt c 1 m 0) (.arrO (.int .u8) q 1)) i).1 (IntKind.i64.wrap ((i : Int) + 1)) - 1) < ((i : Nat) : Int) := by rw [hFR]; omega
            have hfn : 0 + (IntKind.i64.wrap (pickV (codL (.opt c 1 m 0) (.arrO (.int .u8) q 1)) (dwS (codL (.opt c 1 m 0) (.arrO (.int .u8) q 1)) i).1 (IntKind.i64.wrap ((i : Int) + 1)) - 1)).toNat = (dwFr (codL (.opt c 1 m 0) (.arrO (.int .u8) q 1)) (dwS (codL (.opt c 1 m 0) (.arrO (.int .u8) q 1)) i).1 i).toNat := by rw [hFR]; omega
            (repeat' ((try dsimp only); (try (conv => whnf)); first | (with_reducible first | refine And.intro ?_ ?_ | refine WX.of ?_) | exact zc | ((with_reducible refine VC.mk ?_); exact zw) | with_reducible refine atL_0 hnm ?_ | refine atL_q hp hfn ?_ | ((with_reducible refine VC.mk ?_); exact hfb) | ((with_reducible refine VC.mk ?_); exact ⟨⟨⟨⟨rfl, h3⟩, by omega, rfl⟩, by omega⟩, by omega⟩) | ((with_reducible refine VC.mk ?_); exact ⟨⟨⟨⟨rfl, h3⟩, by omega, rfl⟩, by omega⟩, by decide⟩) | ((with_reducible refine VC.mk ?_); exact ⟨⟨⟨⟨rfl, h3⟩, by omega, rfl⟩, by omega⟩, by decide, by decide⟩) | ((with_reducible refine VC.mk ?_); exact ⟨⟨⟨⟨rfl, h3⟩, by omega, rfl⟩, by omega⟩, rfl, by decide, by decide⟩) | ((with_reducible refine splitT_of ?_ ?_); (focus (simp only [k1, k3, k4, Bool.not_true, Bool.not_false, decide_true, decide_false]; done))) | ((with_reducible refine splitF_of ?_ ?_); (focus (simp only [k1, k3, k4, Bool.not_true, Bool.not_false, decide_true, decide_false]; done))) | (with_reducible first | refine splitT ?_ | refine splitF ?_) | ((with_reducible refine splitM.mk (fun hsm => ?_) (fun hsm => ?_)) <;> (try exact zx)) | ((with_reducible refine splitB.mk (fun h => ?_) (fun h => ?_)) <;> (try simp only [zs, ne_eq] at h) <;> (try simp (disch := omega) only [w64] at h) <;> (try exact zx)) | (with_reducible intro hz; (try exact absurd hz (Nat.succ_ne_zero _)))))
            have eT5 : dwT5 (pickA ((pickA (dwS (codL (.opt c 1 m 0) (.arrO (.int .u8) q 1)) i).1 (IntKind.i64.wrap ((i : Int) + 1))) + 4) 2) ((dwS (codL (.opt c 1 m 0) (.arrO (.int .u8) q 1)) i).2) (dwFr (codL (.opt c 1 m 0) (.arrO (.int .u8) q 1)) (dwS (codL (.opt c 1 m 0) (.arrO (.int .u8) q 1)) i).1 i) = pickA (pickA (pickA ((pickA (dwS (codL (.opt c 1 m 0) (.arrO (.int .u8) q 1)) i).1 (IntKind.i64.wrap ((i : Int) + 1))) + 4) 2) 20) (IntKind.i64.wrap (min gd0 60 + 1)) := by unfold dwT5; rw [if_pos hf, hn60]
            have eMd : dwMd (codL (.opt c 1 m 0) (.arrO (.int .u8) q 1)) (pickA ((pickA (dwS (codL (.opt c 1 m 0) (.arrO (.int .u8) q 1)) i).1 (IntKind.i64.wrap ((i : Int) + 1))) + 4) 2) ((dwS (codL (.opt c 1 m 0) (.arrO (.int .u8) q 1)) i).2) (dwFr (codL (.opt c 1 m 0) (.arrO (.int .u8) q 1)) (dwS (codL (.opt c 1 m 0) (.arrO (.int .u8) q 1)) i).1 i) = IntKind.i64.wrap (md0 + pickV (codL (.opt c 1 m 0) (.arrO (.int .u8) q 1)) (pickA (pickA ((pickA (dwS (codL (.opt c 1 m 0) (.arrO (.int .u8) q 1)) i).1 (IntKind.i64.wrap ((i : Int) + 1))) + 4) 2) 20) (IntKind.i64.wrap (min gd0 60 + 1))) := by unfold dwMd; rw [if_pos hf, hst, hmw, hn60]
            have eTn : dwTn (codL (.opt c 1 m 0) (.arrO (.int .u8) q 1)) (dwS (codL (.opt c 1 m 0) (.arrO (.int .u8) q 1)) i).1 i ((dwS (codL (.opt c 1 m 0) (.arrO (.int .u8) q 1)) i).2) = pickA (pickA (pickA (pickA ((pickA (dwS (codL (.opt c 1 m 0) (.arrO (.int .u8) q 1)) i).1 (IntKind.i64.wrap ((i : Int) + 1))) + 4) 2) 20) (IntKind.i64.wrap (min gd0 60 + 1))) 6 := by unfold dwTn; rw [← eP1, eT3, eT5]
            have eX : dwSt (codL (.opt c 1 m 0) (.arrO (.int .u8) q 1)) (dwS (codL (.opt c 1 m 0) (.arrO (.int .u8) q 1)) i).1 i ((dwS (codL (.opt c 1 m 0) (.arrO (.int .u8) q 1)) i).2) = (nmK i, IntKind.i64.wrap (pickV (codL (.opt c 1 m 0) (.arrO (.int .u8) q 1)) (dwS (codL (.opt c 1 m 0) (.arrO (.int .u8) q 1)) i).1 (IntKind.i64.wrap ((i : Int) + 1)) - 1), (tw (smW (codL (.opt c 1 m 0) (.arrO (.int .u8) q 1)) (pickA (dwS (codL (.opt c 1 m 0) (.arrO (.int .u8) q 1)) i).1 (IntKind.i64.wrap ((i : Int) + 1))) 8), tw (smW (codL (.opt c 1 m 0) (.arrO (.int .u8) q 1)) (pickA (dwS (codL (.opt c 1 m 0) (.arrO (.int .u8) q 1)) i).1 (IntKind.i64.wrap ((i : Int) + 1))) 8 + absI (smW (codL (.opt c 1 m 0) (.arrO (.int .u8) q 1)) ((pickA (dwS (codL (.opt c 1 m 0) (.arrO (.int .u8) q 1)) i).1 (IntKind.i64.wrap ((i : Int) + 1))) + 2) 6))), tw (dwDr (codL (.opt c 1 m 0) (.arrO (.int .u8) q 1)) ((pickA (dwS (codL (.opt c 1 m 0) (.arrO (.int .u8) q 1)) i).1 (IntKind.i64.wrap ((i : Int) + 1))) + 4)), IntKind.i64.wrap (md0 + pickV (codL (.opt c 1 m 0) (.arrO (.int .u8) q 1)) (pickA (pickA ((pickA (dwS (codL (.opt c 1 m 0) (.arrO (.int .u8) q 1)) i).1 (IntKind.i64.wrap ((i : Int) + 1))) + 4) 2) 20) (IntKind.i64.wrap (min gd0 60 + 1))), amV (codL (.opt c 1 m 0) (.arrO (.int .u8) q 1)) (pickA (pickA (pickA ((pickA (dwS (codL (.opt c 1 m 0) (.arrO (.int .u8) q 1)) i).1 (IntKind.i64.wrap ((i : Int) + 1))) + 4) 2) 20) (IntKind.i64.wrap (min gd0 60 + 1))) [0, 5, 30, 60, 100, 365]) := by
              unfold dwSt; rw [← eP1, eT3, eT5, eMd, hFR]; rfl
            rw [eDr] at eX
            refine ⟨i + 1, by omega, by omega, ?_⟩
            (repeat' ((try (conv => whnf)); first | (with_reducible first | refine And.intro ?_ ?_ | refine WX.of ?_) | exact zc | ((with_reducible refine VC.mk ?_); exact zw) | ((with_reducible refine VC.mk ?_); exact cellT eTn) | ((with_reducible refine VC.mk ?_); exact rowX hlenA eX.symm) | (with_reducible first | refine splitT ?_ | refine splitF ?_) | ((with_reducible refine splitM.mk (fun hsm => ?_) (fun hsm => ?_)) <;> (try exact zx)) | ((with_reducible refine splitB.mk (fun h => ?_) (fun h => ?_)) <;> (try simp only [zs, ne_eq] at h) <;> (try simp (disch := omega) only [w64] at h) <;> (try exact zx)) | (with_reducible intro hz; (try exact absurd hz (Nat.succ_ne_zero _)))))
          · have k3 : decide (0 ≤ IntKind.i64.wrap (pickV (codL (.opt c 1 m 0) (.arrO (.int .u8) q 1)) (dwS (codL (.opt c 1 m 0) (.arrO (.int .u8) q 1)) i).1 (IntKind.i64.wrap ((i : Int) + 1)) - 1)) = false := by rw [hFR]; exact decide_eq_false hf
            have hv5 := pickV_b hb (pickA ((pickA (dwS (codL (.opt c 1 m 0) (.arrO (.int .u8) q 1)) i).1 (IntKind.i64.wrap ((i : Int) + 1))) + 4) 2) 20
            have hv6 := hv5.2 (by decide)
            have k4 : decide (100000 < pickV (codL (.opt c 1 m 0) (.arrO (.int .u8) q 1)) (pickA ((pickA (dwS (codL (.opt c 1 m 0) (.arrO (.int .u8) q 1)) i).1 (IntKind.i64.wrap ((i : Int) + 1))) + 4) 2) 20) = false := decide_eq_false (by omega)
            (repeat' ((try (conv => whnf)); first | (with_reducible first | refine And.intro ?_ ?_ | refine WX.of ?_) | exact zc | ((with_reducible refine VC.mk ?_); exact zw) | with_reducible refine atL_0 hnm ?_ | ((with_reducible refine VC.mk ?_); exact ⟨⟨⟨⟨rfl, h3⟩, by omega, rfl⟩, by omega⟩, by omega⟩) | ((with_reducible refine VC.mk ?_); exact ⟨⟨⟨⟨rfl, h3⟩, by omega, rfl⟩, by omega⟩, by decide⟩) | ((with_reducible refine VC.mk ?_); exact ⟨⟨⟨⟨rfl, h3⟩, by omega, rfl⟩, by omega⟩, by decide, by decide⟩) | ((with_reducible refine VC.mk ?_); exact ⟨⟨⟨⟨rfl, h3⟩, by omega, rfl⟩, by omega⟩, rfl, by decide, by decide⟩) | ((with_reducible refine splitT_of ?_ ?_); (focus (simp only [k1, k3, k4, Bool.not_true, Bool.not_false, decide_true, decide_false]; done))) | ((with_reducible refine splitF_of ?_ ?_); (focus (simp only [k1, k3, k4, Bool.not_true, Bool.not_false, decide_true, decide_false]; done))) | (with_reducible first | refine splitT ?_ | refine splitF ?_) | ((with_reducible refine splitM.mk (fun hsm => ?_) (fun hsm => ?_)) <;> (try exact zx)) | ((with_reducible refine splitB.mk (fun h => ?_) (fun h => ?_)) <;> (try simp only [zs, ne_eq] at h) <;> (try simp (disch := omega) only [w64] at h) <;> (try exact zx)) | (with_reducible intro hz; (try exact absurd hz (Nat.succ_ne_zero _)))))
            have eT5 : dwT5 (pickA ((pickA (dwS (codL (.opt c 1 m 0) (.arrO (.int .u8) q 1)) i).1 (IntKind.i64.wrap ((i : Int) + 1))) + 4) 2) ((dwS (codL (.opt c 1 m 0) (.arrO (.int .u8) q 1)) i).2) (dwFr (codL (.opt c 1 m 0) (.arrO (.int .u8) q 1)) (dwS (codL (.opt c 1 m 0) (.arrO (.int .u8) q 1)) i).1 i) = pickA (pickA ((pickA (dwS (codL (.opt c 1 m 0) (.arrO (.int .u8) q 1)) i).1 (IntKind.i64.wrap ((i : Int) + 1))) + 4) 2) 20 := by unfold dwT5; rw [if_neg hf]
            have eMd : dwMd (codL (.opt c 1 m 0) (.arrO (.int .u8) q 1)) (pickA ((pickA (dwS (codL (.opt c 1 m 0) (.arrO (.int .u8) q 1)) i).1 (IntKind.i64.wrap ((i : Int) + 1))) + 4) 2) ((dwS (codL (.opt c 1 m 0) (.arrO (.int .u8) q 1)) i).2) (dwFr (codL (.opt c 1 m 0) (.arrO (.int .u8) q 1)) (dwS (codL (.opt c 1 m 0) (.arrO (.int .u8) q 1)) i).1 i) = pickV (codL (.opt c 1 m 0) (.arrO (.int .u8) q 1)) (pickA ((pickA (dwS (codL (.opt c 1 m 0) (.arrO (.int .u8) q 1)) i).1 (IntKind.i64.wrap ((i : Int) + 1))) + 4) 2) 20 := by unfold dwMd; rw [if_neg hf]
            have eTn : dwTn (codL (.opt c 1 m 0) (.arrO (.int .u8) q 1)) (dwS (codL (.opt c 1 m 0) (.arrO (.int .u8) q 1)) i).1 i ((dwS (codL (.opt c 1 m 0) (.arrO (.int .u8) q 1)) i).2) = pickA (pickA (pickA ((pickA (dwS (codL (.opt c 1 m 0) (.arrO (.int .u8) q 1)) i).1 (IntKind.i64.wrap ((i : Int) + 1))) + 4) 2) 20) 6 := by unfold dwTn; rw [← eP1, eT3, eT5]
            have eX : dwSt (codL (.opt c 1 m 0) (.arrO (.int .u8) q 1)) (dwS (codL (.opt c 1 m 0) (.arrO (.int .u8) q 1)) i).1 i ((dwS (codL (.opt c 1 m 0) (.arrO (.int .u8) q 1)) i).2) = (nmK i, IntKind.i64.wrap (pickV (codL (.opt c 1 m 0) (.arrO (.int .u8) q 1)) (dwS (codL (.opt c 1 m 0) (.arrO (.int .u8) q 1)) i).1 (IntKind.i64.wrap ((i : Int) + 1)) - 1), (tw (smW (codL (.opt c 1 m 0) (.arrO (.int .u8) q 1)) (pickA (dwS (codL (.opt c 1 m 0) (.arrO (.int .u8) q 1)) i).1 (IntKind.i64.wrap ((i : Int) + 1))) 8), tw (smW (codL (.opt c 1 m 0) (.arrO (.int .u8) q 1)) (pickA (dwS (codL (.opt c 1 m 0) (.arrO (.int .u8) q 1)) i).1 (IntKind.i64.wrap ((i : Int) + 1))) 8 + absI (smW (codL (.opt c 1 m 0) (.arrO (.int .u8) q 1)) ((pickA (dwS (codL (.opt c 1 m 0) (.arrO (.int .u8) q 1)) i).1 (IntKind.i64.wrap ((i : Int) + 1))) + 2) 6))), tw (dwDr (codL (.opt c 1 m 0) (.arrO (.int .u8) q 1)) ((pickA (dwS (codL (.opt c 1 m 0) (.arrO (.int .u8) q 1)) i).1 (IntKind.i64.wrap ((i : Int) + 1))) + 4)), pickV (codL (.opt c 1 m 0) (.arrO (.int .u8) q 1)) (pickA ((pickA (dwS (codL (.opt c 1 m 0) (.arrO (.int .u8) q 1)) i).1 (IntKind.i64.wrap ((i : Int) + 1))) + 4) 2) 20, amV (codL (.opt c 1 m 0) (.arrO (.int .u8) q 1)) (pickA (pickA ((pickA (dwS (codL (.opt c 1 m 0) (.arrO (.int .u8) q 1)) i).1 (IntKind.i64.wrap ((i : Int) + 1))) + 4) 2) 20) [0, 5, 30, 60, 100, 365]) := by
              unfold dwSt; rw [← eP1, eT3, eT5, eMd, hFR]; rfl
            rw [eDr] at eX
            refine ⟨i + 1, by omega, by omega, ?_⟩
            (repeat' ((try (conv => whnf)); first | (with_reducible first | refine And.intro ?_ ?_ | refine WX.of ?_) | exact zc | ((with_reducible refine VC.mk ?_); exact zw) | ((with_reducible refine VC.mk ?_); exact cellT eTn) | ((with_reducible refine VC.mk ?_); exact rowX hlenA eX.symm) | (with_reducible first | refine splitT ?_ | refine splitF ?_) | ((with_reducible refine splitM.mk (fun hsm => ?_) (fun hsm => ?_)) <;> (try exact zx)) | ((with_reducible refine splitB.mk (fun h => ?_) (fun h => ?_)) <;> (try simp only [zs, ne_eq] at h) <;> (try simp (disch := omega) only [w64] at h) <;> (try exact zx)) | (with_reducible intro hz; (try exact absurd hz (Nat.succ_ne_zero _)))))
      · obtain rfl : i = dwC (codL (.opt c 1 m 0) (.arrO (.int .u8) q 1)) := by omega
        (repeat' ((try (conv => whnf)); first | (with_reducible first | refine And.intro ?_ ?_ | refine WX.of ?_) | exact zc | ((with_reducible refine VC.mk ?_); exact zw) | (with_reducible first | refine splitT ?_ | refine splitF ?_) | ((with_reducible refine splitM.mk (fun hsm => ?_) (fun hsm => ?_)) <;> (try exact zx)) | ((with_reducible refine splitB.mk (fun h => ?_) (fun h => ?_)) <;> (try simp only [zs, ne_eq] at h) <;> (try simp (disch := omega) only [w64] at h) <;> (try exact zx)) | (with_reducible intro hz; (try exact absurd hz (Nat.succ_ne_zero _)))))
  · have hCw : IntKind.i64.wrap (1 + pickV (codL (.sl 1 s m y) (.arr (.int .u8) q 1 wq)) 0 6) = (dwC (codL (.sl 1 s m y) (.arr (.int .u8) q 1 wq)) : Int) := by rw [hC.2.2]; exact w64 (by omega)
    have hpk0 := pickA_b (t := 0) (n := 6) (Int.le_refl _)
    refine funW tabOk (E := [(78, s_nms), (79, s_pick), (82, s_oneS), (86, s_among), (81, s_btD), (83, s_smD), (84, s_neg), (80, s_num), (85, s_minI)]) ⟨ok_l05Names, ok_pick, ok_oneS, ok_among, ok_l05Between, ok_l05Small, ok_l01Neg, ok_l01Whole, ok_l00Min, trivial⟩ [(6, [(4, 1), (13, 0)]), (16, [(3, 1), (3, 2)])] (k := 2) (fn := Try.f35) rfl rfl rfl rfl rfl rfl ?_
    (repeat' ((try (conv => whnf)); first | (with_reducible first | refine And.intro ?_ ?_ | refine WX.of ?_) | exact zc | ((with_reducible refine VC.mk ?_); exact zw) | ((with_reducible refine VC.mk ?_); exact ⟨⟨⟨⟨rfl, h3⟩, by decide, rfl⟩, by decide⟩, by decide⟩) | (with_reducible first | refine splitT ?_ | refine splitF ?_) | ((with_reducible refine splitM.mk (fun hsm => ?_) (fun hsm => ?_)) <;> (try exact zx)) | ((with_reducible refine splitB.mk (fun h => ?_) (fun h => ?_)) <;> (try simp only [zs, ne_eq] at h) <;> (try simp (disch := omega) only [w64] at h) <;> (try exact zx)) | (with_reducible intro hz; (try exact absurd hz (Nat.succ_ne_zero _)))))
    refine loopW tabOk (E := [(78, s_nms), (79, s_pick), (82, s_oneS), (86, s_among), (81, s_btD), (83, s_smD), (84, s_neg), (80, s_num), (85, s_minI)]) ⟨ok_l05Names, ok_pick, ok_oneS, ok_among, ok_l05Between, ok_l05Small, ok_l01Neg, ok_l01Whole, ok_l00Min, trivial⟩ [(6, [(4, 1), (13, 0)]), (16, [(3, 1), (3, 2)])] (σ := Nat) (fun i => [(0, .ptr 0 0 0), (3, .sl 2 0 i 0), (4, .sl 3 0 8 0), (5, .int .i64 ((dwC (codL (.sl 1 s m y) (.arr (.int .u8) q 1 wq)) : Int) - i))]) (fun i => [.box [.sl 1 s m y, .int .i64 (dwS (codL (.sl 1 s m y) (.arr (.int .u8) q 1 wq)) i).1, .int .u64 (sdI (codL (.sl 1 s m y) (.arr (.int .u8) q 1 wq)) (dwS (codL (.sl 1 s m y) (.arr (.int .u8) q 1 wq)) i).1)] true false, .arr (.int .u8) q 1 wq, .arr (.prod .str (.prod (.int .i64) (.prod (.prod (.prod (.int .i64) (.int .i64)) (.prod (.int .i64) (.int .i64))) (.prod (.prod (.int .i64) (.int .i64)) (.prod (.int .i64) (.int .i64)))))) (dwS (codL (.sl 1 s m y) (.arr (.int .u8) q 1 wq)) i).2 10 true, .arr .str nmL 1 true]) (fun i => dwC (codL (.sl 1 s m y) (.arr (.int .u8) q 1 wq)) - i) (fun i => i ≤ dwC (codL (.sl 1 s m y) (.arr (.int .u8) q 1 wq))) 0 (Nat.zero_le _) ?_ ?_
    · (repeat' ((try (conv => whnf)); first | (with_reducible first | refine And.intro ?_ ?_ | refine WX.of ?_) | exact zc | ((with_reducible refine VC.mk ?_); exact zw) | (with_reducible first | refine splitT ?_ | refine splitF ?_) | ((with_reducible refine splitM.mk (fun hsm => ?_) (fun hsm => ?_)) <;> (try exact zx)) | ((with_reducible refine splitB.mk (fun h => ?_) (fun h => ?_)) <;> (try simp only [zs, ne_eq] at h) <;> (try simp (disch := omega) only [w64] at h) <;> (try exact zx)) | (with_reducible intro hz; (try exact absurd hz (Nat.succ_ne_zero _)))))
    · intro i hi
      have hlenA : ((dwS (codL (.sl 1 s m y) (.arr (.int .u8) q 1 wq)) i).2).length = i := dwS_len _ i
      have hTb := dwS_t (codL (.sl 1 s m y) (.arr (.int .u8) q 1 wq)) i
      have htw := dwS_tw hb i
      by_cases hlt : i < dwC (codL (.sl 1 s m y) (.arr (.int .u8) q 1 wq))
      · have hw1 : IntKind.i64.wrap ((i : Int) + 1) = (i : Int) + 1 := w64 (by omega)
        have hnm : nmL[i]? = some (nmK i) := by
          obtain ⟨a, ha⟩ := get_some (l := nmL) (i := i) (by show i < 8; omega)
          unfold nmK; rw [ha]; rfl
        have hpv := pickV_b hb (dwS (codL (.sl 1 s m y) (.arr (.int .u8) q 1 wq)) i).1 (IntKind.i64.wrap ((i : Int) + 1))
        have hpv2 := hpv.2 (by omega)
        have hFR : IntKind.i64.wrap (pickV (codL (.sl 1 s m y) (.arr (.int .u8) q 1 wq)) (dwS (codL (.sl 1 s m y) (.arr (.int .u8) q 1 wq)) i).1 (IntKind.i64.wrap ((i : Int) + 1)) - 1) = dwFr (codL (.sl 1 s m y) (.arr (.int .u8) q 1 wq)) (dwS (codL (.sl 1 s m y) (.arr (.int .u8) q 1 wq)) i).1 i := by
          have e2 : dwFr (codL (.sl 1 s m y) (.arr (.int .u8) q 1 wq)) (dwS (codL (.sl 1 s m y) (.arr (.int .u8) q 1 wq)) i).1 i = pickV (codL (.sl 1 s m y) (.arr (.int .u8) q 1 wq)) (dwS (codL (.sl 1 s m y) (.arr (.int .u8) q 1 wq)) i).1 (IntKind.i64.wrap ((i : Int) + 1)) - 1 := by unfold dwFr; rw [hw1]
          rw [e2]; exact w64 (by omega)
        have hFb : -1 ≤ dwFr (codL (.sl 1 s m y) (.arr (.int .u8) q 1 wq)) (dwS (codL (.sl 1 s m y) (.arr (.int .u8) q 1 wq)) i).1 i ∧ dwFr (codL (.sl 1 s m y) (.arr (.int .u8) q 1 wq)) (dwS (codL (.sl 1 s m y) (.arr (.int .u8) q 1 wq)) i).1 i < (i : Int) := by
          rw [← hFR, w64 (by omega)]; omega
        have eP1 : (pickA (dwS (codL (.sl 1 s m y) (.arr (.int .u8) q 1 wq)) i).1 (IntKind.i64.wrap ((i : Int) + 1))) = dwT1 (dwS (codL (.sl 1 s m y) (.arr (.int .u8) q 1 wq)) i).1 i := by rw [hw1]; rfl
        have hA1 := pickA_b (t := (dwS (codL (.sl 1 s m y) (.arr (.int .u8) q 1 wq)) i).1) (n := IntKind.i64.wrap ((i : Int) + 1)) hTb.1
        have hA2 := pickA_b (t := (pickA (dwS (codL (.sl 1 s m y) (.arr (.int .u8) q 1 wq)) i).1 (IntKind.i64.wrap ((i : Int) + 1))) + 4) (n := 2) (by omega)
        have hlo := smW_b hb (t := (pickA (dwS (codL (.sl 1 s m y) (.arr (.int .u8) q 1 wq)) i).1 (IntKind.i64.wrap ((i : Int) + 1)))) (most := 8) (by decide)
        by_cases h1 : pickV (codL (.sl 1 s m y) (.arr (.int .u8) q 1 wq)) ((pickA (dwS (codL (.sl 1 s m y) (.arr (.int .u8) q 1 wq)) i).1 (IntKind.i64.wrap ((i : Int) + 1))) + 4) 2 = 0
        · have k1 : decide (pickV (codL (.sl 1 s m y) (.arr (.int .u8) q 1 wq)) ((pickA (dwS (codL (.sl 1 s m y) (.arr (.int .u8) q 1 wq)) i).1 (IntKind.i64.wrap ((i : Int) + 1))) + 4) 2 = 0) = true := decide_eq_true h1
          have eT3 : dwT3 (codL (.sl 1 s m y) (.arr (.int .u8) q 1 wq)) ((pickA (dwS (codL (.sl 1 s m y) (.arr (.int .u8) q 1 wq)) i).1 (IntKind.i64.wrap ((i : Int) + 1))) + 4) = pickA ((pickA (dwS (codL (.sl 1 s m y) (.arr (.int .u8) q 1 wq)) i).1 (IntKind.i64.wrap ((i : Int) + 1))) + 4) 2 + 2 := if_pos h1
          have hsb := smW_b hb (t := pickA ((pickA (dwS (codL (.sl 1 s m y) (.arr (.int .u8) q 1 wq)) i).1 (IntKind.i64.wrap ((i : Int) + 1))) + 4) 2) (most := 3) (by decide)
          have hsg := tw_sgn (smW (codL (.sl 1 s m y) (.arr (.int .u8) q 1 wq)) (pickA ((pickA (dwS (codL (.sl 1 s m y) (.arr (.int .u8) q 1 wq)) i).1 (IntKind.i64.wrap ((i : Int) + 1))) + 4) 2) 3)
          have hs2 := smF_ok (tw_ok (x := smW (codL (.sl 1 s m y) (.arr (.int .u8) q 1 wq)) (pickA ((pickA (dwS (codL (.sl 1 s m y) (.arr (.int .u8) q 1 wq)) i).1 (IntKind.i64.wrap ((i : Int) + 1))) + 4) 2) 3) (by omega))
          by_cases h2 : smW (codL (.sl 1 s m y) (.arr (.int .u8) q 1 wq)) (pickA ((pickA (dwS (codL (.sl 1 s m y) (.arr (.int .u8) q 1 wq)) i).1 (IntKind.i64.wrap ((i : Int) + 1))) + 4) 2) 3 < 0
          · have k2 : decide ((tw (smW (codL (.sl 1 s m y) (.arr (.int .u8) q 1 wq)) (pickA ((pickA (dwS (codL (.sl 1 s m y) (.arr (.int .u8) q 1 wq)) i).1 (IntKind.i64.wrap ((i : Int) + 1))) + 4) 2) 3)).1 < 0) = true := decide_eq_true (hsg.1.2 h2)
            have eDr : tw (dwDr (codL (.sl 1 s m y) (.arr (.int .u8) q 1 wq)) ((pickA (dwS (codL (.sl 1 s m y) (.arr (.int .u8) q 1 wq)) i).1 (IntKind.i64.wrap ((i : Int) + 1))) + 4)) = (-(tw (smW (codL (.sl 1 s m y) (.arr (.int .u8) q 1 wq)) (pickA ((pickA (dwS (codL (.sl 1 s m y) (.arr (.int .u8) q 1 wq)) i).1 (IntKind.i64.wrap ((i : Int) + 1))) + 4) 2) 3)).1, (tw (smW (codL (.sl 1 s m y) (.arr (.int .u8) q 1 wq)) (pickA ((pickA (dwS (codL (.sl 1 s m y) (.arr (.int .u8) q 1 wq)) i).1 (IntKind.i64.wrap ((i : Int) + 1))) + 4) 2) 3)).2) := by unfold dwDr absI; rw [if_pos h1, if_pos h2, tw_neg]
            have hA4 := pickA_b (t := pickA ((pickA (dwS (codL (.sl 1 s m y) (.arr (.int .u8) q 1 wq)) i).1 (IntKind.i64.wrap ((i : Int) + 1))) + 4) 2 + 2) (n := 20) (by omega)
            by_cases hf : 0 ≤ dwFr (codL (.sl 1 s m y) (.arr (.int .u8) q 1 wq)) (dwS (codL (.sl 1 s m y) (.arr (.int .u8) q 1 wq)) i).1 i
            · have k3 : decide (0 ≤ IntKind.i64.wrap (pickV (codL (.sl 1 s m y) (.arr (.int .u8) q 1 wq)) (dwS (codL (.sl 1 s m y) (.arr (.int .u8) q 1 wq)) i).1 (IntKind.i64.wrap ((i : Int) + 1)) - 1)) = true := by rw [hFR]; exact decide_eq_true hf
              obtain ⟨p, hp⟩ := get_some (l := (dwS (codL (.sl 1 s m y) (.arr (.int .u8) q 1 wq)) i).2) (i := (dwFr (codL (.sl 1 s m y) (.arr (.int .u8) q 1 wq)) (dwS (codL (.sl 1 s m y) (.arr (.int .u8) q 1 wq)) i).1 i).toNat) (by omega)
              have hpg := htw _ _ hp
              have hgd := hpg.gd
              have hmd := hpg.md
              obtain ⟨nm0, fr0, ⟨⟨p0, q0⟩, p0', q0'⟩, ⟨dp0, dq0⟩, md0, gd0⟩ := p
              dsimp only at hgd hmd
              have hst : stAt ((dwS (codL (.sl 1 s m y) (.arr (.int .u8) q 1 wq)) i).2) (dwFr (codL (.sl 1 s m y) (.arr (.int .u8) q 1 wq)) (dwS (codL (.sl 1 s m y) (.arr (.int .u8) q 1 wq)) i).1 i) = (nm0, fr0, ((p0, q0), p0', q0'), (dp0, dq0), md0, gd0) := stAt_z hp
              have hn60 : IntKind.i64.wrap (min gd0 60 + 1) = dwN60 ((dwS (codL (.sl 1 s m y) (.arr (.int .u8) q 1 wq)) i).2) (dwFr (codL (.sl 1 s m y) (.arr (.int .u8) q 1 wq)) (dwS (codL (.sl 1 s m y) (.arr (.int .u8) q 1 wq)) i).1 i) := by unfold dwN60; rw [hst]; exact w64 (by omega)
              have hn6b : 1 ≤ dwN60 ((dwS (codL (.sl 1 s m y) (.arr (.int .u8) q 1 wq)) i).2) (dwFr (codL (.sl 1 s m y) (.arr (.int .u8) q 1 wq)) (dwS (codL (.sl 1 s m y) (.arr (.int .u8) q 1 wq)) i).1 i) ∧ dwN60 ((dwS (codL (.sl 1 s m y) (.arr (.int .u8) q 1 wq)) i).2) (dwFr (codL (.sl 1 s m y) (.arr (.int .u8) q 1 wq)) (dwS (codL (.sl 1 s m y) (.arr (.int .u8) q 1 wq)) i).1 i) ≤ 61 := by rw [← hn60, w64 (by omega)]; omega
              have hn6c : IntKind.i64.wrap (min gd0 60 + 1) ≤ 1000000000 := by rw [hn60]; omega
              have hv5 := pickV_b hb (pickA (pickA ((pickA (dwS (codL (.sl 1 s m y) (.arr (.int .u8) q 1 wq)) i).1 (IntKind.i64.wrap ((i : Int) + 1))) + 4) 2 + 2) 20) (IntKind.i64.wrap (min gd0 60 + 1))
              have hv6 := hv5.2 (by rw [hn60]; omega)
              have hmw : IntKind.i64.wrap (md0 + pickV (codL (.sl 1 s m y) (.arr (.int .u8) q 1 wq)) (pickA (pickA ((pickA (dwS (codL (.sl 1 s m y) (.arr (.int .u8) q 1 wq)) i).1 (IntKind.i64.wrap ((i : Int) + 1))) + 4) 2 + 2) 20) (IntKind.i64.wrap (min gd0 60 + 1))) = md0 + pickV (codL (.sl 1 s m y) (.arr (.int .u8) q 1 wq)) (pickA (pickA ((pickA (dwS (codL (.sl 1 s m y) (.arr (.int .u8) q 1 wq)) i).1 (IntKind.i64.wrap ((i : Int) + 1))) + 4) 2 + 2) 20) (IntKind.i64.wrap (min gd0 60 + 1)) := w64 (by omega)
              have k4 : decide (100000 < IntKind.i64.wrap (md0 + pickV (codL (.sl 1 s m y) (.arr (.int .u8) q 1 wq)) (pickA (pickA ((pickA (dwS (codL (.sl 1 s m y) (.arr (.int .u8) q 1 wq)) i).1 (IntKind.i64.wrap ((i : Int) + 1))) + 4) 2 + 2) 20) (IntKind.i64.wrap (min gd0 60 + 1)))) = false := by rw [hmw]; exact decide_eq_false (by omega)
              have hA5 := pickA_b (t := pickA (pickA ((pickA (dwS (codL (.sl 1 s m y) (.arr (.int .u8) q 1 wq)) i).1 (IntKind.i64.wrap ((i : Int) + 1))) + 4) 2 + 2) 20) (n := IntKind.i64.wrap (min gd0 60 + 1)) (by omega)
              have hfb : 0 ≤ IntKind.i64.wrap (pickV (codL (.sl 1 s m y) (.arr (.int .u8) q 1 wq)) (dwS (codL (.sl 1 s m y) (.arr (.int .u8) q 1 wq)) i).1 (IntKind.i64.wrap ((i : Int) + 1)) - 1) ∧ IntKind.i64.wrap (pickV (codL (.sl 1 s m y) (.arr (.int .u8) q 1 wq)) (dwS (codL (.sl 1 s m y) (.arr (.int .u8) q 1 wq)) i).1 (IntKind.i64.wrap ((i : Int) + 1)) - 1) < ((i : Nat) : Int) := by rw [hFR]; omega
              have hfn : 0 + (IntKind.i64.wrap (pickV (codL (.sl 1 s m y) (.arr (.int .u8) q 1 wq)) (dwS (codL (.sl 1 s m y) (.arr (.int .u8) q 1 wq)) i).1 (IntKind.i64.wrap ((i : Int) + 1)) - 1)).toNat = (dwFr (codL (.sl 1 s m y) (.arr (.int .u8) q 1 wq)) (dwS (codL (.sl 1 s m y) (.arr (.int .u8) q 1 wq)) i).1 i).toNat := by rw [hFR]; omega
              (repeat' ((try dsimp only); (try (conv => whnf)); first | (with_reducible first | refine And.intro ?_ ?_ | refine WX.of ?_) | exact zc | ((with_reducible refine VC.mk ?_); exact zw) | with_reducible refine atL_0 hnm ?_ | refine atL_q hp hfn ?_ | ((with_reducible refine VC.mk ?_); exact hfb) | ((with_reducible refine VC.mk ?_); exact hs2) | ((with_reducible refine VC.mk ?_); exact ⟨⟨⟨⟨rfl, h3⟩, by omega, rfl⟩, by omega⟩, by omega⟩) | ((with_reducible refine VC.mk ?_); exact ⟨⟨⟨⟨rfl, h3⟩, by omega, rfl⟩, by omega⟩, by decide⟩) | ((with_reducible refine VC.mk ?_); exact ⟨⟨⟨⟨rfl, h3⟩, by omega, rfl⟩, by omega⟩, by decide, by decide⟩) | ((with_reducible refine VC.mk ?_); exact ⟨⟨⟨⟨rfl, h3⟩, by omega, rfl⟩, by omega⟩, rfl, by decide, by decide⟩) | ((with_reducible refine splitT_of ?_ ?_); (focus (simp only [k1, k2, k3, k4, Bool.not_true, Bool.not_false, decide_true, decide_false]; done))) | ((with_reducible refine splitF_of ?_ ?_); (focus (simp only [k1, k2, k3, k4, Bool.not_true, Bool.not_false, decide_true, decide_false]; done))) | (with_reducible first | refine splitT ?_ | refine splitF ?_) | ((with_reducible refine splitM.mk (fun hsm => ?_) (fun hsm => ?_)) <;> (try exact zx)) | ((with_reducible refine splitB.mk (fun h => ?_) (fun h => ?_)) <;> (try simp only [zs, ne_eq] at h) <;> (try simp (disch := omega) only [w64] at h) <;> (try exact zx)) | (with_reducible intro hz; (try exact absurd hz (Nat.succ_ne_zero _)))))
              have eT5 : dwT5 (pickA ((pickA (dwS (codL (.sl 1 s m y) (.arr (.int .u8) q 1 wq)) i).1 (IntKind.i64.wrap ((i : Int) + 1))) + 4) 2 + 2) ((dwS (codL (.sl 1 s m y) (.arr (.int .u8) q 1 wq)) i).2) (dwFr (codL (.sl 1 s m y) (.arr (.int .u8) q 1 wq)) (dwS (codL (.sl 1 s m y) (.arr (.int .u8) q 1 wq)) i).1 i) = pickA (pickA (pickA ((pickA (dwS (codL (.sl 1 s m y) (.arr (.int .u8) q 1 wq)) i).1 (IntKind.i64.wrap ((i : Int) + 1))) + 4) 2 + 2) 20) (IntKind.i64.wrap (min gd0 60 + 1)) := by unfold dwT5; rw [if_pos hf, hn60]
              have eMd : dwMd (codL (.sl 1 s m y) (.arr (.int .u8) q 1 wq)) (pickA ((pickA (dwS (codL (.sl 1 s m y) (.arr (.int .u8) q 1 wq)) i).1 (IntKind.i64.wrap ((i : Int) + 1))) + 4) 2 + 2) ((dwS (codL (.sl 1 s m y) (.arr (.int .u8) q 1 wq)) i).2) (dwFr (codL (.sl 1 s m y) (.arr (.int .u8) q 1 wq)) (dwS (codL (.sl 1 s m y) (.arr (.int .u8) q 1 wq)) i).1 i) = IntKind.i64.wrap (md0 + pickV (codL (.sl 1 s m y) (.arr (.int .u8) q 1 wq)) (pickA (pickA ((pickA (dwS (codL (.sl 1 s m y) (.arr (.int .u8) q 1 wq)) i).1 (IntKind.i64.wrap ((i : Int) + 1))) + 4) 2 + 2) 20) (IntKind.i64.wrap (min gd0 60 + 1))) := by unfold dwMd; rw [if_pos hf, hst, hmw, hn60]
              have eTn : dwTn (codL (.sl 1 s m y) (.arr (.int .u8) q 1 wq)) (dwS (codL (.sl 1 s m y) (.arr (.int .u8) q 1 wq)) i).1 i ((dwS (codL (.sl 1 s m y) (.arr (.int .u8) q 1 wq)) i).2) = pickA (pickA (pickA (pickA ((pickA (dwS (codL (.sl 1 s m y) (.arr (.int .u8) q 1 wq)) i).1 (IntKind.i64.wrap ((i : Int) + 1))) + 4) 2 + 2) 20) (IntKind.i64.wrap (min gd0 60 + 1))) 6 := by unfold dwTn; rw [← eP1, eT3, eT5]
              have eX : dwSt (codL (.sl 1 s m y) (.arr (.int .u8) q 1 wq)) (dwS (codL (.sl 1 s m y) (.arr (.int .u8) q 1 wq)) i).1 i ((dwS (codL (.sl 1 s m y) (.arr (.int .u8) q 1 wq)) i).2) = (nmK i, IntKind.i64.wrap (pickV (codL (.sl 1 s m y) (.arr (.int .u8) q 1 wq)) (dwS (codL (.sl 1 s m y) (.arr (.int .u8) q 1 wq)) i).1 (IntKind.i64.wrap ((i : Int) + 1)) - 1), (tw (smW (codL (.sl 1 s m y) (.arr (.int .u8) q 1 wq)) (pickA (dwS (codL (.sl 1 s m y) (.arr (.int .u8) q 1 wq)) i).1 (IntKind.i64.wrap ((i : Int) + 1))) 8), tw (smW (codL (.sl 1 s m y) (.arr (.int .u8) q 1 wq)) (pickA (dwS (codL (.sl 1 s m y) (.arr (.int .u8) q 1 wq)) i).1 (IntKind.i64.wrap ((i : Int) + 1))) 8 + absI (smW (codL (.sl 1 s m y) (.arr (.int .u8) q 1 wq)) ((pickA (dwS (codL (.sl 1 s m y) (.arr (.int .u8) q 1 wq)) i).1 (IntKind.i64.wrap ((i : Int) + 1))) + 2) 6))), tw (dwDr (codL (.sl 1 s m y) (.arr (.int .u8) q 1 wq)) ((pickA (dwS (codL (.sl 1 s m y) (.arr (.int .u8) q 1 wq)) i).1 (IntKind.i64.wrap ((i : Int) + 1))) + 4)), IntKind.i64.wrap (md0 + pickV (codL (.sl 1 s m y) (.arr (.int .u8) q 1 wq)) (pickA (pickA ((pickA (dwS (codL (.sl 1 s m y) (.arr (.int .u8) q 1 wq)) i).1 (IntKind.i64.wrap ((i : Int) + 1))) + 4) 2 + 2) 20) (IntKind.i64.wrap (min gd0 60 + 1))), amV (codL (.sl 1 s m y) (.arr (.int .u8) q 1 wq)) (pickA (pickA (pickA ((pickA (dwS (codL (.sl 1 s m y) (.arr (.int .u8) q 1 wq)) i).1 (IntKind.i64.wrap ((i : Int) + 1))) + 4) 2 + 2) 20) (IntKind.i64.wrap (min gd0 60 + 1))) [0, 5, 30, 60, 100, 365]) := by
                unfold dwSt; rw [← eP1, eT3, eT5, eMd, hFR]; rfl
              rw [eDr] at eX
              refine ⟨i + 1, by omega, by omega, ?_⟩
              (repeat' ((try (conv => whnf)); first | (with_reducible first | refine And.intro ?_ ?_ | refine WX.of ?_) | exact zc | ((with_reducible refine VC.mk ?_); exact zw) | ((with_reducible refine VC.mk ?_); exact cellT eTn) | ((with_reducible refine VC.mk ?_); exact rowX hlenA eX.symm) | (with_reducible first | refine splitT ?_ | refine splitF ?_) | ((with_reducible refine splitM.mk (fun hsm => ?_) (fun hsm => ?_)) <;> (try exact zx)) | ((with_reducible refine splitB.mk (fun h => ?_) (fun h => ?_)) <;> (try simp only [zs, ne_eq] at h) <;> (try simp (disch := omega) only [w64] at h) <;> (try exact zx)) | (with_reducible intro hz; (try exact absurd hz (Nat.succ_ne_zero _)))))
            · have k3 : decide (0 ≤ IntKind.i64.wrap (pickV (codL (.sl 1 s m y) (.arr (.int .u8) q 1 wq)) (dwS (codL (.sl 1 s m y) (.arr (.int .u8) q 1 wq)) i).1 (IntKind.i64.wrap ((i : Int) + 1)) - 1)) = false := by rw [hFR]; exact decide_eq_false hf
              have hv5 := pickV_b hb (pickA ((pickA (dwS (codL (.sl 1 s m y) (.arr (.int .u8) q 1 wq)) i).1 (IntKind.i64.wrap ((i : Int) + 1))) + 4) 2 + 2) 20
              have hv6 := hv5.2 (by decide)
              have k4 : decide (100000 < pickV (codL (.sl 1 s m y) (.arr (.int .u8) q 1 wq)) (pickA ((pickA (dwS (codL (.sl 1 s m y) (.arr (.int .u8) q 1 wq)) i).1 (IntKind.i64.wrap ((i : Int) + 1))) + 4) 2 + 2) 20) = false := decide_eq_false (by omega)
              (repeat' ((try (conv => whnf)); first | (with_reducible first | refine And.intro ?_ ?_ | refine WX.of ?_) | exact zc | ((with_reducible refine VC.mk ?_); exact zw) | with_reducible refine atL_0 hnm ?_ | ((with_reducible refine VC.mk ?_); exact hs2) | ((with_reducible refine VC.mk ?_); exact ⟨⟨⟨⟨rfl, h3⟩, by omega, rfl⟩, by omega⟩, by omega⟩) | ((with_reducible refine VC.mk ?_); exact ⟨⟨⟨⟨rfl, h3⟩, by omega, rfl⟩, by omega⟩, by decide⟩) | ((with_reducible refine VC.mk ?_); exact ⟨⟨⟨⟨rfl, h3⟩, by omega, rfl⟩, by omega⟩, by decide, by decide⟩) | ((with_reducible refine VC.mk ?_); exact ⟨⟨⟨⟨rfl, h3⟩, by omega, rfl⟩, by omega⟩, rfl, by decide, by decide⟩) | ((with_reducible refine splitT_of ?_ ?_); (focus (simp only [k1, k2, k3, k4, Bool.not_true, Bool.not_false, decide_true, decide_false]; done))) | ((with_reducible refine splitF_of ?_ ?_); (focus (simp only [k1, k2, k3, k4, Bool.not_true, Bool.not_false, decide_true, decide_false]; done))) | (with_reducible first | refine splitT ?_ | refine splitF ?_) | ((with_reducible refine splitM.mk (fun hsm => ?_) (fun hsm => ?_)) <;> (try exact zx)) | ((with_reducible refine splitB.mk (fun h => ?_) (fun h => ?_)) <;> (try simp only [zs, ne_eq] at h) <;> (try simp (disch := omega) only [w64] at h) <;> (try exact zx)) | (with_reducible intro hz; (try exact absurd hz (Nat.succ_ne_zero _)))))
              have eT5 : dwT5 (pickA ((pickA (dwS (codL (.sl 1 s m y) (.arr (.int .u8) q 1 wq)) i).1 (IntKind.i64.wrap ((i : Int) + 1))) + 4) 2 + 2) ((dwS (codL (.sl 1 s m y) (.arr (.int .u8) q 1 wq)) i).2) (dwFr (codL (.sl 1 s m y) (.arr (.int .u8) q 1 wq)) (dwS (codL (.sl 1 s m y) (.arr (.int .u8) q 1 wq)) i).1 i) = pickA (pickA ((pickA (dwS (codL (.sl 1 s m y) (.arr (.int .u8) q 1 wq)) i).1 (IntKind.i64.wrap ((i : Int) + 1))) + 4) 2 + 2) 20 := by unfold dwT5; rw [if_neg hf]
              have eMd : dwMd (codL (.sl 1 s m y) (.arr (.int .u8) q 1 wq)) (pickA ((pickA (dwS (codL (.sl 1 s m y) (.arr (.int .u8) q 1 wq)) i).1 (IntKind.i64.wrap ((i : Int) + 1))) + 4) 2 + 2) ((dwS (codL (.sl 1 s m y) (.arr (.int .u8) q 1 wq)) i).2) (dwFr (codL (.sl 1 s m y) (.arr (.int .u8) q 1 wq)) (dwS (codL (.sl 1 s m y) (.arr (.int .u8) q 1 wq)) i).1 i) = pickV (codL (.sl 1 s m y) (.arr (.int .u8) q 1 wq)) (pickA ((pickA (dwS (codL (.sl 1 s m y) (.arr (.int .u8) q 1 wq)) i).1 (IntKind.i64.wrap ((i : Int) + 1))) + 4) 2 + 2) 20 := by unfold dwMd; rw [if_neg hf]
              have eTn : dwTn (codL (.sl 1 s m y) (.arr (.int .u8) q 1 wq)) (dwS (codL (.sl 1 s m y) (.arr (.int .u8) q 1 wq)) i).1 i ((dwS (codL (.sl 1 s m y) (.arr (.int .u8) q 1 wq)) i).2) = pickA (pickA (pickA ((pickA (dwS (codL (.sl 1 s m y) (.arr (.int .u8) q 1 wq)) i).1 (IntKind.i64.wrap ((i : Int) + 1))) + 4) 2 + 2) 20) 6 := by unfold dwTn; rw [← eP1, eT3, eT5]
              have eX : dwSt (codL (.sl 1 s m y) (.arr (.int .u8) q 1 wq)) (dwS (codL (.sl 1 s m y) (.arr (.int .u8) q 1 wq)) i).1 i ((dwS (codL (.sl 1 s m y) (.arr (.int .u8) q 1 wq)) i).2) = (nmK i, IntKind.i64.wrap (pickV (codL (.sl 1 s m y) (.arr (.int .u8) q 1 wq)) (dwS (codL (.sl 1 s m y) (.arr (.int .u8) q 1 wq)) i).1 (IntKind.i64.wrap ((i : Int) + 1)) - 1), (tw (smW (codL (.sl 1 s m y) (.arr (.int .u8) q 1 wq)) (pickA (dwS (codL (.sl 1 s m y) (.arr (.int .u8) q 1 wq)) i).1 (IntKind.i64.wrap ((i : Int) + 1))) 8), tw (smW (codL (.sl 1 s m y) (.arr (.int .u8) q 1 wq)) (pickA (dwS (codL (.sl 1 s m y) (.arr (.int .u8) q 1 wq)) i).1 (IntKind.i64.wrap ((i : Int) + 1))) 8 + absI (smW (codL (.sl 1 s m y) (.arr (.int .u8) q 1 wq)) ((pickA (dwS (codL (.sl 1 s m y) (.arr (.int .u8) q 1 wq)) i).1 (IntKind.i64.wrap ((i : Int) + 1))) + 2) 6))), tw (dwDr (codL (.sl 1 s m y) (.arr (.int .u8) q 1 wq)) ((pickA (dwS (codL (.sl 1 s m y) (.arr (.int .u8) q 1 wq)) i).1 (IntKind.i64.wrap ((i : Int) + 1))) + 4)), pickV (codL (.sl 1 s m y) (.arr (.int .u8) q 1 wq)) (pickA ((pickA (dwS (codL (.sl 1 s m y) (.arr (.int .u8) q 1 wq)) i).1 (IntKind.i64.wrap ((i : Int) + 1))) + 4) 2 + 2) 20, amV (codL (.sl 1 s m y) (.arr (.int .u8) q 1 wq)) (pickA (pickA ((pickA (dwS (codL (.sl 1 s m y) (.arr (.int .u8) q 1 wq)) i).1 (IntKind.i64.wrap ((i : Int) + 1))) + 4) 2 + 2) 20) [0, 5, 30, 60, 100, 365]) := by
                unfold dwSt; rw [← eP1, eT3, eT5, eMd, hFR]; rfl
              rw [eDr] at eX
              refine ⟨i + 1, by omega, by omega, ?_⟩
              (repeat' ((try (conv => whnf)); first | (with_reducible first | refine And.intro ?_ ?_ | refine WX.of ?_) | exact zc | ((with_reducible refine VC.mk ?_); exact zw) | ((with_reducible refine VC.mk ?_); exact cellT eTn) | ((with_reducible refine VC.mk ?_); exact rowX hlenA eX.symm) | (with_reducible first | refine splitT ?_ | refine splitF ?_) | ((with_reducible refine splitM.mk (fun hsm => ?_) (fun hsm => ?_)) <;> (try exact zx)) | ((with_reducible refine splitB.mk (fun h => ?_) (fun h => ?_)) <;> (try simp only [zs, ne_eq] at h) <;> (try simp (disch := omega) only [w64] at h) <;> (try exact zx)) | (with_reducible intro hz; (try exact absurd hz (Nat.succ_ne_zero _)))))
          · have k2 : decide ((tw (smW (codL (.sl 1 s m y) (.arr (.int .u8) q 1 wq)) (pickA ((pickA (dwS (codL (.sl 1 s m y) (.arr (.int .u8) q 1 wq)) i).1 (IntKind.i64.wrap ((i : Int) + 1))) + 4) 2) 3)).1 < 0) = false := decide_eq_false fun h => h2 (hsg.1.1 h)
            have eDr : tw (dwDr (codL (.sl 1 s m y) (.arr (.int .u8) q 1 wq)) ((pickA (dwS (codL (.sl 1 s m y) (.arr (.int .u8) q 1 wq)) i).1 (IntKind.i64.wrap ((i : Int) + 1))) + 4)) = tw (smW (codL (.sl 1 s m y) (.arr (.int .u8) q 1 wq)) (pickA ((pickA (dwS (codL (.sl 1 s m y) (.arr (.int .u8) q 1 wq)) i).1 (IntKind.i64.wrap ((i : Int) + 1))) + 4) 2) 3) := by unfold dwDr absI; rw [if_pos h1, if_neg h2]
            have hA4 := pickA_b (t := pickA ((pickA (dwS (codL (.sl 1 s m y) (.arr (.int .u8) q 1 wq)) i).1 (IntKind.i64.wrap ((i : Int) + 1))) + 4) 2 + 2) (n := 20) (by omega)
            by_cases hf : 0 ≤ dwFr (codL (.sl 1 s m y) (.arr (.int .u8) q 1 wq)) (dwS (codL (.sl 1 s m y) (.arr (.int .u8) q 1 wq)) i).1 i
            · have k3 : decide (0 ≤ IntKind.i64.wrap (pickV (codL (.sl 1 s m y) (.arr (.int .u8) q 1 wq)) (dwS (codL (.sl 1 s m y) (.arr (.int .u8) q 1 wq)) i).1 (IntKind.i64.wrap ((i : Int) + 1)) - 1)) = true := by rw [hFR]; exact decide_eq_true hf
              obtain ⟨p, hp⟩ := get_some (l := (dwS (codL (.sl 1 s m y) (.arr (.int .u8) q 1 wq)) i).2) (i := (dwFr (codL (.sl 1 s m y) (.arr (.int .u8) q 1 wq)) (dwS (codL (.sl 1 s m y) (.arr (.int .u8) q 1 wq)) i).1 i).toNat) (by omega)
              have hpg := htw _ _ hp
              have hgd := hpg.gd
              have hmd := hpg.md
              obtain ⟨nm0, fr0, ⟨⟨p0, q0⟩, p0', q0'⟩, ⟨dp0, dq0⟩, md0, gd0⟩ := p
              dsimp only at hgd hmd
              have hst : stAt ((dwS (codL (.sl 1 s m y) (.arr (.int .u8) q 1 wq)) i).2) (dwFr (codL (.sl 1 s m y) (.arr (.int .u8) q 1 wq)) (dwS (codL (.sl 1 s m y) (.arr (.int .u8) q 1 wq)) i).1 i) = (nm0, fr0, ((p0, q0), p0', q0'), (dp0, dq0), md0, gd0) := stAt_z hp
              have hn60 : IntKind.i64.wrap (min gd0 60 + 1) = dwN60 ((dwS (codL (.sl 1 s m y) (.arr (.int .u8) q 1 wq)) i).2) (dwFr (codL (.sl 1 s m y) (.arr (.int .u8) q 1 wq)) (dwS (codL (.sl 1 s m y) (.arr (.int .u8) q 1 wq)) i).1 i) := by unfold dwN60; rw [hst]; exact w64 (by omega)
              have hn6b : 1 ≤ dwN60 ((dwS (codL (.sl 1 s m y) (.arr (.int .u8) q 1 wq)) i).2) (dwFr (codL (.sl 1 s m y) (.arr (.int .u8) q 1 wq)) (dwS (codL (.sl 1 s m y) (.arr (.int .u8) q 1 wq)) i).1 i) ∧ dwN60 ((dwS (codL (.sl 1 s m y) (.arr (.int .u8) q 1 wq)) i).2) (dwFr (codL (.sl 1 s m y) (.arr (.int .u8) q 1 wq)) (dwS (codL (.sl 1 s m y) (.arr (.int .u8) q 1 wq)) i).1 i) ≤ 61 := by rw [← hn60, w64 (by omega)]; omega
              have hn6c : IntKind.i64.wrap (min gd0 60 + 1) ≤ 1000000000 := by rw [hn60]; omega
              have hv5 := pickV_b hb (pickA (pickA ((pickA (dwS (codL (.sl 1 s m y) (.arr (.int .u8) q 1 wq)) i).1 (IntKind.i64.wrap ((i : Int) + 1))) + 4) 2 + 2) 20) (IntKind.i64.wrap (min gd0 60 + 1))
              have hv6 := hv5.2 (by rw [hn60]; omega)
              have hmw : IntKind.i64.wrap (md0 + pickV (codL (.sl 1 s m y) (.arr (.int .u8) q 1 wq)) (pickA (pickA ((pickA (dwS (codL (.sl 1 s m y) (.arr (.int .u8) q 1 wq)) i).1 (IntKind.i64.wrap ((i : Int) + 1))) + 4) 2 + 2) 20) (IntKind.i64.wrap (min gd0 60 + 1))) = md0 + pickV (codL (.sl 1 s m y) (.arr (.int .u8) q 1 wq)) (pickA (pickA ((pickA (dwS (codL (.sl 1 s m y) (.arr (.int .u8) q 1 wq)) i).1 (IntKind.i64.wrap ((i : Int) + 1))) + 4) 2 + 2) 20) (IntKind.i64.wrap (min gd0 60 + 1)) := w64 (by omega)
              have k4 : decide (100000 < IntKind.i64.wrap (md0 + pickV (codL (.sl 1 s m y) (.arr (.int .u8) q 1 wq)) (pickA (pickA ((pickA (dwS (codL (.sl 1 s m y) (.arr (.int .u8) q 1 wq)) i).1 (IntKind.i64.wrap ((i : Int) + 1))) + 4) 2 + 2) 20) (IntKind.i64.wrap (min gd0 60 + 1)))) = false := by rw [hmw]; exact decide_eq_false (by omega)
              have hA5 := pickA_b (t := pickA (pickA ((pickA (dwS (codL (.sl 1 s m y) (.arr (.int .u8) q 1 wq)) i).1 (IntKind.i64.wrap ((i : Int) + 1))) + 4) 2 + 2) 20) (n := IntKind.i64.wrap (min gd0 60 + 1)) (by omega)
              have hfb : 0 ≤ IntKind.i64.wrap (pickV (codL (.sl 1 s m y) (.arr (.int .u8) q 1 wq)) (dwS (codL (.sl 1 s m y) (.arr (.int .u8) q 1 wq)) i).1 (IntKind.i64.wrap ((i : Int) + 1)) - 1) ∧ IntKind.i64.wrap (pickV (codL (.sl 1 s m y) (.arr (.int .u8) q 1 wq)) (dwS (codL (.sl 1 s m y) (.arr (.int .u8) q 1 wq)) i).1 (IntKind.i64.wrap ((i : Int) + 1)) - 1) < ((i : Nat) : Int) := by rw [hFR]; omega
              have hfn : 0 + (IntKind.i64.wrap (pickV (codL (.sl 1 s m y) (.arr (.int .u8) q 1 wq)) (dwS (codL (.sl 1 s m y) (.arr (.int .u8) q 1 wq)) i).1 (IntKind.i64.wrap ((i : Int) + 1)) - 1)).toNat = (dwFr (codL (.sl 1 s m y) (.arr (.int .u8) q 1 wq)) (dwS (codL (.sl 1 s m y) (.arr (.int .u8) q 1 wq)) i).1 i).toNat := by rw [hFR]; omega
              (repeat' ((try dsimp only); (try (conv => whnf)); first | (with_reducible first | refine And.intro ?_ ?_ | refine WX.of ?_) | exact zc | ((with_reducible refine VC.mk ?_); exact zw) | with_reducible refine atL_0 hnm ?_ | refine atL_q hp hfn ?_ | ((with_reducible refine VC.mk ?_); exact hfb) | ((with_reducible refine VC.mk ?_); exact ⟨⟨⟨⟨rfl, h3⟩, by omega, rfl⟩, by omega⟩, by omega⟩) | ((with_reducible refine VC.mk ?_); exact ⟨⟨⟨⟨rfl, h3⟩, by omega, rfl⟩, by omega⟩, by decide⟩) | ((with_reducible refine VC.mk ?_); exact ⟨⟨⟨⟨rfl, h3⟩, by omega, rfl⟩, by omega⟩, by decide, by decide⟩) | ((with_reducible refine VC.mk ?_); exact ⟨⟨⟨⟨rfl, h3⟩, by omega, rfl⟩, by omega⟩, rfl, by decide, by decide⟩) | ((with_reducible refine splitT_of ?_ ?_); (focus (simp only [k1, k2, k3, k4, Bool.not_true, Bool.not_false, decide_true, decide_false]; done))) | ((with_reducible refine splitF_of ?_ ?_); (focus (simp only [k1, k2, k3, k4, Bool.not_true, Bool.not_false, decide_true, decide_false]; done))) | (with_reducible first | refine splitT ?_ | refine splitF ?_) | ((with_reducible refine splitM.mk (fun hsm => ?_) (fun hsm => ?_)) <;> (try exact zx)) | ((with_reducible refine splitB.mk (fun h => ?_) (fun h => ?_)) <;> (try simp only [zs, ne_eq] at h) <;> (try simp (disch := omega) only [w64] at h) <;> (try exact zx)) | (with_reducible intro hz; (try exact absurd hz (Nat.succ_ne_zero _)))))
              have eT5 : dwT5 (pickA ((pickA (dwS (codL (.sl 1 s m y) (.arr (.int .u8) q 1 wq)) i).1 (IntKind.i64.wrap ((i : Int) + 1))) + 4) 2 + 2) ((dwS (codL (.sl 1 s m y) (.arr (.int .u8) q 1 wq)) i).2) (dwFr (codL (.sl 1 s m y) (.arr (.int .u8) q 1 wq)) (dwS (codL (.sl 1 s m y) (.arr (.int .u8) q 1 wq)) i).1 i) = pickA (pickA (pickA ((pickA (dwS (codL (.sl 1 s m y) (.arr (.int .u8) q 1 wq)) i).1 (IntKind.i64.wrap ((i : Int) + 1))) + 4) 2 + 2) 20) (IntKind.i64.wrap (min gd0 60 + 1)) := by unfold dwT5; rw [if_pos hf, hn60]
              have eMd : dwMd (codL (.sl 1 s m y) (.arr (.int .u8) q 1 wq)) (pickA ((pickA (dwS (codL (.sl 1 s m y) (.arr (.int .u8) q 1 wq)) i).1 (IntKind.i64.wrap ((i : Int) + 1))) + 4) 2 + 2) ((dwS (codL (.sl 1 s m y) (.arr (.int .u8) q 1 wq)) i).2) (dwFr (codL (.sl 1 s m y) (.arr (.int .u8) q 1 wq)) (dwS (codL (.sl 1 s m y) (.arr (.int .u8) q 1 wq)) i).1 i) = IntKind.i64.wrap (md0 + pickV (codL (.sl 1 s m y) (.arr (.int .u8) q 1 wq)) (pickA (pickA ((pickA (dwS (codL (.sl 1 s m y) (.arr (.int .u8) q 1 wq)) i).1 (IntKind.i64.wrap ((i : Int) + 1))) + 4) 2 + 2) 20) (IntKind.i64.wrap (min gd0 60 + 1))) := by unfold dwMd; rw [if_pos hf, hst, hmw, hn60]
              have eTn : dwTn (codL (.sl 1 s m y) (.arr (.int .u8) q 1 wq)) (dwS (codL (.sl 1 s m y) (.arr (.int .u8) q 1 wq)) i).1 i ((dwS (codL (.sl 1 s m y) (.arr (.int .u8) q 1 wq)) i).2) = pickA (pickA (pickA (pickA ((pickA (dwS (codL (.sl 1 s m y) (.arr (.int .u8) q 1 wq)) i).1 (IntKind.i64.wrap ((i : Int) + 1))) + 4) 2 + 2) 20) (IntKind.i64.wrap (min gd0 60 + 1))) 6 := by unfold dwTn; rw [← eP1, eT3, eT5]
              have eX : dwSt (codL (.sl 1 s m y) (.arr (.int .u8) q 1 wq)) (dwS (codL (.sl 1 s m y) (.arr (.int .u8) q 1 wq)) i).1 i ((dwS (codL (.sl 1 s m y) (.arr (.int .u8) q 1 wq)) i).2) = (nmK i, IntKind.i64.wrap (pickV (codL (.sl 1 s m y) (.arr (.int .u8) q 1 wq)) (dwS (codL (.sl 1 s m y) (.arr (.int .u8) q 1 wq)) i).1 (IntKind.i64.wrap ((i : Int) + 1)) - 1), (tw (smW (codL (.sl 1 s m y) (.arr (.int .u8) q 1 wq)) (pickA (dwS (codL (.sl 1 s m y) (.arr (.int .u8) q 1 wq)) i).1 (IntKind.i64.wrap ((i : Int) + 1))) 8), tw (smW (codL (.sl 1 s m y) (.arr (.int .u8) q 1 wq)) (pickA (dwS (codL (.sl 1 s m y) (.arr (.int .u8) q 1 wq)) i).1 (IntKind.i64.wrap ((i : Int) + 1))) 8 + absI (smW (codL (.sl 1 s m y) (.arr (.int .u8) q 1 wq)) ((pickA (dwS (codL (.sl 1 s m y) (.arr (.int .u8) q 1 wq)) i).1 (IntKind.i64.wrap ((i : Int) + 1))) + 2) 6))), tw (dwDr (codL (.sl 1 s m y) (.arr (.int .u8) q 1 wq)) ((pickA (dwS (codL (.sl 1 s m y) (.arr (.int .u8) q 1 wq)) i).1 (IntKind.i64.wrap ((i : Int) + 1))) + 4)), IntKind.i64.wrap (md0 + pickV (codL (.sl 1 s m y) (.arr (.int .u8) q 1 wq)) (pickA (pickA ((pickA (dwS (codL (.sl 1 s m y) (.arr (.int .u8) q 1 wq)) i).1 (IntKind.i64.wrap ((i : Int) + 1))) + 4) 2 + 2) 20) (IntKind.i64.wrap (min gd0 60 + 1))), amV (codL (.sl 1 s m y) (.arr (.int .u8) q 1 wq)) (pickA (pickA (pickA ((pickA (dwS (codL (.sl 1 s m y) (.arr (.int .u8) q 1 wq)) i).1 (IntKind.i64.wrap ((i : Int) + 1))) + 4) 2 + 2) 20) (IntKind.i64.wrap (min gd0 60 + 1))) [0, 5, 30, 60, 100, 365]) := by
                unfold dwSt; rw [← eP1, eT3, eT5, eMd, hFR]; rfl
              rw [eDr] at eX
              refine ⟨i + 1, by omega, by omega, ?_⟩
              (repeat' ((try (conv => whnf)); first | (with_reducible first | refine And.intro ?_ ?_ | refine WX.of ?_) | exact zc | ((with_reducible refine VC.mk ?_); exact zw) | ((with_reducible refine VC.mk ?_); exact cellT eTn) | ((with_reducible refine VC.mk ?_); exact rowX hlenA eX.symm) | (with_reducible first | refine splitT ?_ | refine splitF ?_) | ((with_reducible refine splitM.mk (fun hsm => ?_) (fun hsm => ?_)) <;> (try exact zx)) | ((with_reducible refine splitB.mk (fun h => ?_) (fun h => ?_)) <;> (try simp only [zs, ne_eq] at h) <;> (try simp (disch := omega) only [w64] at h) <;> (try exact zx)) | (with_reducible intro hz; (try exact absurd hz (Nat.succ_ne_zero _)))))
            · have k3 : decide (0 ≤ IntKind.i64.wrap (pickV (codL (.sl 1 s m y) (.arr (.int .u8) q 1 wq)) (dwS (codL (.sl 1 s m y) (.arr (.int .u8) q 1 wq)) i).1 (IntKind.i64.wrap ((i : Int) + 1)) - 1)) = false := by rw [hFR]; exact decide_eq_false hf
              have hv5 := pickV_b hb (pickA ((pickA (dwS (codL (.sl 1 s m y) (.arr (.int .u8) q 1 wq)) i).1 (IntKind.i64.wrap ((i : Int) + 1))) + 4) 2 + 2) 20
              have hv6 := hv5.2 (by decide)
              have k4 : decide (100000 < pickV (codL (.sl 1 s m y) (.arr (.int .u8) q 1 wq)) (pickA ((pickA (dwS (codL (.sl 1 s m y) (.arr (.int .u8) q 1 wq)) i).1 (IntKind.i64.wrap ((i : Int) + 1))) + 4) 2 + 2) 20) = false := decide_eq_false (by omega)
              (repeat' ((try (conv => whnf)); first | (with_reducible first | refine And.intro ?_ ?_ | refine WX.of ?_) | exact zc | ((with_reducible refine VC.mk ?_); exact zw) | with_reducible refine atL_0 hnm ?_ | ((with_reducible refine VC.mk ?_); exact ⟨⟨⟨⟨rfl, h3⟩, by omega, rfl⟩, by omega⟩, by omega⟩) | ((with_reducible refine VC.mk ?_); exact ⟨⟨⟨⟨rfl, h3⟩, by omega, rfl⟩, by omega⟩, by decide⟩) | ((with_reducible refine VC.mk ?_); exact ⟨⟨⟨⟨rfl, h3⟩, by omega, rfl⟩, by omega⟩, by decide, by decide⟩) | ((with_reducible refine VC.mk ?_); exact ⟨⟨⟨⟨rfl, h3⟩, by omega, rfl⟩, by omega⟩, rfl, by decide, by decide⟩) | ((with_reducible refine splitT_of ?_ ?_); (focus (simp only [k1, k2, k3, k4, Bool.not_true, Bool.not_false, decide_true, decide_false]; done))) | ((with_reducible refine splitF_of ?_ ?_); (focus (simp only [k1, k2, k3, k4, Bool.not_true, Bool.not_false, decide_true, decide_false]; done))) | (with_reducible first | refine splitT ?_ | refine splitF ?_) | ((with_reducible refine splitM.mk (fun hsm => ?_) (fun hsm => ?_)) <;> (try exact zx)) | ((with_reducible refine splitB.mk (fun h => ?_) (fun h => ?_)) <;> (try simp only [zs, ne_eq] at h) <;> (try simp (disch := omega) only [w64] at h) <;> (try exact zx)) | (with_reducible intro hz; (try exact absurd hz (Nat.succ_ne_zero _)))))
              have eT5 : dwT5 (pickA ((pickA (dwS (codL (.sl 1 s m y) (.arr (.int .u8) q 1 wq)) i).1 (IntKind.i64.wrap ((i : Int) + 1))) + 4) 2 + 2) ((dwS (codL (.sl 1 s m y) (.arr (.int .u8) q 1 wq)) i).2) (dwFr (codL (.sl 1 s m y) (.arr (.int .u8) q 1 wq)) (dwS (codL (.sl 1 s m y) (.arr (.int .u8) q 1 wq)) i).1 i) = pickA (pickA ((pickA (dwS (codL (.sl 1 s m y) (.arr (.int .u8) q 1 wq)) i).1 (IntKind.i64.wrap ((i : Int) + 1))) + 4) 2 + 2) 20 := by unfold dwT5; rw [if_neg hf]
              have eMd : dwMd (codL (.sl 1 s m y) (.arr (.int .u8) q 1 wq)) (pickA ((pickA (dwS (codL (.sl 1 s m y) (.arr (.int .u8) q 1 wq)) i).1 (IntKind.i64.wrap ((i : Int) + 1))) + 4) 2 + 2) ((dwS (codL (.sl 1 s m y) (.arr (.int .u8) q 1 wq)) i).2) (dwFr (codL (.sl 1 s m y) (.arr (.int .u8) q 1 wq)) (dwS (codL (.sl 1 s m y) (.arr (.int .u8) q 1 wq)) i).1 i) = pickV (codL (.sl 1 s m y) (.arr (.int .u8) q 1 wq)) (pickA ((pickA (dwS (codL (.sl 1 s m y) (.arr (.int .u8) q 1 wq)) i).1 (IntKind.i64.wrap ((i : Int) + 1))) + 4) 2 + 2) 20 := by unfold dwMd; rw [if_neg hf]
              have eTn : dwTn (codL (.sl 1 s m y) (.arr (.int .u8) q 1 wq)) (dwS (codL (.sl 1 s m y) (.arr (.int .u8) q 1 wq)) i).1 i ((dwS (codL (.sl 1 s m y) (.arr (.int .u8) q 1 wq)) i).2) = pickA (pickA (pickA ((pickA (dwS (codL (.sl 1 s m y) (.arr (.int .u8) q 1 wq)) i).1 (IntKind.i64.wrap ((i : Int) + 1))) + 4) 2 + 2) 20) 6 := by unfold dwTn; rw [← eP1, eT3, eT5]
              have eX : dwSt (codL (.sl 1 s m y) (.arr (.int .u8) q 1 wq)) (dwS (codL (.sl 1 s m y) (.arr (.int .u8) q 1 wq)) i).1 i ((dwS (codL (.sl 1 s m y) (.arr (.int .u8) q 1 wq)) i).2) = (nmK i, IntKind.i64.wrap (pickV (codL (.sl 1 s m y) (.arr (.int .u8) q 1 wq)) (dwS (codL (.sl 1 s m y) (.arr (.int .u8) q 1 wq)) i).1 (IntKind.i64.wrap ((i : Int) + 1)) - 1), (tw (smW (codL (.sl 1 s m y) (.arr (.int .u8) q 1 wq)) (pickA (dwS (codL (.sl 1 s m y) (.arr (.int .u8) q 1 wq)) i).1 (IntKind.i64.wrap ((i : Int) + 1))) 8), tw (smW (codL (.sl 1 s m y) (.arr (.int .u8) q 1 wq)) (pickA (dwS (codL (.sl 1 s m y) (.arr (.int .u8) q 1 wq)) i).1 (IntKind.i64.wrap ((i : Int) + 1))) 8 + absI (smW (codL (.sl 1 s m y) (.arr (.int .u8) q 1 wq)) ((pickA (dwS (codL (.sl 1 s m y) (.arr (.int .u8) q 1 wq)) i).1 (IntKind.i64.wrap ((i : Int) + 1))) + 2) 6))), tw (dwDr (codL (.sl 1 s m y) (.arr (.int .u8) q 1 wq)) ((pickA (dwS (codL (.sl 1 s m y) (.arr (.int .u8) q 1 wq)) i).1 (IntKind.i64.wrap ((i : Int) + 1))) + 4)), pickV (codL (.sl 1 s m y) (.arr (.int .u8) q 1 wq)) (pickA ((pickA (dwS (codL (.sl 1 s m y) (.arr (.int .u8) q 1 wq)) i).1 (IntKind.i64.wrap ((i : Int) + 1))) + 4) 2 + 2) 20, amV (codL (.sl 1 s m y) (.arr (.int .u8) q 1 wq)) (pickA (pickA ((pickA (dwS (codL (.sl 1 s m y) (.arr (.int .u8) q 1 wq)) i).1 (IntKind.i64.wrap ((i : Int) + 1))) + 4) 2 + 2) 20) [0, 5, 30, 60, 100, 365]) := by
                unfold dwSt; rw [← eP1, eT3, eT5, eMd, hFR]; rfl
              rw [eDr] at eX
              refine ⟨i + 1, by omega, by omega, ?_⟩
              (repeat' ((try (conv => whnf)); first | (with_reducible first | refine And.intro ?_ ?_ | refine WX.of ?_) | exact zc | ((with_reducible refine VC.mk ?_); exact zw) | ((with_reducible refine VC.mk ?_); exact cellT eTn) | ((with_reducible refine VC.mk ?_); exact rowX hlenA eX.symm) | (with_reducible first | refine splitT ?_ | refine splitF ?_) | ((with_reducible refine splitM.mk (fun hsm => ?_) (fun hsm => ?_)) <;> (try exact zx)) | ((with_reducible refine splitB.mk (fun h => ?_) (fun h => ?_)) <;> (try simp only [zs, ne_eq] at h) <;> (try simp (disch := omega) only [w64] at h) <;> (try exact zx)) | (with_reducible intro hz; (try exact absurd hz (Nat.succ_ne_zero _)))))
        · have k1 : decide (pickV (codL (.sl 1 s m y) (.arr (.int .u8) q 1 wq)) ((pickA (dwS (codL (.sl 1 s m y) (.arr (.int .u8) q 1 wq)) i).1 (IntKind.i64.wrap ((i : Int) + 1))) + 4) 2 = 0) = false := decide_eq_false h1
          have eT3 : dwT3 (codL (.sl 1 s m y) (.arr (.int .u8) q 1 wq)) ((pickA (dwS (codL (.sl 1 s m y) (.arr (.int .u8) q 1 wq)) i).1 (IntKind.i64.wrap ((i : Int) + 1))) + 4) = pickA ((pickA (dwS (codL (.sl 1 s m y) (.arr (.int .u8) q 1 wq)) i).1 (IntKind.i64.wrap ((i : Int) + 1))) + 4) 2 := if_neg h1
          have eDr : tw (dwDr (codL (.sl 1 s m y) (.arr (.int .u8) q 1 wq)) ((pickA (dwS (codL (.sl 1 s m y) (.arr (.int .u8) q 1 wq)) i).1 (IntKind.i64.wrap ((i : Int) + 1))) + 4)) = (0, 1) := by unfold dwDr; rw [if_neg h1, tw_0]
          have hA4 := pickA_b (t := pickA ((pickA (dwS (codL (.sl 1 s m y) (.arr (.int .u8) q 1 wq)) i).1 (IntKind.i64.wrap ((i : Int) + 1))) + 4) 2) (n := 20) (by omega)
          by_cases hf : 0 ≤ dwFr (codL (.sl 1 s m y) (.arr (.int .u8) q 1 wq)) (dwS (codL (.sl 1 s m y) (.arr (.int .u8) q 1 wq)) i).1 i
          · have k3 : decide (0 ≤ IntKind.i64.wrap (pickV (codL (.sl 1 s m y) (.arr (.int .u8) q 1 wq)) (dwS (codL (.sl 1 s m y) (.arr (.int .u8) q 1 wq)) i).1 (IntKind.i64.wrap ((i : Int) + 1)) - 1)) = true := by rw [hFR]; exact decide_eq_true hf
            obtain ⟨p, hp⟩ := get_some (l := (dwS (codL (.sl 1 s m y) (.arr (.int .u8) q 1 wq)) i).2) (i := (dwFr (codL (.sl 1 s m y) (.arr (.int .u8) q 1 wq)) (dwS (codL (.sl 1 s m y) (.arr (.int .u8) q 1 wq)) i).1 i).toNat) (by omega)
            have hpg := htw _ _ hp
            have hgd := hpg.gd
            have hmd := hpg.md
            obtain ⟨nm0, fr0, ⟨⟨p0, q0⟩, p0', q0'⟩, ⟨dp0, dq0⟩, md0, gd0⟩ := p
            dsimp only at hgd hmd
            have hst : stAt ((dwS (codL (.sl 1 s m y) (.arr (.int .u8) q 1 wq)) i).2) (dwFr (codL (.sl 1 s m y) (.arr (.int .u8) q 1 wq)) (dwS (codL (.sl 1 s m y) (.arr (.int .u8) q 1 wq)) i).1 i) = (nm0, fr0, ((p0, q0), p0', q0'), (dp0, dq0), md0, gd0) := stAt_z hp
            have hn60 : IntKind.i64.wrap (min gd0 60 + 1) = dwN60 ((dwS (codL (.sl 1 s m y) (.arr (.int .u8) q 1 wq)) i).2) (dwFr (codL (.sl 1 s m y) (.arr (.int .u8) q 1 wq)) (dwS (codL (.sl 1 s m y) (.arr (.int .u8) q 1 wq)) i).1 i) := by unfold dwN60; rw [hst]; exact w64 (by omega)
            have hn6b : 1 ≤ dwN60 ((dwS (codL (.sl 1 s m y) (.arr (.int .u8) q 1 wq)) i).2) (dwFr (codL (.sl 1 s m y) (.arr (.int .u8) q 1 wq)) (dwS (codL (.sl 1 s m y) (.arr (.int .u8) q 1 wq)) i).1 i) ∧ dwN60 ((dwS (codL (.sl 1 s m y) (.arr (.int .u8) q 1 wq)) i).2) (dwFr (codL (.sl 1 s m y) (.arr (.int .u8) q 1 wq)) (dwS (codL (.sl 1 s m y) (.arr (.int .u8) q 1 wq)) i).1 i) ≤ 61 := by rw [← hn60, w64 (by omega)]; omega
            have hn6c : IntKind.i64.wrap (min gd0 60 + 1) ≤ 1000000000 := by rw [hn60]; omega
            have hv5 := pickV_b hb (pickA (pickA ((pickA (dwS (codL (.sl 1 s m y) (.arr (.int .u8) q 1 wq)) i).1 (IntKind.i64.wrap ((i : Int) + 1))) + 4) 2) 20) (IntKind.i64.wrap (min gd0 60 + 1))
            have hv6 := hv5.2 (by rw [hn60]; omega)
            have hmw : IntKind.i64.wrap (md0 + pickV (codL (.sl 1 s m y) (.arr (.int .u8) q 1 wq)) (pickA (pickA ((pickA (dwS (codL (.sl 1 s m y) (.arr (.int .u8) q 1 wq)) i).1 (IntKind.i64.wrap ((i : Int) + 1))) + 4) 2) 20) (IntKind.i64.wrap (min gd0 60 + 1))) = md0 + pickV (codL (.sl 1 s m y) (.arr (.int .u8) q 1 wq)) (pickA (pickA ((pickA (dwS (codL (.sl 1 s m y) (.arr (.int .u8) q 1 wq)) i).1 (IntKind.i64.wrap ((i : Int) + 1))) + 4) 2) 20) (IntKind.i64.wrap (min gd0 60 + 1)) := w64 (by omega)
            have k4 : decide (100000 < IntKind.i64.wrap (md0 + pickV (codL (.sl 1 s m y) (.arr (.int .u8) q 1 wq)) (pickA (pickA ((pickA (dwS (codL (.sl 1 s m y) (.arr (.int .u8) q 1 wq)) i).1 (IntKind.i64.wrap ((i : Int) + 1))) + 4) 2) 20) (IntKind.i64.wrap (min gd0 60 + 1)))) = false := by rw [hmw]; exact decide_eq_false (by omega)
            have hA5 := pickA_b (t := pickA (pickA ((pickA (dwS (codL (.sl 1 s m y) (.arr (.int .u8) q 1 wq)) i).1 (IntKind.i64.wrap ((i : Int) + 1))) + 4) 2) 20) (n := IntKind.i64.wrap (min gd0 60 + 1)) (by omega)
            have hfb : 0 ≤ IntKind.i64.wrap (pickV (codL (.sl 1 s m y) (.arr (.int .u8) q 1 wq)) (dwS (codL (.sl 1 s m y) (.arr (.int .u8) q 1 wq)) i).1 (IntKind.i64.wrap ((i : Int) + 1)) - 1) ∧ IntKind.i64.wrap (pickV (codL (.sl 1 s m y) (.arr (.int .u8) q 1 wq)) (dwS (codL (.sl 1 s m y) (.arr (.int .u8) q 1 wq)) i).1 (IntKind.i64.wrap ((i : Int) + 1)) - 1) < ((i : Nat) : Int) := by rw [hFR]; omega
            have hfn : 0 + (IntKind.i64.wrap (pickV (codL (.sl 1 s m y) (.arr (.int .u8) q 1 wq)) (dwS (codL (.sl 1 s m y) (.arr (.int .u8) q 1 wq)) i).1 (IntKind.i64.wrap ((i : Int) + 1)) - 1)).toNat = (dwFr (codL (.sl 1 s m y) (.arr (.int .u8) q 1 wq)) (dwS (codL (.sl 1 s m y) (.arr (.int .u8) q 1 wq)) i).1 i).toNat := by rw [hFR]; omega
            (repeat' ((try dsimp only); (try (conv => whnf)); first | (with_reducible first | refine And.intro ?_ ?_ | refine WX.of ?_) | exact zc | ((with_reducible refine VC.mk ?_); exact zw) | with_reducible refine atL_0 hnm ?_ | refine atL_q hp hfn ?_ | ((with_reducible refine VC.mk ?_); exact hfb) | ((with_reducible refine VC.mk ?_); exact ⟨⟨⟨⟨rfl, h3⟩, by omega, rfl⟩, by omega⟩, by omega⟩) | ((with_reducible refine VC.mk ?_); exact ⟨⟨⟨⟨rfl, h3⟩, by omega, rfl⟩, by omega⟩, by decide⟩) | ((with_reducible refine VC.mk ?_); exact ⟨⟨⟨⟨rfl, h3⟩, by omega, rfl⟩, by omega⟩, by decide, by decide⟩) | ((with_reducible refine VC.mk ?_); exact ⟨⟨⟨⟨rfl, h3⟩, by omega, rfl⟩, by omega⟩, rfl, by decide, by decide⟩) | ((with_reducible refine splitT_of ?_ ?_); (focus (simp only [k1, k3, k4, Bool.not_true, Bool.not_false, decide_true, decide_false]; done))) | ((with_reducible refine splitF_of ?_ ?_); (focus (simp only [k1, k3, k4, Bool.not_true, Bool.not_false, decide_true, decide_false]; done))) | (with_reducible first | refine splitT ?_ | refine splitF ?_) | ((with_reducible refine splitM.mk (fun hsm => ?_) (fun hsm => ?_)) <;> (try exact zx)) | ((with_reducible refine splitB.mk (fun h => ?_) (fun h => ?_)) <;> (try simp only [zs, ne_eq] at h) <;> (try simp (disch := omega) only [w64] at h) <;> (try exact zx)) | (with_reducible intro hz; (try exact absurd hz (Nat.succ_ne_zero _)))))
            have eT5 : dwT5 (pickA ((pickA (dwS (codL (.sl 1 s m y) (.arr (.int .u8) q 1 wq)) i).1 (IntKind.i64.wrap ((i : Int) + 1))) + 4) 2) ((dwS (codL (.sl 1 s m y) (.arr (.int .u8) q 1 wq)) i).2) (dwFr (codL (.sl 1 s m y) (.arr (.int .u8) q 1 wq)) (dwS (codL (.sl 1 s m y) (.arr (.int .u8) q 1 wq)) i).1 i) = pickA (pickA (pickA ((pickA (dwS (codL (.sl 1 s m y) (.arr (.int .u8) q 1 wq)) i).1 (IntKind.i64.wrap ((i : Int) + 1))) + 4) 2) 20) (IntKind.i64.wrap (min gd0 60 + 1)) := by unfold dwT5; rw [if_pos hf, hn60]
            have eMd : dwMd (codL (.sl 1 s m y) (.arr (.int .u8) q 1 wq)) (pickA ((pickA (dwS (codL (.sl 1 s m y) (.arr (.int .u8) q 1 wq)) i).1 (IntKind.i64.wrap ((i : Int) + 1))) + 4) 2) ((dwS (codL (.sl 1 s m y) (.arr (.int .u8) q 1 wq)) i).2) (dwFr (codL (.sl 1 s m y) (.arr (.int .u8) q 1 wq)) (dwS (codL (.sl 1 s m y) (.arr (.int .u8) q 1 wq)) i).1 i) = IntKind.i64.wrap (md0 + pickV (codL (.sl 1 s m y) (.arr (.int .u8) q 1 wq)) (pickA (pickA ((pickA (dwS (codL (.sl 1 s m y) (.arr (.int .u8) q 1 wq)) i).1 (IntKind.i64.wrap ((i : Int) + 1))) + 4) 2) 20) (IntKind.i64.wrap (min gd0 60 + 1))) := by unfold dwMd; rw [if_pos hf, hst, hmw, hn60]
            have eTn : dwTn (codL (.sl 1 s m y) (.arr (.int .u8) q 1 wq)) (dwS (codL (.sl 1 s m y) (.arr (.int .u8) q 1 wq)) i).1 i ((dwS (codL (.sl 1 s m y) (.arr (.int .u8) q 1 wq)) i).2) = pickA (pickA (pickA (pickA ((pickA (dwS (codL (.sl 1 s m y) (.arr (.int .u8) q 1 wq)) i).1 (IntKind.i64.wrap ((i : Int) + 1))) + 4) 2) 20) (IntKind.i64.wrap (min gd0 60 + 1))) 6 := by unfold dwTn; rw [← eP1, eT3, eT5]
            have eX : dwSt (codL (.sl 1 s m y) (.arr (.int .u8) q 1 wq)) (dwS (codL (.sl 1 s m y) (.arr (.int .u8) q 1 wq)) i).1 i ((dwS (codL (.sl 1 s m y) (.arr (.int .u8) q 1 wq)) i).2) = (nmK i, IntKind.i64.wrap (pickV (codL (.sl 1 s m y) (.arr (.int .u8) q 1 wq)) (dwS (codL (.sl 1 s m y) (.arr (.int .u8) q 1 wq)) i).1 (IntKind.i64.wrap ((i : Int) + 1)) - 1), (tw (smW (codL (.sl 1 s m y) (.arr (.int .u8) q 1 wq)) (pickA (dwS (codL (.sl 1 s m y) (.arr (.int .u8) q 1 wq)) i).1 (IntKind.i64.wrap ((i : Int) + 1))) 8), tw (smW (codL (.sl 1 s m y) (.arr (.int .u8) q 1 wq)) (pickA (dwS (codL (.sl 1 s m y) (.arr (.int .u8) q 1 wq)) i).1 (IntKind.i64.wrap ((i : Int) + 1))) 8 + absI (smW (codL (.sl 1 s m y) (.arr (.int .u8) q 1 wq)) ((pickA (dwS (codL (.sl 1 s m y) (.arr (.int .u8) q 1 wq)) i).1 (IntKind.i64.wrap ((i : Int) + 1))) + 2) 6))), tw (dwDr (codL (.sl 1 s m y) (.arr (.int .u8) q 1 wq)) ((pickA (dwS (codL (.sl 1 s m y) (.arr (.int .u8) q 1 wq)) i).1 (IntKind.i64.wrap ((i : Int) + 1))) + 4)), IntKind.i64.wrap (md0 + pickV (codL (.sl 1 s m y) (.arr (.int .u8) q 1 wq)) (pickA (pickA ((pickA (dwS (codL (.sl 1 s m y) (.arr (.int .u8) q 1 wq)) i).1 (IntKind.i64.wrap ((i : Int) + 1))) + 4) 2) 20) (IntKind.i64.wrap (min gd0 60 + 1))), amV (codL (.sl 1 s m y) (.arr (.int .u8) q 1 wq)) (pickA (pickA (pickA ((pickA (dwS (codL (.sl 1 s m y) (.arr (.int .u8) q 1 wq)) i).1 (IntKind.i64.wrap ((i : Int) + 1))) + 4) 2) 20) (IntKind.i64.wrap (min gd0 60 + 1))) [0, 5, 30, 60, 100, 365]) := by
              unfold dwSt; rw [← eP1, eT3, eT5, eMd, hFR]; rfl
            rw [eDr] at eX
            refine ⟨i + 1, by omega, by omega, ?_⟩
            (repeat' ((try (conv => whnf)); first | (with_reducible first | refine And.intro ?_ ?_ | refine WX.of ?_) | exact zc | ((with_reducible refine VC.mk ?_); exact zw) | ((with_reducible refine VC.mk ?_); exact cellT eTn) | ((with_reducible refine VC.mk ?_); exact rowX hlenA eX.symm) | (with_reducible first | refine splitT ?_ | refine splitF ?_) | ((with_reducible refine splitM.mk (fun hsm => ?_) (fun hsm => ?_)) <;> (try exact zx)) | ((with_reducible refine splitB.mk (fun h => ?_) (fun h => ?_)) <;> (try simp only [zs, ne_eq] at h) <;> (try simp (disch := omega) only [w64] at h) <;> (try exact zx)) | (with_reducible intro hz; (try exact absurd hz (Nat.succ_ne_zero _)))))
          · have k3 : decide (0 ≤ IntKind.i64.wrap (pickV (codL (.sl 1 s m y) (.arr (.int .u8) q 1 wq)) (dwS (codL (.sl 1 s m y) (.arr (.int .u8) q 1 wq)) i).1 (IntKind.i64.wrap ((i : Int) + 1)) - 1)) = false := by rw [hFR]; exact decide_eq_false hf
            have hv5 := pickV_b hb (pickA ((pickA (dwS (codL (.sl 1 s m y) (.arr (.int .u8) q 1 wq)) i).1 (IntKind.i64.wrap ((i : Int) + 1))) + 4) 2) 20
            have hv6 := hv5.2 (by decide)
            have k4 : decide (100000 < pickV (codL (.sl 1 s m y) (.arr (.int .u8) q 1 wq)) (pickA ((pickA (dwS (codL (.sl 1 s m y) (.arr (.int .u8) q 1 wq)) i).1 (IntKind.i64.wrap ((i : Int) + 1))) + 4) 2) 20) = false := decide_eq_false (by omega)
            (repeat' ((try (conv => whnf)); first | (with_reducible first | refine And.intro ?_ ?_ | refine WX.of ?_) | exact zc | ((with_reducible refine VC.mk ?_); exact zw) | with_reducible refine atL_0 hnm ?_ | ((with_reducible refine VC.mk ?_); exact ⟨⟨⟨⟨rfl, h3⟩, by omega, rfl⟩, by omega⟩, by omega⟩) | ((with_reducible refine VC.mk ?_); exact ⟨⟨⟨⟨rfl, h3⟩, by omega, rfl⟩, by omega⟩, by decide⟩) | ((with_reducible refine VC.mk ?_); exact ⟨⟨⟨⟨rfl, h3⟩, by omega, rfl⟩, by omega⟩, by decide, by decide⟩) | ((with_reducible refine VC.mk ?_); exact ⟨⟨⟨⟨rfl, h3⟩, by omega, rfl⟩, by omega⟩, rfl, by decide, by decide⟩) | ((with_reducible refine splitT_of ?_ ?_); (focus (simp only [k1, k3, k4, Bool.not_true, Bool.not_false, decide_true, decide_false]; done))) | ((with_reducible refine splitF_of ?_ ?_); (focus (simp only [k1, k3, k4, Bool.not_true, Bool.not_false, decide_true, decide_false]; done))) | (with_reducible first | refine splitT ?_ | refine splitF ?_) | ((with_reducible refine splitM.mk (fun hsm => ?_) (fun hsm => ?_)) <;> (try exact zx)) | ((with_reducible refine splitB.mk (fun h => ?_) (fun h => ?_)) <;> (try simp only [zs, ne_eq] at h) <;> (try simp (disch := omega) only [w64] at h) <;> (try exact zx)) | (with_reducible intro hz; (try exact absurd hz (Nat.succ_ne_zero _)))))
            have eT5 : dwT5 (pickA ((pickA (dwS (codL (.sl 1 s m y) (.arr (.int .u8) q 1 wq)) i).1 (IntKind.i64.wrap ((i : Int) + 1))) + 4) 2) ((dwS (codL (.sl 1 s m y) (.arr (.int .u8) q 1 wq)) i).2) (dwFr (codL (.sl 1 s m y) (.arr (.int .u8) q 1 wq)) (dwS (codL (.sl 1 s m y) (.arr (.int .u8) q 1 wq)) i).1 i) = pickA (pickA ((pickA (dwS (codL (.sl 1 s m y) (.arr (.int .u8) q 1 wq)) i).1 (IntKind.i64.wrap ((i : Int) + 1))) + 4) 2) 20 := by unfold dwT5; rw [if_neg hf]
            have eMd : dwMd (codL (.sl 1 s m y) (.arr (.int .u8) q 1 wq)) (pickA ((pickA (dwS (codL (.sl 1 s m y) (.arr (.int .u8) q 1 wq)) i).1 (IntKind.i64.wrap ((i : Int) + 1))) + 4) 2) ((dwS (codL (.sl 1 s m y) (.arr (.int .u8) q 1 wq)) i).2) (dwFr (codL (.sl 1 s m y) (.arr (.int .u8) q 1 wq)) (dwS (codL (.sl 1 s m y) (.arr (.int .u8) q 1 wq)) i).1 i) = pickV (codL (.sl 1 s m y) (.arr (.int .u8) q 1 wq)) (pickA ((pickA (dwS (codL (.sl 1 s m y) (.arr (.int .u8) q 1 wq)) i).1 (IntKind.i64.wrap ((i : Int) + 1))) + 4) 2) 20 := by unfold dwMd; rw [if_neg hf]
            have eTn : dwTn (codL (.sl 1 s m y) (.arr (.int .u8) q 1 wq)) (dwS (codL (.sl 1 s m y) (.arr (.int .u8) q 1 wq)) i).1 i ((dwS (codL (.sl 1 s m y) (.arr (.int .u8) q 1 wq)) i).2) = pickA (pickA (pickA ((pickA (dwS (codL (.sl 1 s m y) (.arr (.int .u8) q 1 wq)) i).1 (IntKind.i64.wrap ((i : Int) + 1))) + 4) 2) 20) 6 := by unfold dwTn; rw [← eP1, eT3, eT5]
            have eX : dwSt (codL (.sl 1 s m y) (.arr (.int .u8) q 1 wq)) (dwS (codL (.sl 1 s m y) (.arr (.int .u8) q 1 wq)) i).1 i ((dwS (codL (.sl 1 s m y) (.arr (.int .u8) q 1 wq)) i).2) = (nmK i, IntKind.i64.wrap (pickV (codL (.sl 1 s m y) (.arr (.int .u8) q 1 wq)) (dwS (codL (.sl 1 s m y) (.arr (.int .u8) q 1 wq)) i).1 (IntKind.i64.wrap ((i : Int) + 1)) - 1), (tw (smW (codL (.sl 1 s m y) (.arr (.int .u8) q 1 wq)) (pickA (dwS (codL (.sl 1 s m y) (.arr (.int .u8) q 1 wq)) i).1 (IntKind.i64.wrap ((i : Int) + 1))) 8), tw (smW (codL (.sl 1 s m y) (.arr (.int .u8) q 1 wq)) (pickA (dwS (codL (.sl 1 s m y) (.arr (.int .u8) q 1 wq)) i).1 (IntKind.i64.wrap ((i : Int) + 1))) 8 + absI (smW (codL (.sl 1 s m y) (.arr (.int .u8) q 1 wq)) ((pickA (dwS (codL (.sl 1 s m y) (.arr (.int .u8) q 1 wq)) i).1 (IntKind.i64.wrap ((i : Int) + 1))) + 2) 6))), tw (dwDr (codL (.sl 1 s m y) (.arr (.int .u8) q 1 wq)) ((pickA (dwS (codL (.sl 1 s m y) (.arr (.int .u8) q 1 wq)) i).1 (IntKind.i64.wrap ((i : Int) + 1))) + 4)), pickV (codL (.sl 1 s m y) (.arr (.int .u8) q 1 wq)) (pickA ((pickA (dwS (codL (.sl 1 s m y) (.arr (.int .u8) q 1 wq)) i).1 (IntKind.i64.wrap ((i : Int) + 1))) + 4) 2) 20, amV (codL (.sl 1 s m y) (.arr (.int .u8) q 1 wq)) (pickA (pickA ((pickA (dwS (codL (.sl 1 s m y) (.arr (.int .u8) q 1 wq)) i).1 (IntKind.i64.wrap ((i : Int) + 1))) + 4) 2) 20) [0, 5, 30, 60, 100, 365]) := by
              unfold dwSt; rw [← eP1, eT3, eT5, eMd, hFR]; rfl
            rw [eDr] at eX
            refine ⟨i + 1, by omega, by omega, ?_⟩
            (repeat' ((try (conv => whnf)); first | (with_reducible first | refine And.intro ?_ ?_ | refine WX.of ?_) | exact zc | ((with_reducible refine VC.mk ?_); exact zw) | ((with_reducible refine VC.mk ?_); exact cellT eTn) | ((with_reducible refine VC.mk ?_); exact rowX hlenA eX.symm) | (with_reducible first | refine splitT ?_ | refine splitF ?_) | ((with_reducible refine splitM.mk (fun hsm => ?_) (fun hsm => ?_)) <;> (try exact zx)) | ((with_reducible refine splitB.mk (fun h => ?_) (fun h => ?_)) <;> (try simp only [zs, ne_eq] at h) <;> (try simp (disch := omega) only [w64] at h) <;> (try exact zx)) | (with_reducible intro hz; (try exact absurd hz (Nat.succ_ne_zero _)))))
      · obtain rfl : i = dwC (codL (.sl 1 s m y) (.arr (.int .u8) q 1 wq)) := by omega
        (repeat' ((try (conv => whnf)); first | (with_reducible first | refine And.intro ?_ ?_ | refine WX.of ?_) | exact zc | ((with_reducible refine VC.mk ?_); exact zw) | (with_reducible first | refine splitT ?_ | refine splitF ?_) | ((with_reducible refine splitM.mk (fun hsm => ?_) (fun hsm => ?_)) <;> (try exact zx)) | ((with_reducible refine splitB.mk (fun h => ?_) (fun h => ?_)) <;> (try simp only [zs, ne_eq] at h) <;> (try simp (disch := omega) only [w64] at h) <;> (try exact zx)) | (with_reducible intro hz; (try exact absurd hz (Nat.succ_ne_zero _)))))
def s_a2c : Spec := fun args S => match args, S with
  | [cv], [rb] => ⟨codP 0 cv rb, .sl 1 0 (dwC (codL cv rb)) 0, [rb, .arr (.prod .str (.prod (.int .i64) (.prod (.prod (.prod (.int .i64) (.int .i64)) (.prod (.int .i64) (.int .i64))) (.prod (.prod (.int .i64) (.int .i64)) (.prod (.int .i64) (.int .i64)))))) (dwCh (codL cv rb)) 10 true]⟩
  | _, _ => noSpec
theorem ok_A2Chain : SpecOk Try.prog 7 s_a2c := by
  intro args S h; unfold s_a2c at h ⊢; (split at h <;> first | exact False.elim h | skip)
  dsimp only at h ⊢
  rename_i cv rb
  rcases codP_c h with ⟨c, m, q, rfl, rfl, e, h3⟩ | ⟨s, m, y, q, wq, rfl, rfl, e, h3⟩
  · refine funW tabOk (E := [(36, s_from), (35, s_dwn)]) ⟨ok_from, ok_l05Drawn, trivial⟩ [] (k := 1) (fn := Try.f7) rfl rfl rfl rfl rfl rfl ?_
    (repeat' ((try (conv => whnf)); first | (with_reducible first | refine And.intro ?_ ?_ | refine WX.of ?_) | exact zc | ((with_reducible refine VC.mk ?_); exact zw) | ((with_reducible refine VC.mk ?_); exact ⟨rfl, h3⟩) | ((with_reducible refine VC.mk ?_); exact ⟨⟨rfl, h3⟩, rfl, rfl⟩) | (with_reducible first | refine splitT ?_ | refine splitF ?_) | ((with_reducible refine splitM.mk (fun hsm => ?_) (fun hsm => ?_)) <;> (try exact zx)) | ((with_reducible refine splitB.mk (fun h => ?_) (fun h => ?_)) <;> (try simp only [zs, ne_eq] at h) <;> (try simp (disch := omega) only [w64] at h) <;> (try exact zx)) | (with_reducible intro hz; (try exact absurd hz (Nat.succ_ne_zero _)))))
  · refine funW tabOk (E := [(36, s_from), (35, s_dwn)]) ⟨ok_from, ok_l05Drawn, trivial⟩ [] (k := 1) (fn := Try.f7) rfl rfl rfl rfl rfl rfl ?_
    (repeat' ((try (conv => whnf)); first | (with_reducible first | refine And.intro ?_ ?_ | refine WX.of ?_) | exact zc | ((with_reducible refine VC.mk ?_); exact zw) | ((with_reducible refine VC.mk ?_); exact ⟨rfl, h3⟩) | ((with_reducible refine VC.mk ?_); exact ⟨⟨rfl, h3⟩, rfl, rfl⟩) | (with_reducible first | refine splitT ?_ | refine splitF ?_) | ((with_reducible refine splitM.mk (fun hsm => ?_) (fun hsm => ?_)) <;> (try exact zx)) | ((with_reducible refine splitB.mk (fun h => ?_) (fun h => ?_)) <;> (try simp only [zs, ne_eq] at h) <;> (try simp (disch := omega) only [w64] at h) <;> (try exact zx)) | (with_reducible intro hz; (try exact absurd hz (Nat.succ_ne_zero _)))))
end Go.Proofs.Ytnmpgofhdjcpaaa.Eng
set_option linter.unusedVariables false
set_option linter.unusedSimpArgs false
namespace Go.Proofs.Ytnmpgofhdjcpaaa.Eng
open Go Go.RowKit
set_option maxRecDepth 100000
def s_InSpan : Spec := fun args S => match args, S with
  | [.agg [.int .i64 p, .int .i64 q, .int .i64 p', .int .i64 q'], .agg [.int .i64 r, .int .i64 s]], [] => ⟨True, .tup [.bool (spOk p q p' q' && fOk r s && decide (p * s ≤ r * q) && decide (r * q' ≤ p' * s)), .int .i64 (if (spOk p q p' q' && fOk r s) = true then 0 else 1)], []⟩
  | _, _ => noSpec
theorem ok_InSpan : SpecOk Try.prog 13 s_InSpan := by
  intro args S h; unfold s_InSpan at h ⊢; (split at h <;> first | exact False.elim h | skip)
  dsimp only at h ⊢
  rename_i p q p' q' r s
  have hc1 := cmpF_le (p := p) (q := q) (p' := r) (q' := s)
  have hc2 := cmpF_le (p := r) (q := s) (p' := p') (q' := q')
  have h1 : spOk p q p' q' = true → smF p q ∧ smF p' q' := fun h => ⟨smF_ok (spOk_iff.1 h).1, smF_ok (spOk_iff.1 h).2.1⟩
  refine funW tabOk (E := [(55, s_vSpan), (56, s_fOk), (57, s_cmp)]) ⟨ok_ValidSpan, ok_ValidFrac, ok_compare, trivial⟩ [] (k := 0) (fn := Try.f13) rfl rfl rfl rfl rfl rfl ?_
  (repeat' ((try (conv => whnf)); first | (with_reducible first | refine And.intro ?_ ?_ | refine WX.of ?_) | exact zc | ((with_reducible refine VC.mk ?_); exact zw) | (with_reducible first | refine splitT ?_ | refine splitF ?_) | ((with_reducible refine splitM.mk (fun hsm => ?_) (fun hsm => ?_)) <;> (try exact zx)) | ((with_reducible refine splitB.mk (fun h => ?_) (fun h => ?_)) <;> (try simp only [zs, ne_eq] at h) <;> (try simp (disch := omega) only [w64] at h) <;> (try exact zx)) | (with_reducible intro hz; (try exact absurd hz (Nat.succ_ne_zero _)))))
  · exact ⟨by simp [h]⟩
  · exact ⟨by simp [h]⟩
  · rename_i hs
    exact ⟨⟨(h1 hs).1, smF_ok h⟩⟩
  · rename_i hs hf
    exact ⟨⟨smF_ok hf, (h1 hs).2⟩⟩
  · rename_i hs hf
    exact ⟨by simp only [hs, hf, hc2, show decide (p * s ≤ r * q) = true from decide_eq_true (hc1.1 h), Bool.and_self, Bool.true_and, if_true]⟩
  · rename_i hs hf
    exact ⟨by simp only [hs, hf, show decide (p * s ≤ r * q) = false from decide_eq_false (fun z => by have := hc1.2 z; omega), Bool.and_self, Bool.and_false, Bool.false_and, if_true]⟩
end Go.Proofs.Ytnmpgofhdjcpaaa.Eng
set_option linter.unusedVariables false
set_option linter.unusedSimpArgs false
namespace Go.Proofs.Ytnmpgofhdjcpaaa.Eng
open Go Go.RowKit
set_option maxRecDepth 100000
end Go.Proofs.Ytnmpgofhdjcpaaa.Eng
set_option linter.unusedVariables false
set_option linter.unusedSimpArgs false
namespace Go.Proofs.Ytnmpgofhdjcpaaa.Eng
open Go Go.RowKit
set_option maxRecDepth 100000
end Go.Proofs.Ytnmpgofhdjcpaaa.Eng
set_option linter.unusedVariables false
set_option linter.unusedSimpArgs false
namespace Go.Proofs.Ytnmpgofhdjcpaaa.Eng
open Go Go.RowKit
set_option maxRecDepth 100000
end Go.Proofs.Ytnmpgofhdjcpaaa.Eng
set_option linter.unusedVariables false
set_option linter.unusedSimpArgs false
namespace Go.Proofs.Ytnmpgofhdjcpaaa.Eng
open Go Go.RowKit
set_option maxRecDepth 100000
end Go.Proofs.Ytnmpgofhdjcpaaa.Eng
set_option linter.unusedVariables false
set_option linter.unusedSimpArgs false
namespace Go.Proofs.Ytnmpgofhdjcpaaa.Eng
open Go Go.RowKit
set_option maxRecDepth 100000
end Go.Proofs.Ytnmpgofhdjcpaaa.Eng
set_option linter.unusedVariables false
set_option linter.unusedSimpArgs false
namespace Go.Proofs.Ytnmpgofhdjcpaaa.Eng
open Go Go.RowKit
set_option maxRecDepth 100000
end Go.Proofs.Ytnmpgofhdjcpaaa.Eng
set_option linter.unusedVariables false
set_option linter.unusedSimpArgs false
namespace Go.Proofs.Ytnmpgofhdjcpaaa.Eng
open Go Go.RowKit
set_option maxRecDepth 100000
end Go.Proofs.Ytnmpgofhdjcpaaa.Eng
set_option linter.unusedVariables false
set_option linter.unusedSimpArgs false
namespace Go.Proofs.Ytnmpgofhdjcpaaa.Eng
open Go Go.RowKit
set_option maxRecDepth 100000
abbrev RdT : Type := List UInt8 × Int × Int × Bool
end Go.Proofs.Ytnmpgofhdjcpaaa.Eng
set_option linter.unusedVariables false
set_option linter.unusedSimpArgs false
namespace Go.Proofs.Ytnmpgofhdjcpaaa.Eng
open Go Go.RowKit
set_option maxRecDepth 100000
end Go.Proofs.Ytnmpgofhdjcpaaa.Eng
set_option linter.unusedVariables false
set_option linter.unusedSimpArgs false
namespace Go.Proofs.Ytnmpgofhdjcpaaa.Eng
open Go Go.RowKit
set_option maxRecDepth 100000
end Go.Proofs.Ytnmpgofhdjcpaaa.Eng
set_option linter.unusedVariables false
set_option linter.unusedSimpArgs false
namespace Go.Proofs.Ytnmpgofhdjcpaaa.Eng
open Go Go.RowKit
set_option maxRecDepth 100000
end Go.Proofs.Ytnmpgofhdjcpaaa.Eng
set_option linter.unusedVariables false
set_option linter.unusedSimpArgs false
namespace Go.Proofs.Ytnmpgofhdjcpaaa.Eng
open Go Go.RowKit
set_option maxRecDepth 100000
end Go.Proofs.Ytnmpgofhdjcpaaa.Eng
set_option linter.unusedVariables false
set_option linter.unusedSimpArgs false
namespace Go.Proofs.Ytnmpgofhdjcpaaa.Eng
open Go Go.RowKit
set_option maxRecDepth 100000
end Go.Proofs.Ytnmpgofhdjcpaaa.Eng
set_option linter.unusedVariables false
set_option linter.unusedSimpArgs false
namespace Go.Proofs.Ytnmpgofhdjcpaaa.Eng
open Go Go.RowKit
set_option maxRecDepth 100000
end Go.Proofs.Ytnmpgofhdjcpaaa.Eng
set_option linter.unusedVariables false
set_option linter.unusedSimpArgs false
namespace Go.Proofs.Ytnmpgofhdjcpaaa.Eng
open Go Go.RowKit
set_option maxRecDepth 100000
end Go.Proofs.Ytnmpgofhdjcpaaa.Eng
set_option linter.unusedVariables false
set_option linter.unusedSimpArgs false
namespace Go.Proofs.Ytnmpgofhdjcpaaa.Eng
open Go Go.RowKit
set_option maxRecDepth 100000
/-- Halves of whole numbers. -/
def hal (a : Int) : Int × Int := (redP a 2, redQ a 2)
end Go.Proofs.Ytnmpgofhdjcpaaa.Eng
set_option linter.unusedVariables false
set_option linter.unusedSimpArgs false
namespace Go.Proofs.Ytnmpgofhdjcpaaa.Eng
open Go Go.RowKit
set_option maxRecDepth 100000
/-- Spans of halves. -/
def hS (a : Int × Int) : SpT := (hal a.1, hal a.2)
end Go.Proofs.Ytnmpgofhdjcpaaa.Eng
set_option linter.unusedVariables false
set_option linter.unusedSimpArgs false
namespace Go.Proofs.Ytnmpgofhdjcpaaa.Eng
open Go Go.RowKit
set_option maxRecDepth 100000
/-- Readers that read one value. -/
structure Ppl (R : List RdT) (p q : Int) : Prop where
  one : 1 ≤ R.length ∧ R.length ≤ 12
  q1 : 1 ≤ q
  ok : ∀ r ∈ R, rdrOk r = true ∧ (-4 ≤ r.2.1 ∧ r.2.1 ≤ 4) ∧ (1 ≤ r.2.2.1 ∧ r.2.2.1 ≤ 20)
  sm : ∀ r ∈ R, -400 ≤ rdN r.2.1 r.2.2.1 r.2.2.2 p q ∧ rdN r.2.1 r.2.2.1 r.2.2.2 p q ≤ 400
def atV (L : List Int) (t n : Int) : Int := if (L.length : Int) ≤ t ∨ n < 1 then 0 else (byt L t.toNat).tmod n
theorem atV_b {L : List Int} (h : ∀ a ∈ L, 0 ≤ a ∧ a ≤ (255 : Int)) {t n : Int} (hn : 1 ≤ n) : 0 ≤ atV L t n ∧ atV L t n < n := by
  have := byt_b h t.toNat
  unfold atV
  split
  · omega
  · exact ⟨Int.tmod_nonneg _ this.1, Int.tmod_lt_of_pos _ (by omega)⟩
def s_a2At : Spec := fun args S => match args, S with
  | [cv, .int .i64 t, .int .i64 n], [rb] => ⟨codP 0 cv rb ∧ 0 ≤ t, .int .i64 (atV (codL cv rb) t n), [rb]⟩
  | _, _ => noSpec
theorem ok_a2At : SpecOk Try.prog 8 s_a2At := by
  intro args S h; unfold s_a2At at h ⊢; (split at h <;> first | exact False.elim h | skip)
  dsimp only at h ⊢
  rename_i cv t n rb
  obtain ⟨hc, ht⟩ := h
  have hbt := byt_b (cod_b hc) t.toNat
  rcases codP_c hc with ⟨c, m, l, rfl, rfl, e, ⟨h1, h2, h3⟩, hb⟩ | ⟨s, m, x, l, wr, rfl, rfl, e, ⟨h1, h3⟩, hb⟩
  · rw [e] at hbt ⊢
    have hL : (seg l 0 m).length = m := seg_len (by omega)
    by_cases hge : (m : Int) ≤ t
    · have hv : atV (seg l 0 m) t n = 0 := by unfold atV; rw [if_pos (by omega)]
      rw [hv]
      refine funW tabOk (E := []) trivial [] (k := 1) (fn := Try.f8) rfl rfl rfl rfl rfl rfl ?_
      (repeat' ((try (conv => whnf)); first | (with_reducible first | refine And.intro ?_ ?_ | refine WX.of ?_) | exact zc | ((with_reducible refine VC.mk ?_); exact zw) | (with_reducible first | refine splitT ?_ | refine splitF ?_) | ((with_reducible refine splitM.mk (fun hsm => ?_) (fun hsm => ?_)) <;> (try exact zx)) | ((with_reducible refine splitB.mk (fun h => ?_) (fun h => ?_)) <;> (try simp only [zs, ne_eq] at h) <;> (try simp (disch := omega) only [w64] at h) <;> (try exact zx)) | (with_reducible intro hz; (try exact absurd hz (Nat.succ_ne_zero _)))))
    · by_cases hn : n < 1
      · have hv : atV (seg l 0 m) t n = 0 := by unfold atV; rw [if_pos (by omega)]
        rw [hv]
        refine funW tabOk (E := []) trivial [] (k := 1) (fn := Try.f8) rfl rfl rfl rfl rfl rfl ?_
        (repeat' ((try (conv => whnf)); first | (with_reducible first | refine And.intro ?_ ?_ | refine WX.of ?_) | exact zc | ((with_reducible refine VC.mk ?_); exact zw) | (with_reducible first | refine splitT ?_ | refine splitF ?_) | ((with_reducible refine splitM.mk (fun hsm => ?_) (fun hsm => ?_)) <;> (try exact zx)) | ((with_reducible refine splitB.mk (fun h => ?_) (fun h => ?_)) <;> (try simp only [zs, ne_eq] at h) <;> (try simp (disch := omega) only [w64] at h) <;> (try exact zx)) | (with_reducible intro hz; (try exact absurd hz (Nat.succ_ne_zero _)))))
      · have hv : atV (seg l 0 m) t n = (byt (seg l 0 m) t.toNat).tmod n := by unfold atV; rw [if_neg (by omega)]
        obtain ⟨a, ha⟩ := get_some (l := seg l 0 m) (i := t.toNat) (by omega)
        have hba : byt (seg l 0 m) t.toNat = a := by unfold byt; rw [ha]; rfl
        have ha2 := (seg_get ha).1
        rw [Nat.zero_add] at ha2
        rw [hba] at hbt hv
        rw [hv]
        refine funW tabOk (E := []) trivial [] (k := 1) (fn := Try.f8) rfl rfl rfl rfl rfl rfl ?_
        (repeat' ((try (conv => whnf)); first | (with_reducible first | refine And.intro ?_ ?_ | refine WX.of ?_) | exact zc | ((with_reducible refine VC.mk ?_); exact zw) | with_reducible refine atL_q ha2 (by omega) ?_ | (with_reducible first | refine splitT ?_ | refine splitF ?_) | ((with_reducible refine splitM.mk (fun hsm => ?_) (fun hsm => ?_)) <;> (try exact zx)) | ((with_reducible refine splitB.mk (fun h => ?_) (fun h => ?_)) <;> (try simp only [zs, ne_eq] at h) <;> (try simp (disch := omega) only [w64] at h) <;> (try exact zx)) | (with_reducible intro hz; (try exact absurd hz (Nat.succ_ne_zero _)))))
        all_goals exact ⟨by rw [w64 (by omega)]⟩
  · rw [e] at hbt ⊢
    have hL : (seg l s m).length = m := seg_len (by omega)
    by_cases hge : (m : Int) ≤ t
    · have hv : atV (seg l s m) t n = 0 := by unfold atV; rw [if_pos (by omega)]
      rw [hv]
      refine funW tabOk (E := []) trivial [] (k := 1) (fn := Try.f8) rfl rfl rfl rfl rfl rfl ?_
      (repeat' ((try (conv => whnf)); first | (with_reducible first | refine And.intro ?_ ?_ | refine WX.of ?_) | exact zc | ((with_reducible refine VC.mk ?_); exact zw) | (with_reducible first | refine splitT ?_ | refine splitF ?_) | ((with_reducible refine splitM.mk (fun hsm => ?_) (fun hsm => ?_)) <;> (try exact zx)) | ((with_reducible refine splitB.mk (fun h => ?_) (fun h => ?_)) <;> (try simp only [zs, ne_eq] at h) <;> (try simp (disch := omega) only [w64] at h) <;> (try exact zx)) | (with_reducible intro hz; (try exact absurd hz (Nat.succ_ne_zero _)))))
    · by_cases hn : n < 1
      · have hv : atV (seg l s m) t n = 0 := by unfold atV; rw [if_pos (by omega)]
        rw [hv]
        refine funW tabOk (E := []) trivial [] (k := 1) (fn := Try.f8) rfl rfl rfl rfl rfl rfl ?_
        (repeat' ((try (conv => whnf)); first | (with_reducible first | refine And.intro ?_ ?_ | refine WX.of ?_) | exact zc | ((with_reducible refine VC.mk ?_); exact zw) | (with_reducible first | refine splitT ?_ | refine splitF ?_) | ((with_reducible refine splitM.mk (fun hsm => ?_) (fun hsm => ?_)) <;> (try exact zx)) | ((with_reducible refine splitB.mk (fun h => ?_) (fun h => ?_)) <;> (try simp only [zs, ne_eq] at h) <;> (try simp (disch := omega) only [w64] at h) <;> (try exact zx)) | (with_reducible intro hz; (try exact absurd hz (Nat.succ_ne_zero _)))))
      · have hv : atV (seg l s m) t n = (byt (seg l s m) t.toNat).tmod n := by unfold atV; rw [if_neg (by omega)]
        obtain ⟨a, ha⟩ := get_some (l := seg l s m) (i := t.toNat) (by omega)
        have hba : byt (seg l s m) t.toNat = a := by unfold byt; rw [ha]; rfl
        have ha2 := (seg_get ha).1
        rw [hba] at hbt hv
        rw [hv]
        refine funW tabOk (E := []) trivial [] (k := 1) (fn := Try.f8) rfl rfl rfl rfl rfl rfl ?_
        (repeat' ((try (conv => whnf)); first | (with_reducible first | refine And.intro ?_ ?_ | refine WX.of ?_) | exact zc | ((with_reducible refine VC.mk ?_); exact zw) | with_reducible refine atL_q ha2 (by omega) ?_ | (with_reducible first | refine splitT ?_ | refine splitF ?_) | ((with_reducible refine splitM.mk (fun hsm => ?_) (fun hsm => ?_)) <;> (try exact zx)) | ((with_reducible refine splitB.mk (fun h => ?_) (fun h => ?_)) <;> (try simp only [zs, ne_eq] at h) <;> (try simp (disch := omega) only [w64] at h) <;> (try exact zx)) | (with_reducible intro hz; (try exact absurd hz (Nat.succ_ne_zero _)))))
        all_goals exact ⟨by rw [w64 (by omega)]⟩
def s_a2Long : Spec := fun args S => match args, S with
  | [.opt c 0 n 0, .opt c' 1 n' 0], [.arrO (.int .u8) l 1, .arrO (.int .u8) l' 1] => ⟨n ≤ 9223372036854775807 ∧ n' ≤ 9223372036854775807, .bool (decide (3000 < n ∨ 3000 < n')), [.arrO (.int .u8) l 1, .arrO (.int .u8) l' 1]⟩
  | _, _ => noSpec
theorem ok_a2Long : SpecOk Try.prog 6 s_a2Long := by
  intro args S h; unfold s_a2Long at h ⊢; (split at h <;> first | exact False.elim h | skip)
  dsimp only at h ⊢
  refine funW tabOk (E := []) trivial [] (k := 2) (fn := Try.f6) rfl rfl rfl rfl rfl rfl ?_
  (repeat' ((try (conv => whnf)); first | (with_reducible first | refine And.intro ?_ ?_ | refine WX.of ?_) | exact zc | ((with_reducible refine VC.mk ?_); exact zw) | (with_reducible first | refine splitT ?_ | refine splitF ?_) | ((with_reducible refine splitM.mk (fun hsm => ?_) (fun hsm => ?_)) <;> (try exact zx)) | ((with_reducible refine splitB.mk (fun h => ?_) (fun h => ?_)) <;> (try simp only [zs, ne_eq] at h) <;> (try simp (disch := omega) only [w64] at h) <;> (try exact zx)) | (with_reducible intro hz; (try exact absurd hz (Nat.succ_ne_zero _)))))
  all_goals (refine ⟨congrArg SV.bool ?_⟩; first | (rw [eq_comm, decide_eq_true_iff]; omega) | (rw [Bool.eq_iff_iff]; simp; omega))
end Go.Proofs.Ytnmpgofhdjcpaaa.Eng
set_option linter.unusedVariables false
set_option linter.unusedSimpArgs false
namespace Go.Proofs.Ytnmpgofhdjcpaaa.Eng
open Go Go.RowKit
set_option maxRecDepth 100000
def s_SubSp : Spec := fun args S => match args, S with
  | [.agg [.int .i64 p, .int .i64 q, .int .i64 p', .int .i64 q'], .agg [.int .i64 r, .int .i64 s, .int .i64 r', .int .i64 s']], [] => ⟨spB ((p, q), p', q') = true ∧ spB ((r, s), r', s') = true, .tup [.agg [.int .i64 (zsS (miO ((p, q), p', q') ((r, s), r', s'))).1.1, .int .i64 (zsS (miO ((p, q), p', q') ((r, s), r', s'))).1.2, .int .i64 (zsS (miO ((p, q), p', q') ((r, s), r', s'))).2.1, .int .i64 (zsS (miO ((p, q), p', q') ((r, s), r', s'))).2.2], .int .i64 (oCS (miO ((p, q), p', q') ((r, s), r', s')))], []⟩
  | _, _ => noSpec
theorem ok_SubSpans : SpecOk Try.prog 12 s_SubSp := by
  intro args S h; unfold s_SubSp at h ⊢; (split at h <;> first | exact False.elim h | skip)
  dsimp only at h ⊢
  rename_i p q p' q' r s r' s'
  obtain ⟨h1, h2⟩ := h
  have g1 := smS_ok h1
  have g2 := smS_ok h2
  have hal : List.all (seg [((p, q), p', q'), ((r, s), r', s')] 0 2) spB = true := by simp [seg, h1, h2]
  have ht := mi_tol ((p, q), p', q') ((r, s), r', s')
  refine funW tabOk (E := [(53, s_areSp), (54, s_subO), (41, s_spanC)]) ⟨ok_areSpans, ok_subO, ok_spanC, trivial⟩ [(4, [(9, 0), (11, 0)])] (k := 0) (fn := Try.f12) rfl rfl rfl rfl rfl rfl ?_
  (repeat' ((try dsimp only); (try (conv => whnf)); first | (with_reducible first | refine And.intro ?_ ?_ | refine WX.of ?_) | exact zc | ((with_reducible refine VC.mk ?_); exact zw) | ((with_reducible refine splitT_of ?_ ?_); (focus (simp only [hal, Bool.not_true, Bool.not_false, decide_true, decide_false]; done))) | ((with_reducible refine splitF_of ?_ ?_); (focus (simp only [hal, Bool.not_true, Bool.not_false, decide_true, decide_false]; done))) | ((with_reducible refine VC.mk ?_); exact ⟨Nat.le_refl 2, by omega⟩) | ((with_reducible refine VC.mk ?_); exact ⟨rfl, g1.1, g2.2⟩) | ((with_reducible refine VC.mk ?_); exact ⟨rfl, g1.2, g2.1⟩) | (with_reducible first | refine splitT ?_ | refine splitF ?_) | ((with_reducible refine splitM.mk (fun hsm => ?_) (fun hsm => ?_)) <;> (try exact zx)) | ((with_reducible refine splitB.mk (fun h => ?_) (fun h => ?_)) <;> (try simp only [zs, ne_eq] at h) <;> (try simp (disch := omega) only [w64] at h) <;> (try exact zx)) | (with_reducible intro hz; (try exact absurd hz (Nat.succ_ne_zero _)))))
  all_goals (refine ⟨?_⟩; rcases ht with ⟨hb, ho⟩ | ⟨hb, ho⟩ <;> (rw [ho]; simp only [Bool.false_or, hb, if_true, if_false, Bool.false_eq_true]; rfl))
end Go.Proofs.Ytnmpgofhdjcpaaa.Eng
set_option linter.unusedVariables false
set_option linter.unusedSimpArgs false
namespace Go.Proofs.Ytnmpgofhdjcpaaa.Eng
open Go Go.RowKit
set_option maxRecDepth 100000
theorem ok_DifferenceOnS : SpecOk Try.prog 10 s_diff := by
  intro args S h; unfold s_diff at h ⊢; (split at h <;> first | exact False.elim h | skip)
  dsimp only at h ⊢
  rename_i s n x i k d l wr
  have hq := h
  have hL := seg_len h.1.1
  unfold dcC dcV
  by_cases hcc : ccC (seg l s n) [i, k] [d] = 0
  rotate_left 1
  · rw [(co_1 hcc).1, (co_1 hcc).2]
    refine funW tabOk (E := [(49, s_l05Two)]) ⟨ok_l05Two, trivial⟩ [] (k := 1) (fn := Try.f10) rfl rfl rfl rfl rfl rfl ?_
    (repeat' ((try (conv => whnf)); first | (with_reducible first | refine And.intro ?_ ?_ | refine WX.of ?_) | exact zc | ((with_reducible refine VC.mk ?_); exact zw) | ((with_reducible refine VC.mk ?_); exact hq) | ((with_reducible refine splitT_of ?_ ?_); (focus (simp only [hcc, Bool.not_true, Bool.not_false, decide_true, decide_false]; done))) | ((with_reducible refine splitF_of ?_ ?_); (focus (simp only [hcc, Bool.not_true, Bool.not_false, decide_true, decide_false]; done))) | (with_reducible first | refine splitT ?_ | refine splitF ?_) | ((with_reducible refine splitM.mk (fun hsm => ?_) (fun hsm => ?_)) <;> (try exact zx)) | ((with_reducible refine splitB.mk (fun h => ?_) (fun h => ?_)) <;> (try simp only [zs, ne_eq] at h) <;> (try simp (disch := omega) only [w64] at h) <;> (try exact zx)) | (with_reducible intro hz; (try exact absurd hz (Nat.succ_ne_zero _)))))
  · rw [hcc]
    obtain ⟨hc, h1, h2⟩ := cc_ok hcc
    have hi := ir_n (h1 i (by simp)) hL
    have hk := ir_n (h1 k (by simp)) hL
    have hd := h2 d (by simp)
    refine funW tabOk (E := [(49, s_l05Two), (50, s_l05Diff)]) ⟨ok_l05Two, ok_l05Diff, trivial⟩ [] (k := 1) (fn := Try.f10) rfl rfl rfl rfl rfl rfl ?_
    (repeat' ((try (conv => whnf)); first | (with_reducible first | refine And.intro ?_ ?_ | refine WX.of ?_) | exact zc | ((with_reducible refine VC.mk ?_); exact zw) | ((with_reducible refine VC.mk ?_); exact hq) | ((with_reducible refine VC.mk ?_); exact ⟨⟨hq.1.1, hc⟩, hi, hk, hd⟩) | ((with_reducible refine splitT_of ?_ ?_); (focus (simp only [hcc, Bool.not_true, Bool.not_false, decide_true, decide_false]; done))) | ((with_reducible refine splitF_of ?_ ?_); (focus (simp only [hcc, Bool.not_true, Bool.not_false, decide_true, decide_false]; done))) | (with_reducible first | refine splitT ?_ | refine splitF ?_) | ((with_reducible refine splitM.mk (fun hsm => ?_) (fun hsm => ?_)) <;> (try exact zx)) | ((with_reducible refine splitB.mk (fun h => ?_) (fun h => ?_)) <;> (try simp only [zs, ne_eq] at h) <;> (try simp (disch := omega) only [w64] at h) <;> (try exact zx)) | (with_reducible intro hz; (try exact absurd hz (Nat.succ_ne_zero _)))))
def s_a2cL (n : Nat) (L : List StT) : Spec := fun args S => match args, S with
  | [cv], [rb] => ⟨codP 0 cv rb ∧ dwC (codL cv rb) = n ∧ dwCh (codL cv rb) = L, .sl 1 0 n 0, [rb, .arr (.prod .str (.prod (.int .i64) (.prod (.prod (.prod (.int .i64) (.int .i64)) (.prod (.int .i64) (.int .i64))) (.prod (.prod (.int .i64) (.int .i64)) (.prod (.int .i64) (.int .i64)))))) L 10 true]⟩
  | _, _ => noSpec
theorem ok_a2cL (n : Nat) (L : List StT) : SpecOk Try.prog 7 (s_a2cL n L) := by
  intro args S h; unfold s_a2cL at h ⊢; (split at h <;> first | exact False.elim h | skip)
  dsimp only at h ⊢
  rename_i cv rb
  obtain ⟨h1, h2, h3⟩ := h
  subst h2; subst h3
  exact ok_A2Chain [cv] [rb] h1
def s_a2AtV (D : List Int) : Spec := fun args S => match args, S with
  | [cv, .int .i64 t, .int .i64 n], [rb] => ⟨(codP 0 cv rb ∧ codL cv rb = D) ∧ 0 ≤ t, .int .i64 (atV D t n), [rb]⟩
  | _, _ => noSpec
theorem ok_a2AtV (D : List Int) : SpecOk Try.prog 8 (s_a2AtV D) := by
  intro args S h; unfold s_a2AtV at h ⊢; (split at h <;> first | exact False.elim h | skip)
  dsimp only at h ⊢
  rename_i cv t n rb
  obtain ⟨⟨h1, h2⟩, h3⟩ := h
  subst h2
  exact ok_a2At [cv, .int .i64 t, .int .i64 n] [rb] ⟨h1, h3⟩
theorem ok_u8c {l : List Int} (h : ∀ y ∈ l, ET.Ok (.int .u8) y) : ∀ a ∈ l, 0 ≤ a ∧ a ≤ (255 : Int) := fun a ha => by
  have := h a ha
  simp [ET.Ok, Lit.wf, IntKind.min, IntKind.max, IntKind.signed, IntKind.bits] at this
  omega
theorem seg_bc {l : List Int} {s n : Nat} (h : ∀ a ∈ l, 0 ≤ a ∧ a ≤ (255 : Int)) : ∀ a ∈ seg l s n, 0 ≤ a ∧ a ≤ (255 : Int) := fun a ha => h a (List.mem_of_mem_drop (List.mem_of_mem_take ha))
theorem cc_tw {L : List StT} (hC : chB L = true) {i k d : Int} (hi : 0 ≤ i ∧ i < L.length) (hk : 0 ≤ k ∧ k < L.length) (hd : 0 ≤ d ∧ d ≤ 100000) : ccC L [i, k] [d] = 0 ∧ ccC L [i] [d] = 0 := by
  unfold ccC
  have a1 : ixB L i = true := decide_eq_true (by omega)
  have a2 : ixB L k = true := decide_eq_true (by omega)
  have a3 : dyB d = true := decide_eq_true hd
  rw [hC]
  simp [a1, a2, a3]
theorem dc_tw {L : List StT} {i k d : Int} (h : Two L i k d) (hd : 0 ≤ d ∧ d ≤ 100000) : dcC L i k d = 0 ∧ dcV L i k d = twS (dfI L i k d) := by
  have hc := (cc_tw h.C h.hi h.hk hd).1
  have hg : (gdB (stAt L i) d && gdB (stAt L k) d) = true := by rw [h.gi, h.gk]; rfl
  unfold dcC dcV
  rw [hc, (co_3 hg).1, (co_3 hg).2, df_tw h]
  exact ⟨rfl, rfl⟩
theorem sv_tw {L : List StT} (hC : chB L = true) (hT : TwCh L) (hl : L.length ≤ 8) {i d : Int} (hi : 0 ≤ i ∧ i < L.length) (hd : 0 ≤ d ∧ d ≤ 100000) (hg : gdB (stAt L i) d = true) : soC L i d = 0 ∧ soV L i d = twS (spI L i d) := by
  have hc := (cc_tw hC hi hi hd).2
  unfold soC soV
  rw [hc, (co_3 hg).1, (co_3 hg).2, (so_tw hC hT hl hi hg).1]
  exact ⟨rfl, rfl⟩
theorem spB_tw {z : ISp} (h : (-1000000000 ≤ z.1 ∧ z.1 ≤ z.2) ∧ z.2 ≤ 1000000000) : spB (twS z) = true := by
  unfold spB twS
  exact spOk_iff.2 ⟨tw_ok (by omega), tw_ok (by omega), (tw_le _ _).2 h.1.2⟩
theorem zs_s (v : SpT) : zsS (some v) = v := rfl
theorem oc_s (v : SpT) : oCS (some v) = 0 := rfl
theorem sp_tw {z : ISp} (h : (-1000000000 ≤ z.1 ∧ z.1 ≤ z.2) ∧ z.2 ≤ 1000000000) : spOk (twS z).1.1 (twS z).1.2 (twS z).2.1 (twS z).2.2 = true ∧ fOk (twS z).1.1 (twS z).1.2 = true ∧ fOk (twS z).2.1 (twS z).2.2 = true := ⟨spB_tw h, tw_ok (by omega), tw_ok (by omega)⟩
theorem in_tw {w z : ISp} (h : (-1000000000 ≤ w.1 ∧ w.1 ≤ z.1) ∧ z.1 ≤ z.2 ∧ z.2 ≤ w.2 ∧ w.2 ≤ 1000000000) : spOk (twS w).1.1 (twS w).1.2 (twS w).2.1 (twS w).2.2 = true ∧
    (decide ((twS w).1.1 * (twS z).1.2 ≤ (twS z).1.1 * (twS w).1.2) = true ∧ decide ((twS z).1.1 * (twS w).2.2 ≤ (twS w).2.1 * (twS z).1.2) = true) ∧
    (decide ((twS w).1.1 * (twS z).2.2 ≤ (twS z).2.1 * (twS w).1.2) = true ∧ decide ((twS z).2.1 * (twS w).2.2 ≤ (twS w).2.1 * (twS z).2.2) = true) :=
  ⟨spB_tw (by omega), ⟨decide_eq_true ((tw_le _ _).2 (by omega)), decide_eq_true ((tw_le _ _).2 (by omega))⟩, decide_eq_true ((tw_le _ _).2 (by omega)), decide_eq_true ((tw_le _ _).2 (by omega))⟩
theorem neg_tw {z : ISp} (h : (-1000000000 ≤ z.1 ∧ z.1 ≤ z.2) ∧ z.2 ≤ 1000000000) : IntKind.i64.wrap (0 - (twS z).2.1) = (twS (-z.2, -z.1)).1.1 ∧ IntKind.i64.wrap (0 - (twS z).1.1) = (twS (-z.2, -z.1)).2.1 ∧ (twS (-z.2, -z.1)).1.2 = (twS z).2.2 ∧ (twS (-z.2, -z.1)).2.2 = (twS z).1.2 := by
  have s1 := smF_ok (tw_ok (x := z.1) (by omega))
  have s2 := smF_ok (tw_ok (x := z.2) (by omega))
  unfold smF at s1 s2
  unfold twS
  simp only [tw_neg]
  refine ⟨?_, ?_, trivial, trivial⟩
  · rw [w64 (by omega)]; omega
  · rw [w64 (by omega)]; omega
theorem tw_in {z : ISp} (h : (-1000000000 ≤ z.1 ∧ z.1 ≤ z.2) ∧ z.2 ≤ 1000000000) : apB (twS z) = !(spOk (twS z).1.1 (twS z).1.2 (twS z).2.1 (twS z).2.2 && fOk 0 1 && decide ((twS z).1.1 * 1 ≤ 0 * (twS z).1.2) && decide (0 * (twS z).2.2 ≤ (twS z).2.1 * 1)) := by
  have h1 := (sp_tw h).1
  rw [h1, show fOk 0 1 = true by decide]
  unfold apB
  rw [Bool.eq_iff_iff]
  simp only [Int.mul_one, Int.zero_mul, Bool.true_and, Bool.or_eq_true, decide_eq_true_eq, Bool.not_eq_true', Bool.and_eq_false_iff, decide_eq_false_iff_not]
  omega
set_option maxHeartbeats 6400000 in
theorem law_differences {c1 c2 : Bool} {n1 n2 : Nat} {l1 l2 : List Int} (hn1 : n1 ≤ l1.length) (hc1 : c1 = true → l1 = []) (ho1 : ∀ y ∈ l1, ET.Ok (.int .u8) y) (hz1 : l1.length ≤ 9223372036854775807) (hn2 : n2 ≤ l2.length) (hc2 : c2 = true → l2 = []) (ho2 : ∀ y ∈ l2, ET.Ok (.int .u8) y) (hz2 : l2.length ≤ 9223372036854775807) :
    RunsS Try.prog 3 [.opt c1 0 n1 0, .opt c2 1 n2 0] [.arrO (.int .u8) l1 1, .arrO (.int .u8) l2 1] (.bool true) [.arrO (.int .u8) l1 1, .arrO (.int .u8) l2 1] := by
  have hb1 := ok_u8c ho1
  have hb2 := ok_u8c ho2
  by_cases hlong : 3000 < n1 ∨ 3000 < n2
  · have hk : decide (3000 < n1 ∨ 3000 < n2) = true := decide_eq_true hlong
    refine funW tabOk (E := [(6, s_a2Long)]) ⟨ok_a2Long, trivial⟩ [(7, [(4, 1)])] (k := 2) (fn := Try.f3) rfl rfl rfl rfl rfl rfl ?_
    (repeat' ((try (conv => whnf)); first | (with_reducible first | refine And.intro ?_ ?_ | refine WX.of ?_) | exact zc | ((with_reducible refine VC.mk ?_); exact zw) | ((with_reducible refine splitT_of ?_ ?_); (focus (simp only [hk, Bool.not_true, Bool.not_false, decide_true, decide_false]; done))) | ((with_reducible refine splitF_of ?_ ?_); (focus (simp only [hk, Bool.not_true, Bool.not_false, decide_true, decide_false]; done))) | (with_reducible first | refine splitT ?_ | refine splitF ?_) | ((with_reducible refine splitM.mk (fun hsm => ?_) (fun hsm => ?_)) <;> (try exact zx)) | ((with_reducible refine splitB.mk (fun h => ?_) (fun h => ?_)) <;> (try simp only [zs, ne_eq] at h) <;> (try simp (disch := omega) only [w64] at h) <;> (try exact zx)) | (with_reducible intro hz; (try exact absurd hz (Nat.succ_ne_zero _)))))
  · have hk : decide (3000 < n1 ∨ 3000 < n2) = false := decide_eq_false hlong
    have hcb := seg_bc (s := 0) (n := n1) hb1
    have hdb := seg_bc (s := 0) (n := n2) hb2
    obtain ⟨hT, hC, hlen⟩ := dwCh_ok hcb
    have hcn := dwC_b hcb
    have hCL : codL (.opt c1 0 n1 0) (.arrO (.int .u8) l1 1) = seg l1 0 n1 := rfl
    have hDL : codL (.opt c2 0 n2 0) (.arrO (.int .u8) l2 1) = seg l2 0 n2 := rfl
    generalize hLd : dwCh (seg l1 0 n1) = L at *
    generalize hnd : dwC (seg l1 0 n1) = n at *
    have hsQ : seg L 0 n = L := seg_full hlen
    have hI := atV_b hdb (t := 0) (n := (n : Int)) (by omega)
    have hK := atV_b hdb (t := 1) (n := (n : Int)) (by omega)
    obtain ⟨⟨nm, fr, ⟨⟨p, q⟩, p', q'⟩, ⟨dp, dq⟩, md, gd⟩, ha⟩ := get_some (l := L) (i := (atV (seg l2 0 n2) 0 (n : Int)).toNat) (by omega)
    have g := hT _ _ ha
    have e := stAt_z (i := atV (seg l2 0 n2) 0 (n : Int)) ha
    have hmd := g.md
    have hgd := g.gd
    dsimp only at hmd hgd
    have hX := atV_b hdb (t := 2) (n := IntKind.i64.wrap (gd + 1)) (by rw [w64 (by omega)]; omega)
    have hgw : IntKind.i64.wrap (gd + 1) = gd + 1 := w64 (by omega)
    have hX2 : atV (seg l2 0 n2) 2 (IntKind.i64.wrap (gd + 1)) ≤ gd := by have := hX.2; omega
    have hD : IntKind.i64.wrap (md + atV (seg l2 0 n2) 2 (IntKind.i64.wrap (gd + 1))) = md + atV (seg l2 0 n2) 2 (IntKind.i64.wrap (gd + 1)) := w64 (by omega)
    have hdy : 0 ≤ IntKind.i64.wrap (md + atV (seg l2 0 n2) 2 (IntKind.i64.wrap (gd + 1))) ∧ IntKind.i64.wrap (md + atV (seg l2 0 n2) 2 (IntKind.i64.wrap (gd + 1))) ≤ 100000 := by rw [hD]; omega
    have hgi : gdB (stAt L (atV (seg l2 0 n2) 0 (n : Int))) (IntKind.i64.wrap (md + atV (seg l2 0 n2) 2 (IntKind.i64.wrap (gd + 1)))) = true := by
      unfold gdB
      rw [e, decide_eq_true_eq, hD]
      dsimp only
      omega
    have hi2 : 0 ≤ atV (seg l2 0 n2) 0 (n : Int) ∧ atV (seg l2 0 n2) 0 (n : Int) < (L.length : Int) := by rw [hlen]; exact hI
    have hk2 : 0 ≤ atV (seg l2 0 n2) 1 (n : Int) ∧ atV (seg l2 0 n2) 1 (n : Int) < (L.length : Int) := by rw [hlen]; exact hK
    have hia : 0 + (atV (seg l2 0 n2) 0 (n : Int)).toNat = (atV (seg l2 0 n2) 0 (n : Int)).toNat := Nat.zero_add _
    have hch : chP 0 n L := ⟨⟨by omega, by omega⟩, fun j a hj => by
      have hw := (ch_ok hC hj).nm
      unfold wordB at hw
      simp only [Bool.and_eq_true, decide_eq_true_eq] at hw
      omega⟩
    have hcc := cc_tw hC hi2 hk2 hdy
    by_cases hgk : gdB (stAt L (atV (seg l2 0 n2) 1 (n : Int))) (IntKind.i64.wrap (md + atV (seg l2 0 n2) 2 (IntKind.i64.wrap (gd + 1)))) = true
    rotate_left 1
    · have hg2 : (gdB (stAt (seg L 0 n) (atV (seg l2 0 n2) 0 (n : Int))) (IntKind.i64.wrap (md + atV (seg l2 0 n2) 2 (IntKind.i64.wrap (gd + 1)))) && gdB (stAt (seg L 0 n) (atV (seg l2 0 n2) 1 (n : Int))) (IntKind.i64.wrap (md + atV (seg l2 0 n2) 2 (IntKind.i64.wrap (gd + 1))))) = false := by rw [hsQ, hgi]; simpa using hgk
      have e1 : dcC (seg L 0 n) (atV (seg l2 0 n2) 0 (n : Int)) (atV (seg l2 0 n2) 1 (n : Int)) (IntKind.i64.wrap (md + atV (seg l2 0 n2) 2 (IntKind.i64.wrap (gd + 1)))) = 4 := by unfold dcC; rw [hsQ, hcc.1, ← hsQ]; exact (co_2 hg2).1
      have f1 : decide (dcC (seg L 0 n) (atV (seg l2 0 n2) 0 (n : Int)) (atV (seg l2 0 n2) 1 (n : Int)) (IntKind.i64.wrap (md + atV (seg l2 0 n2) 2 (IntKind.i64.wrap (gd + 1)))) ≠ 0) = true := by rw [e1]; rfl
      have f2 : decide (dcC (seg L 0 n) (atV (seg l2 0 n2) 0 (n : Int)) (atV (seg l2 0 n2) 1 (n : Int)) (IntKind.i64.wrap (md + atV (seg l2 0 n2) 2 (IntKind.i64.wrap (gd + 1)))) = 4) = true := by rw [e1]; rfl
      refine funW tabOk (E := [(6, s_a2Long), (7, (s_a2cL n L)), (8, (s_a2AtV (seg l2 0 n2))), (9, s_diff), (10, s_diff)]) ⟨ok_a2Long, (ok_a2cL n L), (ok_a2AtV _), ok_DifferenceOnI, ok_DifferenceOnS, trivial⟩ [(7, [(4, 1)])] (k := 2) (fn := Try.f3) rfl rfl rfl rfl rfl rfl ?_
      (repeat' ((try dsimp only); (try (conv => whnf)); first | (with_reducible first | refine And.intro ?_ ?_ | refine WX.of ?_) | exact zc | ((with_reducible refine VC.mk ?_); exact zw) | ((with_reducible refine splitT_of ?_ ?_); (focus (simp only [ne_eq, eq_self, not_true_eq_false, Bool.not_true, Bool.not_false, decide_true, decide_false]; done))) | ((with_reducible refine splitF_of ?_ ?_); (focus (simp only [ne_eq, eq_self, not_true_eq_false, Bool.not_true, Bool.not_false, decide_true, decide_false]; done))) | ((with_reducible refine splitT_of ?_ ?_); (focus (simp only [hk, Bool.not_true, Bool.not_false, decide_true, decide_false]; done))) | ((with_reducible refine splitF_of ?_ ?_); (focus (simp only [hk, Bool.not_true, Bool.not_false, decide_true, decide_false]; done))) | ((with_reducible refine splitT_of ?_ ?_); (focus (simp only [f1, f2, Bool.not_true, Bool.not_false, decide_true, decide_false]; done))) | ((with_reducible refine splitF_of ?_ ?_); (focus (simp only [f1, f2, Bool.not_true, Bool.not_false, decide_true, decide_false]; done))) | ((with_reducible refine VC.mk ?_); exact ⟨⟨rfl, ⟨hn1, hc1, by omega⟩, hb1⟩, hnd, hLd⟩) | ((with_reducible refine VC.mk ?_); exact ⟨⟨⟨rfl, ⟨hn2, hc2, by omega⟩, hb2⟩, rfl⟩, by decide⟩) | ((with_reducible refine VC.mk ?_); exact hI) | ((with_reducible refine VC.mk ?_); exact hch) | refine atL_q ha hia ?_ | (with_reducible first | refine splitT ?_ | refine splitF ?_) | ((with_reducible refine splitM.mk (fun hsm => ?_) (fun hsm => ?_)) <;> (try exact zx)) | ((with_reducible refine splitB.mk (fun h => ?_) (fun h => ?_)) <;> (try simp only [zs, ne_eq] at h) <;> (try simp (disch := omega) only [w64] at h) <;> (try exact zx)) | (with_reducible intro hz; (try exact absurd hz (Nat.succ_ne_zero _)))))
      all_goals simp at h
    · have hTw : Two L (atV (seg l2 0 n2) 0 (n : Int)) (atV (seg l2 0 n2) 1 (n : Int)) (IntKind.i64.wrap (md + atV (seg l2 0 n2) 2 (IntKind.i64.wrap (gd + 1)))) := ⟨hC, hT, by omega, hi2, hk2, hgi, hgk⟩
      have d1 := dc_tw hTw hdy
      have d2 := dc_tw hTw.swap hdy
      have s1 := sv_tw hC hT hTw.l hi2 hdy hgi
      have s2 := sv_tw hC hT hTw.l hk2 hdy hgk
      have b1 := so_tw hC hT hTw.l hi2 hgi
      have b2 := so_tw hC hT hTw.l hk2 hgk
      have b3 := df_le hTw
      have b4 := df_in hTw
      have b5 := df_sym hTw
      rw [← hsQ] at d1 d2 s1 s2
      have v1 := d1.2
      have v2 := d2.2
      have v3 := s1.2
      have v4 := s2.2
      rw [hsQ] at v1 v2 v3 v4
      have hsa : spB (soV (seg L 0 n) (atV (seg l2 0 n2) 0 (n : Int)) (IntKind.i64.wrap (md + atV (seg l2 0 n2) 2 (IntKind.i64.wrap (gd + 1))))) = true := by rw [s1.2, hsQ]; exact spB_tw (by omega)
      have hsb : spB (soV (seg L 0 n) (atV (seg l2 0 n2) 1 (n : Int)) (IntKind.i64.wrap (md + atV (seg l2 0 n2) 2 (IntKind.i64.wrap (gd + 1))))) = true := by rw [s2.2, hsQ]; exact spB_tw (by omega)
      have hE : IntKind.i64.wrap (md + atV (seg l2 0 n2) 2 (gd + 1)) = IntKind.i64.wrap (md + atV (seg l2 0 n2) 2 (IntKind.i64.wrap (gd + 1))) := by rw [hgw]
      have w1 : dcV (seg L 0 n) (atV (seg l2 0 n2) 0 (n : Int)) (atV (seg l2 0 n2) 1 (n : Int)) (IntKind.i64.wrap (md + atV (seg l2 0 n2) 2 (gd + 1))) = twS (dfI L (atV (seg l2 0 n2) 0 (n : Int)) (atV (seg l2 0 n2) 1 (n : Int)) (IntKind.i64.wrap (md + atV (seg l2 0 n2) 2 (IntKind.i64.wrap (gd + 1))))) := by rw [hE, hsQ]; exact v1
      have w2 : dcV (seg L 0 n) (atV (seg l2 0 n2) 1 (n : Int)) (atV (seg l2 0 n2) 0 (n : Int)) (IntKind.i64.wrap (md + atV (seg l2 0 n2) 2 (gd + 1))) = twS (-(dfI L (atV (seg l2 0 n2) 0 (n : Int)) (atV (seg l2 0 n2) 1 (n : Int)) (IntKind.i64.wrap (md + atV (seg l2 0 n2) 2 (IntKind.i64.wrap (gd + 1))))).2, -(dfI L (atV (seg l2 0 n2) 0 (n : Int)) (atV (seg l2 0 n2) 1 (n : Int)) (IntKind.i64.wrap (md + atV (seg l2 0 n2) 2 (IntKind.i64.wrap (gd + 1))))).1) := by rw [hE, hsQ, ← b5]; exact v2
      have w3 : soV (seg L 0 n) (atV (seg l2 0 n2) 0 (n : Int)) (IntKind.i64.wrap (md + atV (seg l2 0 n2) 2 (gd + 1))) = twS (spI L (atV (seg l2 0 n2) 0 (n : Int)) (IntKind.i64.wrap (md + atV (seg l2 0 n2) 2 (IntKind.i64.wrap (gd + 1))))) := by rw [hE, hsQ]; exact v3
      have w4 : soV (seg L 0 n) (atV (seg l2 0 n2) 1 (n : Int)) (IntKind.i64.wrap (md + atV (seg l2 0 n2) 2 (gd + 1))) = twS (spI L (atV (seg l2 0 n2) 1 (n : Int)) (IntKind.i64.wrap (md + atV (seg l2 0 n2) 2 (IntKind.i64.wrap (gd + 1))))) := by rw [hE, hsQ]; exact v4
      have w20 : apV (seg L 0 n) (atV (seg l2 0 n2) 0 (n : Int)) (atV (seg l2 0 n2) 1 (n : Int)) (IntKind.i64.wrap (md + atV (seg l2 0 n2) 2 (gd + 1))) = apB (twS (dfI L (atV (seg l2 0 n2) 0 (n : Int)) (atV (seg l2 0 n2) 1 (n : Int)) (IntKind.i64.wrap (md + atV (seg l2 0 n2) 2 (IntKind.i64.wrap (gd + 1)))))) := by
        rw [← w1, hE]; unfold apV; rw [if_pos d1.1]
      have hself : atV (seg l2 0 n2) 0 (n : Int) = atV (seg l2 0 n2) 1 (n : Int) → dfI L (atV (seg l2 0 n2) 0 (n : Int)) (atV (seg l2 0 n2) 1 (n : Int)) (IntKind.i64.wrap (md + atV (seg l2 0 n2) 2 (IntKind.i64.wrap (gd + 1)))) = (0, 0) := fun h => by rw [← h]; exact df_self _ _ _
      have hz0 := tw_in (z := dfI L (atV (seg l2 0 n2) 0 (n : Int)) (atV (seg l2 0 n2) 1 (n : Int)) (IntKind.i64.wrap (md + atV (seg l2 0 n2) 2 (IntKind.i64.wrap (gd + 1))))) (by omega)
      generalize dfI L (atV (seg l2 0 n2) 0 (n : Int)) (atV (seg l2 0 n2) 1 (n : Int)) (IntKind.i64.wrap (md + atV (seg l2 0 n2) 2 (IntKind.i64.wrap (gd + 1)))) = z at *
      generalize spI L (atV (seg l2 0 n2) 0 (n : Int)) (IntKind.i64.wrap (md + atV (seg l2 0 n2) 2 (IntKind.i64.wrap (gd + 1)))) = za at *
      generalize spI L (atV (seg l2 0 n2) 1 (n : Int)) (IntKind.i64.wrap (md + atV (seg l2 0 n2) 2 (IntKind.i64.wrap (gd + 1)))) = zb at *
      have w5 : miO (twS za) (twS zb) = some (twS (za.1 - zb.2, za.2 - zb.1)) := by
        unfold miO twS
        dsimp only
        rw [tw_sub (by omega), tw_sub (by omega)]; rfl
      obtain ⟨w6, w11, w12⟩ := in_tw (w := (za.1 - zb.2, za.2 - zb.1)) (z := z) (by dsimp only; omega)
      obtain ⟨w7, w8, w9⟩ := sp_tw (z := z) (by omega)
      have w10 : fOk 0 1 = true := by decide
      obtain ⟨w15, w16, w17, w18⟩ := neg_tw (z := z) (by omega)
      obtain ⟨w13, w14⟩ := w11
      obtain ⟨w19, w11⟩ := w12
      have w12 := trivial
      have e1 := d1.1
      have e2 := d2.1
      have e3 := s1.1
      have e4 := s2.1
      refine funW tabOk (E := [(6, s_a2Long), (7, (s_a2cL n L)), (8, (s_a2AtV (seg l2 0 n2))), (9, s_diff), (10, s_diff), (11, s_SpanOn), (12, s_SubSp), (13, s_InSpan), (14, s_apart)]) ⟨ok_a2Long, (ok_a2cL n L), (ok_a2AtV _), ok_DifferenceOnI, ok_DifferenceOnS, ok_SpanOnS, ok_SubSpans, ok_InSpan, ok_AreApartI, trivial⟩ [(7, [(4, 1)])] (k := 2) (fn := Try.f3) rfl rfl rfl rfl rfl rfl ?_
      (repeat' ((try dsimp only); (try (conv => whnf)); first | (with_reducible first | refine And.intro ?_ ?_ | refine WX.of ?_) | exact zc | ((with_reducible refine VC.mk ?_); exact zw) | ((with_reducible refine splitT_of ?_ ?_); (focus (simp only [ne_eq, eq_self, not_true_eq_false, Bool.not_true, Bool.not_false, decide_true, decide_false]; done))) | ((with_reducible refine splitF_of ?_ ?_); (focus (simp only [ne_eq, eq_self, not_true_eq_false, Bool.not_true, Bool.not_false, decide_true, decide_false]; done))) | ((with_reducible refine splitT_of ?_ ?_); (focus (simp only [hk, Bool.not_true, Bool.not_false, decide_true, decide_false]; done))) | ((with_reducible refine splitF_of ?_ ?_); (focus (simp only [hk, Bool.not_true, Bool.not_false, decide_true, decide_false]; done))) | ((with_reducible refine splitT_of ?_ ?_); (focus (simp only [e1, ne_eq, eq_self, not_true_eq_false, Bool.not_true, Bool.not_false, decide_true, decide_false]; done))) | ((with_reducible refine splitF_of ?_ ?_); (focus (simp only [e1, ne_eq, eq_self, not_true_eq_false, Bool.not_true, Bool.not_false, decide_true, decide_false]; done))) | ((with_reducible refine splitT_of ?_ ?_); (focus (simp only [e2, ne_eq, eq_self, not_true_eq_false, Bool.not_true, Bool.not_false, decide_true, decide_false]; done))) | ((with_reducible refine splitF_of ?_ ?_); (focus (simp only [e2, ne_eq, eq_self, not_true_eq_false, Bool.not_true, Bool.not_false, decide_true, decide_false]; done))) | ((with_reducible refine splitT_of ?_ ?_); (focus (simp only [e3, ne_eq, eq_self, not_true_eq_false, Bool.not_true, Bool.not_false, decide_true, decide_false]; done))) | ((with_reducible refine splitF_of ?_ ?_); (focus (simp only [e3, ne_eq, eq_self, not_true_eq_false, Bool.not_true, Bool.not_false, decide_true, decide_false]; done))) | ((with_reducible refine splitT_of ?_ ?_); (focus (simp only [e4, ne_eq, eq_self, not_true_eq_false, Bool.not_true, Bool.not_false, decide_true, decide_false]; done))) | ((with_reducible refine splitF_of ?_ ?_); (focus (simp only [e4, ne_eq, eq_self, not_true_eq_false, Bool.not_true, Bool.not_false, decide_true, decide_false]; done))) | ((with_reducible refine VC.mk ?_); exact ⟨⟨rfl, ⟨hn1, hc1, by omega⟩, hb1⟩, hnd, hLd⟩) | ((with_reducible refine VC.mk ?_); exact ⟨⟨⟨rfl, ⟨hn2, hc2, by omega⟩, hb2⟩, rfl⟩, by decide⟩) | ((with_reducible refine VC.mk ?_); exact hI) | ((with_reducible refine VC.mk ?_); exact hch) | ((with_reducible refine VC.mk ?_); exact ⟨hsa, hsb⟩) | refine atL_q ha hia ?_ | (with_reducible first | refine splitT ?_ | refine splitF ?_) | ((with_reducible refine splitM.mk (fun hsm => ?_) (fun hsm => ?_)) <;> (try exact zx)) | ((with_reducible refine splitB.mk (fun h => ?_) (fun h => ?_)) <;> (try simp only [zs, ne_eq] at h) <;> (try simp (disch := omega) only [w64] at h) <;> (try exact zx)) | (with_reducible intro hz; (try exact absurd hz (Nat.succ_ne_zero _)))))
      all_goals try (exfalso; simp [w20, hz0, w1, w2, w3, w4, Prod.eta, w5, zs_s, oc_s, w6, w7, w8, w9, w10, w11, w13, w14, w15, w16, w17, w18, w19] at h; done)
      all_goals first
        | (exfalso; simp only [w1, w2, w15, w16, w17, w18, decide_true, Bool.and_self, Bool.and_true, Bool.true_and, reduceCtorEq] at h; done)
        | skip
      · simp only [w20, hz0, w1, w7, w10, Bool.true_and] at h
        exfalso
        have hbb : ∀ b : Bool, ((!b) == b) = true → False := by intro b; cases b <;> decide
        exact hbb _ h
      · rw [hsQ]
        rw [v1]
        have hz := hself h
        rw [hz]
        rw [← tw_00]
        exact ⟨rfl⟩
end Go.Proofs.Ytnmpgofhdjcpaaa.Eng
