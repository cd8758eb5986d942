/- Lemmas for the proof, no conditions of their own. -/
import Derived.Test.YtbmejhabgoimeaaGreatQA5
set_option linter.unusedVariables false
set_option linter.unusedSimpArgs false
namespace Go.Proofs.YtbmejhabgoimeaaGreat.Eng
open Go Go.RowKit
set_option maxRecDepth 100000
theorem zv_sv (v : FrT) : zv (some v) = v := rfl
theorem pr_e2 {α β : Type} (p : α × β) : (p.1, p.2) = p := rfl
def el0 (L : List FrT) (i : Nat) : FrT := (L[i]?).getD (0, 0)
theorem el0_e {L : List FrT} {i : Nat} {a : FrT} (h : L[i]? = some a) : el0 L i = a := by unfold el0; rw [h]; rfl
/-- The sum of the first of some fractions. -/
def smO (L : List FrT) : Nat → Option FrT
  | 0 => some (0, 1)
  | i + 1 => (smO L i).bind fun s => adO s (el0 L i)
def smV (L : List FrT) : Nat → FrT
  | 0 => (0, 1)
  | i + 1 => tv (adO (smV L i) (el0 L i))
def smX (L : List FrT) : Nat → Bool
  | 0 => false
  | i + 1 => smX L i || !(adO (smV L i) (el0 L i)).isSome
theorem sm_e (L : List FrT) : ∀ (i : Nat), smX L i = !(smO L i).isSome ∧ ∀ v, smO L i = some v → smV L i = v
  | 0 => ⟨rfl, fun v h => Option.some.inj h⟩
  | i + 1 => by
    obtain ⟨h1, h2⟩ := sm_e L i
    rw [show smX L (i + 1) = (smX L i || !(adO (smV L i) (el0 L i)).isSome) from rfl, show smV L (i + 1) = tv (adO (smV L i) (el0 L i)) from rfl, show smO L (i + 1) = (smO L i).bind fun s => adO s (el0 L i) from rfl]
    cases h : smO L i with
    | none => rw [h] at h1; rw [h1]; simp
    | some s =>
      rw [h] at h1
      rw [h1, h2 s h]
      simp only [Option.isSome_some, Bool.not_true, Bool.false_or, Option.bind_some, true_and]
      intro v hv; rw [hv]; rfl
theorem smV_sm (L : List FrT) : ∀ (i : Nat), smF (smV L i).1 (smV L i).2
  | 0 => smF_1 (n := 0) (by omega)
  | i + 1 => smF_rO _ _
theorem smO_n {L : List FrT} {i : Nat} (h : smO L i = none) : ∀ (j : Nat), smO L (i + j) = none
  | 0 => h
  | j + 1 => by rw [← Nat.add_assoc]; unfold smO; rw [smO_n h j]; rfl
def mnO (L : List FrT) : Option FrT := (smO L L.length).bind fun s => dvO s (L.length, 1)
def mnE (L : List FrT) : Except Int FrT := if allF L = true then (if 1 ≤ L.length ∧ L.length ≤ 64 then (match mnO L with | some v => .ok v | none => .error 3) else .error 2) else .error 1
def mnC (L : List FrT) : Int := match mnE L with | .ok _ => 0 | .error c => c
def mnV (L : List FrT) : FrT := match mnE L with | .ok v => v | .error _ => (0, 0)
def s_csum : Spec := fun args S => match args, S with
  | [.ptr b 0 0, .sl 1 s n x], [.arr .bool [bad] 0 true, .arr (.prod (.int .i64) (.int .i64)) l 2 wr] => ⟨b = 0 ∧ (s + n ≤ l.length ∧ n ≤ 1048576) ∧ ∀ (j : Nat) (a : FrT), (seg l s n)[j]? = some a → smF a.1 a.2, .agg [.int .i64 (smV (seg l s n) n).1, .int .i64 (smV (seg l s n) n).2], [.arr .bool [bad || smX (seg l s n) n] 0 true, .arr (.prod (.int .i64) (.int .i64)) l 2 wr]⟩
  | _, _ => noSpec
attribute [local irreducible] adO in
theorem ok_csum : SpecOk Tryz.prog 109 s_csum := by
  intro args S h; unfold s_csum at h ⊢; (split at h <;> first | exact False.elim h | skip)
  dsimp only at h ⊢
  rename_i b s n x bad l wr
  obtain ⟨rfl, ⟨h1, h2⟩, hE⟩ := h
  have hL := seg_len h1
  refine funW tabOk (E := [(127, s_zero), (81, s_addO)]) ⟨ok_zero, ok_addO, trivial⟩ [] (k := 2) (fn := Tryz.f109) rfl rfl rfl rfl rfl rfl ?_
  (repeat' ((try (conv => whnf)); first | (with_reducible first | refine And.intro ?_ ?_ | refine WX.of ?_) | exact zc | ((with_reducible refine VC.mk ?_); exact zw) | (with_reducible first | refine splitT ?_ | refine splitF ?_) | ((with_reducible refine splitM.mk (fun hsm => ?_) (fun hsm => ?_)) <;> (try exact zx)) | ((with_reducible refine splitB.mk (fun h => ?_) (fun h => ?_)) <;> (try simp only [zs, ne_eq] at h) <;> (try simp (disch := omega) only [w64] at h) <;> (try exact zx)) | (with_reducible intro hz; (try exact absurd hz (Nat.succ_ne_zero _)))))
  refine loopW tabOk (E := [(127, s_zero), (81, s_addO)]) ⟨ok_zero, ok_addO, trivial⟩ [] (σ := Nat) (fun i => [(0, .ptr 0 0 0), (4, .ptr 2 0 0), (5, .ptr 3 0 0), (9, .sl 1 s n x), (10, .int .i64 n), (11, .int .i64 i)]) (fun i => [.arr .bool [bad || smX (seg l s n) i] 0 true, .arr (.prod (.int .i64) (.int .i64)) l 2 wr, .arr (.prod (.int .i64) (.int .i64)) [(0, 0)] 0 true, .arr (.prod (.int .i64) (.int .i64)) [smV (seg l s n) i] 0 true]) (fun i => n - i) (fun i => i ≤ n) 0 (Nat.zero_le _) ?_ ?_
  · (repeat' ((try (conv => whnf)); first | (with_reducible first | refine And.intro ?_ ?_ | refine WX.of ?_) | exact zc | ((with_reducible refine VC.mk ?_); exact zw) | (with_reducible first | refine splitT ?_ | refine splitF ?_) | ((with_reducible refine splitM.mk (fun hsm => ?_) (fun hsm => ?_)) <;> (try exact zx)) | ((with_reducible refine splitB.mk (fun h => ?_) (fun h => ?_)) <;> (try simp only [zs, ne_eq] at h) <;> (try simp (disch := omega) only [w64] at h) <;> (try exact zx)) | (with_reducible intro hz; (try exact absurd hz (Nat.succ_ne_zero _)))))
    all_goals exact ⟨by simp [smX]⟩
  · intro i hi
    by_cases hlt : i < n
    · obtain ⟨⟨p, q⟩, ha⟩ := get_some (l := seg l s n) (i := i) (by omega)
      (repeat' ((try (conv => whnf)); first | (with_reducible first | refine And.intro ?_ ?_ | refine WX.of ?_) | exact zc | ((with_reducible refine VC.mk ?_); exact zw) | with_reducible refine atL_i ha ?_ | ((with_reducible refine VC.mk ?_); exact ⟨rfl, smV_sm _ _, hE _ _ ha⟩) | (with_reducible first | refine splitT ?_ | refine splitF ?_) | ((with_reducible refine splitM.mk (fun hsm => ?_) (fun hsm => ?_)) <;> (try exact zx)) | ((with_reducible refine splitB.mk (fun h => ?_) (fun h => ?_)) <;> (try simp only [zs, ne_eq] at h) <;> (try simp (disch := omega) only [w64] at h) <;> (try exact zx)) | (with_reducible intro hz; (try exact absurd hz (Nat.succ_ne_zero _)))))
      refine ⟨i + 1, by omega, hlt, ?_⟩
      have e1 : smV (seg l s n) (i + 1) = tv (adO (smV (seg l s n) i) (p, q)) := by rw [← el0_e ha]; rfl
      have e2 : smX (seg l s n) (i + 1) = (smX (seg l s n) i || !(adO (smV (seg l s n) i) (p, q)).isSome) := by rw [← el0_e ha]; rfl
      rw [e1, e2]
      (repeat' ((try (conv => whnf)); first | (with_reducible first | refine And.intro ?_ ?_ | refine WX.of ?_) | exact zc | ((with_reducible refine VC.mk ?_); exact zw) | (with_reducible first | refine splitT ?_ | refine splitF ?_) | ((with_reducible refine splitM.mk (fun hsm => ?_) (fun hsm => ?_)) <;> (try exact zx)) | ((with_reducible refine splitB.mk (fun h => ?_) (fun h => ?_)) <;> (try simp only [zs, ne_eq] at h) <;> (try simp (disch := omega) only [w64] at h) <;> (try exact zx)) | (with_reducible intro hz; (try exact absurd hz (Nat.succ_ne_zero _)))))
      all_goals exact ⟨by rw [Bool.or_assoc]⟩
    · obtain rfl : i = n := by omega
      (repeat' ((try (conv => whnf)); first | (with_reducible first | refine And.intro ?_ ?_ | refine WX.of ?_) | exact zc | ((with_reducible refine VC.mk ?_); exact zw) | (with_reducible first | refine splitT ?_ | refine splitF ?_) | ((with_reducible refine splitM.mk (fun hsm => ?_) (fun hsm => ?_)) <;> (try exact zx)) | ((with_reducible refine splitB.mk (fun h => ?_) (fun h => ?_)) <;> (try simp only [zs, ne_eq] at h) <;> (try simp (disch := omega) only [w64] at h) <;> (try exact zx)) | (with_reducible intro hz; (try exact absurd hz (Nat.succ_ne_zero _)))))
def s_isSome : Spec := fun args S => match args, S with
  | [.sl 0 s n x], [.arr (.prod (.int .i64) (.int .i64)) l 2 wr] => ⟨s + n ≤ l.length ∧ n ≤ 1048576, .int .i64 (if allF (seg l s n) = true then (if 1 ≤ n ∧ n ≤ 64 then 0 else 2) else 1), [.arr (.prod (.int .i64) (.int .i64)) l 2 wr]⟩
  | _, _ => noSpec
theorem ok_isSome : SpecOk Tryz.prog 108 s_isSome := by
  intro args S h; unfold s_isSome at h ⊢; (split at h <;> first | exact False.elim h | skip)
  dsimp only at h ⊢
  rename_i s n x l wr
  obtain ⟨h1, h2⟩ := h
  refine funW tabOk (E := [(128, s_allF)]) ⟨ok_areValid, trivial⟩ [] (k := 1) (fn := Tryz.f108) rfl rfl rfl rfl rfl rfl ?_
  (repeat' ((try (conv => whnf)); first | (with_reducible first | refine And.intro ?_ ?_ | refine WX.of ?_) | exact zc | ((with_reducible refine VC.mk ?_); exact zw) | (with_reducible first | refine splitT ?_ | refine splitF ?_) | ((with_reducible refine splitM.mk (fun hsm => ?_) (fun hsm => ?_)) <;> (try exact zx)) | ((with_reducible refine splitB.mk (fun h => ?_) (fun h => ?_)) <;> (try simp only [zs, ne_eq] at h) <;> (try simp (disch := omega) only [w64] at h) <;> (try exact zx)) | (with_reducible intro hz; (try exact absurd hz (Nat.succ_ne_zero _)))))
  · exact ⟨by rw [if_neg (by rw [h]; decide)]⟩
  · rename_i ha
    exact ⟨by rw [if_pos ha, if_neg (by omega)]⟩
  · rename_i ha hn
    exact ⟨by rw [if_pos ha, if_neg (by omega)]⟩
  · rename_i ha hn
    exact ⟨by rw [if_pos ha, if_pos (by omega)]⟩
def s_meanOf : Spec := fun args S => match args, S with
  | [.sl 0 s n x], [.arr (.prod (.int .i64) (.int .i64)) l 2 wr] => ⟨s + n ≤ l.length ∧ n ≤ 1048576, .tup [.agg [.int .i64 (mnV (seg l s n)).1, .int .i64 (mnV (seg l s n)).2], .int .i64 (mnC (seg l s n))], [.arr (.prod (.int .i64) (.int .i64)) l 2 wr]⟩
  | _, _ => noSpec
theorem mn_1 {L : List FrT} (h : ¬ (allF L = true ∧ 1 ≤ L.length ∧ L.length ≤ 64)) : mnV L = (0, 0) ∧ mnC L = if allF L = true then 2 else 1 := by
  unfold mnV mnC mnE
  by_cases h1 : allF L = true
  · rw [if_pos h1, if_neg (fun e => h ⟨h1, e⟩), if_pos h1]; exact ⟨rfl, rfl⟩
  · rw [if_neg h1, if_neg h1]; exact ⟨rfl, rfl⟩
theorem mn_2 {L : List FrT} (h : allF L = true ∧ 1 ≤ L.length ∧ L.length ≤ 64) : mnV L = zv (mnO L) ∧ mnC L = oC (mnO L) := by
  unfold mnV mnC mnE
  rw [if_pos h.1, if_pos h.2]
  cases mnO L <;> exact ⟨rfl, rfl⟩
theorem mnO_e (L : List FrT) : (smX L L.length || !(dvO (smV L L.length) (L.length, 1)).isSome) = !(mnO L).isSome ∧ ∀ v, mnO L = some v → tv (dvO (smV L L.length) (L.length, 1)) = v := by
  obtain ⟨h1, h2⟩ := sm_e L L.length
  unfold mnO
  cases h : smO L L.length with
  | none => rw [h] at h1; rw [h1]; simp
  | some s =>
    rw [h] at h1
    rw [h1, h2 s h]
    simp only [Option.isSome_some, Bool.not_true, Bool.false_or, Option.bind_some, true_and]
    intro v hv; rw [hv]; rfl
theorem allF_at {L : List FrT} (h : allF L = true) {j : Nat} {a : FrT} (ha : L[j]? = some a) : fOk a.1 a.2 = true := by unfold allF at h; exact List.all_eq_true.1 h a (List.mem_of_getElem? ha)
theorem allF_sm {L : List FrT} (h : allF L = true) : ∀ (j : Nat) (a : FrT), L[j]? = some a → smF a.1 a.2 := fun j a ha => smF_ok (allF_at h ha)
attribute [local irreducible] mnV mnC mnO smV smX dvO in
theorem ok_MeanOf : SpecOk Tryz.prog 57 s_meanOf := by
  intro args S h; unfold s_meanOf at h ⊢; (split at h <;> first | exact False.elim h | skip)
  dsimp only at h ⊢
  rename_i s n x l wr
  obtain ⟨h1, h2⟩ := h
  have hL := seg_len h1
  by_cases hok : allF (seg l s n) = true ∧ 1 ≤ n ∧ n ≤ 64
  · have hcn : (if allF (seg l s n) = true then (if 1 ≤ n ∧ n ≤ 64 then (0 : Int) else 2) else 1) = 0 := by rw [if_pos hok.1, if_pos hok.2]
    have hm := mn_2 (L := seg l s n) (by rw [hL]; exact hok)
    have he := mnO_e (seg l s n)
    rw [hL] at he
    refine funW tabOk (E := [(108, s_isSome), (109, s_csum), (71, s_num), (74, s_divO), (76, s_one)]) ⟨ok_isSome, ok_csum, ok_num, ok_divO, ok_one, trivial⟩ [] (k := 1) (fn := Tryz.f57) rfl rfl rfl rfl rfl rfl ?_
    (repeat' ((try (conv => whnf)); first | (with_reducible first | refine And.intro ?_ ?_ | refine WX.of ?_) | exact zc | ((with_reducible refine VC.mk ?_); exact zw) | ((with_reducible refine splitT_of ?_ ?_); (focus (simp only [hcn, ne_eq, not_true_eq_false, Bool.not_true, Bool.not_false, decide_true, decide_false]; done))) | ((with_reducible refine splitF_of ?_ ?_); (focus (simp only [hcn, ne_eq, not_true_eq_false, Bool.not_true, Bool.not_false, decide_true, decide_false]; done))) | ((with_reducible refine VC.mk ?_); exact ⟨h1, h2⟩) | ((with_reducible refine VC.mk ?_); exact ⟨rfl, ⟨h1, h2⟩, allF_sm hok.1⟩) | ((with_reducible refine VC.mk ?_); exact ⟨rfl, smV_sm _ _, smF_1 (by omega)⟩) | (with_reducible first | refine splitT ?_ | refine splitF ?_) | ((with_reducible refine splitM.mk (fun hsm => ?_) (fun hsm => ?_)) <;> (try exact zx)) | ((with_reducible refine splitB.mk (fun h => ?_) (fun h => ?_)) <;> (try simp only [zs, ne_eq] at h) <;> (try simp (disch := omega) only [w64] at h) <;> (try exact zx)) | (with_reducible intro hz; (try exact absurd hz (Nat.succ_ne_zero _)))))
    refine ⟨?_⟩
    rw [hm.1, hm.2]
    dsimp only
    simp only [Bool.false_or] at he ⊢
    rw [he.1]
    cases hq : mnO (seg l s n) with
    | none => rfl
    | some v =>
      have e2 := he.2 v hq
      simp only [Option.isSome_some, Bool.not_true, Bool.false_eq_true, if_false, zv_sv]
      rw [show tv (dvO ((smV (seg l s n) n).1, (smV (seg l s n) n).2) ((n : Int), 1)) = v from e2]
      rfl
  · have hcn : (if allF (seg l s n) = true then (if 1 ≤ n ∧ n ≤ 64 then (0 : Int) else 2) else 1) ≠ 0 := by
      split
      · rename_i ha
        rw [if_neg (fun e => hok ⟨ha, e⟩)]; decide
      · decide
    have hm := mn_1 (L := seg l s n) (by rw [hL]; exact hok)
    refine funW tabOk (E := [(108, s_isSome)]) ⟨ok_isSome, trivial⟩ [] (k := 1) (fn := Tryz.f57) rfl rfl rfl rfl rfl rfl ?_
    (repeat' ((try (conv => whnf)); first | (with_reducible first | refine And.intro ?_ ?_ | refine WX.of ?_) | exact zc | ((with_reducible refine VC.mk ?_); exact zw) | ((with_reducible refine splitT_of ?_ ?_); (focus (exact decide_eq_true hcn))) | ((with_reducible refine VC.mk ?_); exact ⟨h1, h2⟩) | (with_reducible first | refine splitT ?_ | refine splitF ?_) | ((with_reducible refine splitM.mk (fun hsm => ?_) (fun hsm => ?_)) <;> (try exact zx)) | ((with_reducible refine splitB.mk (fun h => ?_) (fun h => ?_)) <;> (try simp only [zs, ne_eq] at h) <;> (try simp (disch := omega) only [w64] at h) <;> (try exact zx)) | (with_reducible intro hz; (try exact absurd hz (Nat.succ_ne_zero _)))))
    all_goals (refine ⟨?_⟩; rw [hm.1, hm.2])
    by_cases ha : allF (seg l s n) = true
    · rw [if_pos ha, if_pos ha, if_neg (fun e => hok ⟨ha, e⟩)]
    · rw [if_neg ha, if_neg ha]
/-- On the reference's side. -/
def s_l01Sum : Spec := fun args S => match args, S with
  | [.sl 0 s n x], [.arr (.prod (.int .i64) (.int .i64)) l 2 wr] => ⟨(s + n ≤ l.length ∧ n ≤ 1048576) ∧ ∀ (j : Nat) (a : FrT), (seg l s n)[j]? = some a → smF a.1 a.2, .tup [.agg [.int .i64 (zv (smO (seg l s n) n)).1, .int .i64 (zv (smO (seg l s n) n)).2], .int .i64 (oC (smO (seg l s n) n))], [.arr (.prod (.int .i64) (.int .i64)) l 2 wr]⟩
  | _, _ => noSpec
attribute [local irreducible] adO in
theorem ok_l01Sum : SpecOk Tryz.prog 105 s_l01Sum := by
  intro args S h; unfold s_l01Sum at h ⊢; (split at h <;> first | exact False.elim h | skip)
  dsimp only at h ⊢
  rename_i s n x l wr
  obtain ⟨⟨h1, h2⟩, hE⟩ := h
  have hL := seg_len h1
  refine funW tabOk (E := [(107, s_num), (143, s_addZ)]) ⟨ok_l01Whole, ok_l01AddZ, trivial⟩ [(5, [(9, 0)])] (k := 1) (fn := Tryz.f105) rfl rfl rfl rfl rfl rfl ?_
  (repeat' ((try (conv => whnf)); first | (with_reducible first | refine And.intro ?_ ?_ | refine WX.of ?_) | exact zc | ((with_reducible refine VC.mk ?_); exact zw) | (with_reducible first | refine splitT ?_ | refine splitF ?_) | ((with_reducible refine splitM.mk (fun hsm => ?_) (fun hsm => ?_)) <;> (try exact zx)) | ((with_reducible refine splitB.mk (fun h => ?_) (fun h => ?_)) <;> (try simp only [zs, ne_eq] at h) <;> (try simp (disch := omega) only [w64] at h) <;> (try exact zx)) | (with_reducible intro hz; (try exact absurd hz (Nat.succ_ne_zero _)))))
  refine loopW tabOk (E := [(107, s_num), (143, s_addZ)]) ⟨ok_l01Whole, ok_l01AddZ, trivial⟩ [(5, [(9, 0)])] (σ := Nat × FrT) (fun z => [(0, .sl 0 s n x), (2, .ptr 1 0 0), (4, .ptr 2 0 0), (5, .int .i64 z.1)]) (fun z => [.arr (.prod (.int .i64) (.int .i64)) l 2 wr, .arr (.prod (.int .i64) (.int .i64)) [(0, 0)] 0 true, .arr (.prod (.int .i64) (.int .i64)) [z.2] 0 true]) (fun z => n - z.1) (fun z => z.1 ≤ n ∧ smO (seg l s n) z.1 = some z.2) (0, (0, 1)) ⟨Nat.zero_le _, rfl⟩ ?_ ?_
  · (repeat' ((try (conv => whnf)); first | (with_reducible first | refine And.intro ?_ ?_ | refine WX.of ?_) | exact zc | ((with_reducible refine VC.mk ?_); exact zw) | (with_reducible first | refine splitT ?_ | refine splitF ?_) | ((with_reducible refine splitM.mk (fun hsm => ?_) (fun hsm => ?_)) <;> (try exact zx)) | ((with_reducible refine splitB.mk (fun h => ?_) (fun h => ?_)) <;> (try simp only [zs, ne_eq] at h) <;> (try simp (disch := omega) only [w64] at h) <;> (try exact zx)) | (with_reducible intro hz; (try exact absurd hz (Nat.succ_ne_zero _)))))
  · intro ⟨i, z⟩ ⟨hi, hz⟩
    dsimp only at hi hz ⊢
    have hzs : smF z.1 z.2 := by have := (sm_e (seg l s n) i).2 z hz; rw [← this]; exact smV_sm _ _
    by_cases hlt : i < n
    · obtain ⟨⟨p, q⟩, ha⟩ := get_some (l := seg l s n) (i := i) (by omega)
      have e1 : smO (seg l s n) (i + 1) = adO z (p, q) := by
        rw [show smO (seg l s n) (i + 1) = (smO (seg l s n) i).bind fun s1 => adO s1 (el0 (seg l s n) i) from rfl, hz, el0_e ha]; rfl
      cases hq : adO z (p, q) with
      | none =>
        have hnn := smO_n (i := i + 1) (L := seg l s n) (by rw [e1]; exact hq) (n - (i + 1))
        rw [show i + 1 + (n - (i + 1)) = n by omega] at hnn
        have hcn : decide (oC (adO z (p, q)) ≠ 0) = true := by rw [hq]; rfl
        (repeat' ((try (conv => whnf)); first | (with_reducible first | refine And.intro ?_ ?_ | refine WX.of ?_) | exact zc | ((with_reducible refine VC.mk ?_); exact zw) | with_reducible refine atL_i ha ?_ | ((with_reducible refine splitT_of ?_ ?_); (focus (simp only [hcn, pr_e2, Bool.not_true, Bool.not_false, decide_true, decide_false]; done))) | ((with_reducible refine splitF_of ?_ ?_); (focus (simp only [hcn, pr_e2, Bool.not_true, Bool.not_false, decide_true, decide_false]; done))) | ((with_reducible refine VC.mk ?_); exact ⟨hzs, hE _ _ ha⟩) | (with_reducible first | refine splitT ?_ | refine splitF ?_) | ((with_reducible refine splitM.mk (fun hsm => ?_) (fun hsm => ?_)) <;> (try exact zx)) | ((with_reducible refine splitB.mk (fun h => ?_) (fun h => ?_)) <;> (try simp only [zs, ne_eq] at h) <;> (try simp (disch := omega) only [w64] at h) <;> (try exact zx)) | (with_reducible intro hz; (try exact absurd hz (Nat.succ_ne_zero _)))))
        all_goals (refine ⟨?_⟩; rw [hnn]; simp only [pr_e2, hq]; rfl)
      | some v =>
        have hcn : decide (oC (adO z (p, q)) ≠ 0) = false := by rw [hq]; rfl
        (repeat' ((try (conv => whnf)); first | (with_reducible first | refine And.intro ?_ ?_ | refine WX.of ?_) | exact zc | ((with_reducible refine VC.mk ?_); exact zw) | with_reducible refine atL_i ha ?_ | ((with_reducible refine splitT_of ?_ ?_); (focus (simp only [hcn, pr_e2, Bool.not_true, Bool.not_false, decide_true, decide_false]; done))) | ((with_reducible refine splitF_of ?_ ?_); (focus (simp only [hcn, pr_e2, Bool.not_true, Bool.not_false, decide_true, decide_false]; done))) | ((with_reducible refine VC.mk ?_); exact ⟨hzs, hE _ _ ha⟩) | (with_reducible first | refine splitT ?_ | refine splitF ?_) | ((with_reducible refine splitM.mk (fun hsm => ?_) (fun hsm => ?_)) <;> (try exact zx)) | ((with_reducible refine splitB.mk (fun h => ?_) (fun h => ?_)) <;> (try simp only [zs, ne_eq] at h) <;> (try simp (disch := omega) only [w64] at h) <;> (try exact zx)) | (with_reducible intro hz; (try exact absurd hz (Nat.succ_ne_zero _)))))
        refine ⟨(i + 1, v), by dsimp only; omega, ⟨hlt, by dsimp only; rw [e1]; exact hq⟩, ?_⟩
        (repeat' ((try (conv => whnf)); first | (with_reducible first | refine And.intro ?_ ?_ | refine WX.of ?_) | exact zc | ((with_reducible refine VC.mk ?_); exact zw) | (with_reducible first | refine splitT ?_ | refine splitF ?_) | ((with_reducible refine splitM.mk (fun hsm => ?_) (fun hsm => ?_)) <;> (try exact zx)) | ((with_reducible refine splitB.mk (fun h => ?_) (fun h => ?_)) <;> (try simp only [zs, ne_eq] at h) <;> (try simp (disch := omega) only [w64] at h) <;> (try exact zx)) | (with_reducible intro hz; (try exact absurd hz (Nat.succ_ne_zero _)))))
        all_goals (refine ⟨?_⟩; simp only [pr_e2, hq]; rfl)
    · obtain rfl : i = n := by omega
      rw [hz]
      (repeat' ((try (conv => whnf)); first | (with_reducible first | refine And.intro ?_ ?_ | refine WX.of ?_) | exact zc | ((with_reducible refine VC.mk ?_); exact zw) | (with_reducible first | refine splitT ?_ | refine splitF ?_) | ((with_reducible refine splitM.mk (fun hsm => ?_) (fun hsm => ?_)) <;> (try exact zx)) | ((with_reducible refine splitB.mk (fun h => ?_) (fun h => ?_)) <;> (try simp only [zs, ne_eq] at h) <;> (try simp (disch := omega) only [w64] at h) <;> (try exact zx)) | (with_reducible intro hz; (try exact absurd hz (Nat.succ_ne_zero _)))))
def s_l01Mean : Spec := fun args S => match args, S with
  | [.sl 0 s n x], [.arr (.prod (.int .i64) (.int .i64)) l 2 wr] => ⟨(s + n ≤ l.length ∧ 1 ≤ n ∧ n ≤ 1000000) ∧ ∀ (j : Nat) (a : FrT), (seg l s n)[j]? = some a → smF a.1 a.2, .tup [.agg [.int .i64 (zv (mnO (seg l s n))).1, .int .i64 (zv (mnO (seg l s n))).2], .int .i64 (oC (mnO (seg l s n)))], [.arr (.prod (.int .i64) (.int .i64)) l 2 wr]⟩
  | _, _ => noSpec
attribute [local irreducible] smO dvO in
theorem ok_l01Mean : SpecOk Tryz.prog 56 s_l01Mean := by
  intro args S h; unfold s_l01Mean at h ⊢; (split at h <;> first | exact False.elim h | skip)
  dsimp only at h ⊢
  rename_i s n x l wr
  obtain ⟨⟨h1, h2⟩, hE⟩ := h
  have hL := seg_len h1
  unfold mnO
  rw [hL]
  cases hq : smO (seg l s n) n with
  | none =>
    have hcn : decide (oC (smO (seg l s n) n) ≠ 0) = true := by rw [hq]; rfl
    refine funW tabOk (E := [(105, s_l01Sum)]) ⟨ok_l01Sum, trivial⟩ [(4, [(0, 1)])] (k := 1) (fn := Tryz.f56) rfl rfl rfl rfl rfl rfl ?_
    (repeat' ((try (conv => whnf)); first | (with_reducible first | refine And.intro ?_ ?_ | refine WX.of ?_) | exact zc | ((with_reducible refine VC.mk ?_); exact zw) | ((with_reducible refine splitT_of ?_ ?_); (focus (simp only [hcn, Bool.not_true, Bool.not_false, decide_true, decide_false]; done))) | ((with_reducible refine splitF_of ?_ ?_); (focus (simp only [hcn, Bool.not_true, Bool.not_false, decide_true, decide_false]; done))) | ((with_reducible refine VC.mk ?_); exact ⟨⟨h1, by omega⟩, hE⟩) | (with_reducible first | refine splitT ?_ | refine splitF ?_) | ((with_reducible refine splitM.mk (fun hsm => ?_) (fun hsm => ?_)) <;> (try exact zx)) | ((with_reducible refine splitB.mk (fun h => ?_) (fun h => ?_)) <;> (try simp only [zs, ne_eq] at h) <;> (try simp (disch := omega) only [w64] at h) <;> (try exact zx)) | (with_reducible intro hz; (try exact absurd hz (Nat.succ_ne_zero _)))))
    all_goals (refine ⟨?_⟩; rw [hq]; rfl)
  | some v =>
    have hv : smF v.1 v.2 := by have := (sm_e (seg l s n) n).2 v hq; rw [← this]; exact smV_sm _ _
    have hcn : decide (oC (smO (seg l s n) n) ≠ 0) = false := by rw [hq]; rfl
    have hzz : zv (smO (seg l s n) n) = v := by rw [hq]; rfl
    refine funW tabOk (E := [(105, s_l01Sum), (107, s_num), (106, s_divZ)]) ⟨ok_l01Sum, ok_l01Whole, ok_l01DivZ, trivial⟩ [(4, [(0, 1)])] (k := 1) (fn := Tryz.f56) rfl rfl rfl rfl rfl rfl ?_
    (repeat' ((try (conv => whnf)); first | (with_reducible first | refine And.intro ?_ ?_ | refine WX.of ?_) | exact zc | ((with_reducible refine VC.mk ?_); exact zw) | ((with_reducible refine splitT_of ?_ ?_); (focus (simp only [hcn, Bool.not_true, Bool.not_false, decide_true, decide_false]; done))) | ((with_reducible refine splitF_of ?_ ?_); (focus (simp only [hcn, Bool.not_true, Bool.not_false, decide_true, decide_false]; done))) | ((with_reducible refine VC.mk ?_); exact ⟨⟨h1, by omega⟩, hE⟩) | ((with_reducible refine VC.mk ?_); exact ⟨by rw [hzz]; exact hv, smF_1 (by omega), by show (n : Int) ≠ 0; omega⟩) | (with_reducible first | refine splitT ?_ | refine splitF ?_) | ((with_reducible refine splitM.mk (fun hsm => ?_) (fun hsm => ?_)) <;> (try exact zx)) | ((with_reducible refine splitB.mk (fun h => ?_) (fun h => ?_)) <;> (try simp only [zs, ne_eq] at h) <;> (try simp (disch := omega) only [w64] at h) <;> (try exact zx)) | (with_reducible intro hz; (try exact absurd hz (Nat.succ_ne_zero _)))))
    all_goals (refine ⟨?_⟩; rw [hzz]; rfl)
end Go.Proofs.YtbmejhabgoimeaaGreat.Eng
set_option linter.unusedVariables false
set_option linter.unusedSimpArgs false
namespace Go.Proofs.YtbmejhabgoimeaaGreat.Eng
open Go Go.RowKit
set_option maxRecDepth 100000
def mlW (L : List RpT) (th : Int) : List FrT := (onT L th).map fun r => r.2.2.2.1
def mlC (W : List FrT) : Int := if W = [] then 6 else oC (mnO W)
def mlV (W : List FrT) : FrT := if W = [] then (0, 0) else zv (mnO W)
def s_meanR : Spec := fun args S => match args, S with
  | [.agg [.int .i64 up, .int .i64 uq, .sl 0 s n x, .int .i64 vp, .bool vb, .int .i64 gp, .int .i64 gq, .sl 1 t m y], .sl 2 q k z, .int .i64 th], [.arr (.prod (.int .i64) (.int .i64)) l 2 wr, .arr (.prod .str (.prod (.prod (.int .i64) (.int .i64)) (.prod (.int .i64) (.int .i64)))) T 5 wT, .arr (.prod (.prod (.int .i64) (.prod (.prod (.int .i64) (.int .i64)) (.prod (.int .i64) (.int .i64)))) (.prod (.prod (.int .i64) (.int .i64)) (.prod (.prod (.int .i64) (.int .i64)) (.prod (.prod (.int .i64) (.int .i64)) (.prod (.prod (.int .i64) (.int .i64)) (.prod (.int .i64) (.int .i64))))))) L 15 wL] => ⟨((s + n ≤ l.length ∧ n ≤ 1048576) ∧ (t + m ≤ T.length ∧ m ≤ 1048576) ∧ ∀ (j : Nat) (a : ThT), T[j]? = some a → a.1.length < 4611686018427387904) ∧ q + k ≤ L.length ∧ k ≤ 1048576, .tup [.agg [.int .i64 (if (rqC (bnB up uq vp gp gq (seg l s n) (seg T t m)) k (outB m th) (ckI (up, uq) (seg l s n) vp vb (gp, gq) (seg T t m) (seg L q k))) = 0 then (mlV (mlW (seg L q k) th)).1 else 0), .int .i64 (if (rqC (bnB up uq vp gp gq (seg l s n) (seg T t m)) k (outB m th) (ckI (up, uq) (seg l s n) vp vb (gp, gq) (seg T t m) (seg L q k))) = 0 then (mlV (mlW (seg L q k) th)).2 else 0)], .int .i64 (if (rqC (bnB up uq vp gp gq (seg l s n) (seg T t m)) k (outB m th) (ckI (up, uq) (seg l s n) vp vb (gp, gq) (seg T t m) (seg L q k))) = 0 then mlC (mlW (seg L q k) th) else (rqC (bnB up uq vp gp gq (seg l s n) (seg T t m)) k (outB m th) (ckI (up, uq) (seg l s n) vp vb (gp, gq) (seg T t m) (seg L q k))))], [.arr (.prod (.int .i64) (.int .i64)) l 2 wr, .arr (.prod .str (.prod (.prod (.int .i64) (.int .i64)) (.prod (.int .i64) (.int .i64)))) T 5 wT, .arr (.prod (.prod (.int .i64) (.prod (.prod (.int .i64) (.int .i64)) (.prod (.int .i64) (.int .i64)))) (.prod (.prod (.int .i64) (.int .i64)) (.prod (.prod (.int .i64) (.int .i64)) (.prod (.prod (.int .i64) (.int .i64)) (.prod (.prod (.int .i64) (.int .i64)) (.prod (.int .i64) (.int .i64))))))) L 15 wL]⟩
  | _, _ => noSpec
theorem ml_step {L : List RpT} {th : Int} {i : Nat} {r : RpT} (ha : L[i]? = some r) : mlW (L.take (i + 1)) th = mlW (L.take i) th ++ (if r.1.1 = th then [r.2.2.2.1] else []) := by
  unfold mlW onT
  rw [kp_step ha, List.map_append]
  by_cases h : r.1.1 = th
  · simp [h]
  · simp [h]
theorem app_all {α : Type} {D : List α} {w : α} : seg D 0 D.length ++ seg [w] 0 1 = D ++ [w] := by simp [seg]
theorem ml_0 {W : List FrT} (h : W = []) : mlC W = 6 ∧ mlV W = (0, 0) := by subst h; exact ⟨rfl, rfl⟩
theorem ml_1 {W : List FrT} (h : W ≠ []) : mlC W = oC (mnO W) ∧ mlV W = zv (mnO W) := ⟨if_neg h, if_neg h⟩
theorem allF_of {W : List FrT} (h : ∀ a ∈ W, fOk a.1 a.2 = true) : allF W = true := by unfold allF; exact List.all_eq_true.2 h
theorem ml_f {up uq vp gp gq : Int} {vb : Bool} {E : List FrT} {T : List ThT} {L : List RpT} {th : Int} (hb : bnB up uq vp gp gq E T = true) (h : ∀ r ∈ L, accB (up, uq) E vp vb (gp, gq) T r = true) : allF (mlW L th) = true := allF_of fun a ha => by
  unfold mlW at ha
  obtain ⟨r, hr, rfl⟩ := List.mem_map.1 ha
  exact (acc_sp hb (h r (on_mem hr))).2.1
attribute [local irreducible] rqC mlW onT ckI mnO in
set_option maxHeartbeats 3200000 in
theorem ok_MeanReportI : SpecOk Tryz.prog 28 s_meanR := by
  intro args S h; unfold s_meanR at h ⊢; (split at h <;> first | exact False.elim h | skip)
  dsimp only at h ⊢
  rename_i up uq s n x vp vb gp gq t m y q k z th l wr T wT L wL
  obtain ⟨hq, hk⟩ := h
  have hLk := seg_len hk.1
  have hany : ∀ a : Int, List.any (seg [a] 0 1) (outB m) = outB m a := fun a => by simp [seg]
  by_cases hrq : (rqC (bnB up uq vp gp gq (seg l s n) (seg T t m)) k (outB m th) (ckI (up, uq) (seg l s n) vp vb (gp, gq) (seg T t m) (seg L q k))) = 0
  · have h0 := rq_0 hrq
    have hacc := ck_all h0.2.2.2
    have hall := ml_f (th := th) h0.1 hacc
    simp only [hrq, if_true]
    have hcn : decide ((rqC (bnB up uq vp gp gq (seg l s n) (seg T t m)) k (List.any (seg [th] 0 1) (outB m)) (ckI (up, uq) (seg l s n) vp vb (gp, gq) (seg T t m) (seg L q k))) ≠ 0) = false := by rw [hany, hrq]; rfl
    have hon : (onT (seg L q k) th).length ≤ k := Nat.le_trans on_le (Nat.le_of_eq hLk)
    have hWl : (mlW (seg L q k) th).length = (onT (seg L q k) th).length := by unfold mlW; simp
    refine funW tabOk (E := [(53, s_rqC), (54, s_on), (57, s_meanOf)]) ⟨ok_reportsCode, ok_reportsOn, ok_MeanOf, trivial⟩ [] (k := 3) (fn := Tryz.f28) rfl rfl rfl rfl rfl rfl ?_
    (repeat' ((try (conv => whnf)); first | (with_reducible first | refine And.intro ?_ ?_ | refine WX.of ?_) | exact zc | ((with_reducible refine VC.mk ?_); exact zw) | ((with_reducible refine splitT_of ?_ ?_); (focus (simp only [hcn, Bool.not_true, Bool.not_false, decide_true, decide_false]; done))) | ((with_reducible refine splitF_of ?_ ?_); (focus (simp only [hcn, Bool.not_true, Bool.not_false, decide_true, decide_false]; done))) | ((with_reducible refine VC.mk ?_); exact ⟨⟨hq, hk⟩, by simp, by omega⟩) | ((with_reducible refine VC.mk ?_); exact hk) | (with_reducible first | refine splitT ?_ | refine splitF ?_) | ((with_reducible refine splitM.mk (fun hsm => ?_) (fun hsm => ?_)) <;> (try exact zx)) | ((with_reducible refine splitB.mk (fun h => ?_) (fun h => ?_)) <;> (try simp only [zs, ne_eq] at h) <;> (try simp (disch := omega) only [w64] at h) <;> (try exact zx)) | (with_reducible intro hz; (try exact absurd hz (Nat.succ_ne_zero _)))))
    refine loopW tabOk (E := [(53, s_rqC), (54, s_on), (57, s_meanOf)]) ⟨ok_reportsCode, ok_reportsOn, ok_MeanOf, trivial⟩ [] (σ := Nat) (fun i => [(6, .ptr 3 0 0), (9, .sl 4 0 i 0), (24, .sl 5 0 (onT (seg L q k) th).length (k - (onT (seg L q k) th).length)), (25, .int .i64 (onT (seg L q k) th).length), (26, .int .i64 i)]) (fun i => [.arr (.prod (.int .i64) (.int .i64)) l 2 wr, .arr (.prod .str (.prod (.prod (.int .i64) (.int .i64)) (.prod (.int .i64) (.int .i64)))) T 5 wT, .arr (.prod (.prod (.int .i64) (.prod (.prod (.int .i64) (.int .i64)) (.prod (.int .i64) (.int .i64)))) (.prod (.prod (.int .i64) (.int .i64)) (.prod (.prod (.int .i64) (.int .i64)) (.prod (.prod (.int .i64) (.int .i64)) (.prod (.prod (.int .i64) (.int .i64)) (.prod (.int .i64) (.int .i64))))))) L 15 wL, .arr (.prod (.int .i64) (.int .i64)) [(0, 0)] 0 true, .arr (.prod (.int .i64) (.int .i64)) ((mlW (seg L q k) th).take i) 2 true, .arr (.prod (.prod (.int .i64) (.prod (.prod (.int .i64) (.int .i64)) (.prod (.int .i64) (.int .i64)))) (.prod (.prod (.int .i64) (.int .i64)) (.prod (.prod (.int .i64) (.int .i64)) (.prod (.prod (.int .i64) (.int .i64)) (.prod (.prod (.int .i64) (.int .i64)) (.prod (.int .i64) (.int .i64))))))) (onT (seg L q k) th ++ List.replicate (k - (onT (seg L q k) th).length) rp0) 15 true]) (fun i => (onT (seg L q k) th).length - i) (fun i => i ≤ (onT (seg L q k) th).length) 0 (Nat.zero_le _) ?_ ?_
    · (repeat' ((try (conv => whnf)); first | (with_reducible first | refine And.intro ?_ ?_ | refine WX.of ?_) | exact zc | ((with_reducible refine VC.mk ?_); exact zw) | (with_reducible first | refine splitT ?_ | refine splitF ?_) | ((with_reducible refine splitM.mk (fun hsm => ?_) (fun hsm => ?_)) <;> (try exact zx)) | ((with_reducible refine splitB.mk (fun h => ?_) (fun h => ?_)) <;> (try simp only [zs, ne_eq] at h) <;> (try simp (disch := omega) only [w64] at h) <;> (try exact zx)) | (with_reducible intro hz; (try exact absurd hz (Nat.succ_ne_zero _)))))
    · intro i hi
      have hlen : ((mlW (seg L q k) th).take i).length = i := by rw [List.length_take]; omega
      by_cases hlt : i < (onT (seg L q k) th).length
      · obtain ⟨r, ha⟩ := get_some (l := onT (seg L q k) th) (i := i) hlt
        have hb := (on_get (R := List.replicate (k - (onT (seg L q k) th).length) rp0) hlt).trans ha
        have hw : (mlW (seg L q k) th)[i]? = some r.2.2.2.1 := by unfold mlW; rw [List.getElem?_map, ha]; rfl
        (repeat' ((try (conv => whnf)); first | (with_reducible first | refine And.intro ?_ ?_ | refine WX.of ?_) | exact zc | ((with_reducible refine VC.mk ?_); exact zw) | refine atL_0 hb ?_ | (with_reducible first | refine splitT ?_ | refine splitF ?_) | ((with_reducible refine splitM.mk (fun hsm => ?_) (fun hsm => ?_)) <;> (try exact zx)) | ((with_reducible refine splitB.mk (fun h => ?_) (fun h => ?_)) <;> (try simp only [zs, ne_eq] at h) <;> (try simp (disch := omega) only [w64] at h) <;> (try exact zx)) | (with_reducible intro hz; (try exact absurd hz (Nat.succ_ne_zero _)))))
        refine ⟨i + 1, by omega, hlt, ?_⟩
        (repeat' ((try (conv => whnf)); first | (with_reducible first | refine And.intro ?_ ?_ | refine WX.of ?_) | exact zc | ((with_reducible refine VC.mk ?_); exact zw) | (with_reducible first | refine splitT ?_ | refine splitF ?_) | ((with_reducible refine splitM.mk (fun hsm => ?_) (fun hsm => ?_)) <;> (try exact zx)) | ((with_reducible refine splitB.mk (fun h => ?_) (fun h => ?_)) <;> (try simp only [zs, ne_eq] at h) <;> (try simp (disch := omega) only [w64] at h) <;> (try exact zx)) | (with_reducible intro hz; (try exact absurd hz (Nat.succ_ne_zero _)))))
        exact ⟨app_take hw⟩
      · obtain rfl : i = (onT (seg L q k) th).length := by omega
        rw [List.take_of_length_le (by omega)]
        have hsg : seg (mlW (seg L q k) th) 0 (onT (seg L q k) th).length = mlW (seg L q k) th := seg_full hWl
        (repeat' ((try (conv => whnf)); first | (with_reducible first | refine And.intro ?_ ?_ | refine WX.of ?_) | exact zc | ((with_reducible refine VC.mk ?_); exact zw) | ((with_reducible refine VC.mk ?_); exact ⟨by omega, by omega⟩) | (with_reducible first | refine splitT ?_ | refine splitF ?_) | ((with_reducible refine splitM.mk (fun hsm => ?_) (fun hsm => ?_)) <;> (try exact zx)) | ((with_reducible refine splitB.mk (fun h => ?_) (fun h => ?_)) <;> (try simp only [zs, ne_eq] at h) <;> (try simp (disch := omega) only [w64] at h) <;> (try exact zx)) | (with_reducible intro hz; (try exact absurd hz (Nat.succ_ne_zero _)))))
        · obtain ⟨e1, e2⟩ := ml_0 (W := mlW (seg L q k) th) (List.eq_nil_of_length_eq_zero (by omega))
          exact ⟨by rw [e1, e2]⟩
        · have hne : mlW (seg L q k) th ≠ [] := fun e => by rw [e] at hWl; exact h (by rw [← hWl]; rfl)
          obtain ⟨e1, e2⟩ := ml_1 hne
          obtain ⟨e3, e4⟩ := mn_2 (L := mlW (seg L q k) th) ⟨hall, by omega, by omega⟩
          exact ⟨by rw [hsg, e1, e2, e3, e4]⟩
  · simp only [hrq, if_false]
    have hcn : decide ((rqC (bnB up uq vp gp gq (seg l s n) (seg T t m)) k (List.any (seg [th] 0 1) (outB m)) (ckI (up, uq) (seg l s n) vp vb (gp, gq) (seg T t m) (seg L q k))) ≠ 0) = true := by rw [hany]; exact decide_eq_true hrq
    refine funW tabOk (E := [(53, s_rqC)]) ⟨ok_reportsCode, trivial⟩ [] (k := 3) (fn := Tryz.f28) rfl rfl rfl rfl rfl rfl ?_
    (repeat' ((try (conv => whnf)); first | (with_reducible first | refine And.intro ?_ ?_ | refine WX.of ?_) | exact zc | ((with_reducible refine VC.mk ?_); exact zw) | ((with_reducible refine splitT_of ?_ ?_); (focus (simp only [hcn, Bool.not_true, Bool.not_false, decide_true, decide_false]; done))) | ((with_reducible refine splitF_of ?_ ?_); (focus (simp only [hcn, Bool.not_true, Bool.not_false, decide_true, decide_false]; done))) | ((with_reducible refine VC.mk ?_); exact ⟨⟨hq, hk⟩, by simp, by omega⟩) | (with_reducible first | refine splitT ?_ | refine splitF ?_) | ((with_reducible refine splitM.mk (fun hsm => ?_) (fun hsm => ?_)) <;> (try exact zx)) | ((with_reducible refine splitB.mk (fun h => ?_) (fun h => ?_)) <;> (try simp only [zs, ne_eq] at h) <;> (try simp (disch := omega) only [w64] at h) <;> (try exact zx)) | (with_reducible intro hz; (try exact absurd hz (Nat.succ_ne_zero _)))))
    all_goals exact ⟨by rw [hany]⟩
attribute [local irreducible] rqC mlW onT ckI mnO in
set_option maxHeartbeats 3200000 in
theorem ok_MeanReportS : SpecOk Tryz.prog 27 s_meanR := by
  intro args S h; unfold s_meanR at h ⊢; (split at h <;> first | exact False.elim h | skip)
  dsimp only at h ⊢
  rename_i up uq s n x vp vb gp gq t m y q k z th l wr T wT L wL
  obtain ⟨hq, hk⟩ := h
  have hLk := seg_len hk.1
  by_cases hrq : (rqC (bnB up uq vp gp gq (seg l s n) (seg T t m)) k (outB m th) (ckI (up, uq) (seg l s n) vp vb (gp, gq) (seg T t m) (seg L q k))) = 0
  · have h0 := rq_0 hrq
    have hacc := ck_all h0.2.2.2
    have hall := ml_f (th := th) h0.1 hacc
    simp only [hrq, if_true]
    have hcn : decide ((rqC (bnB up uq vp gp gq (seg l s n) (seg T t m)) k (or (outB m th) (outB m th)) (ckI (up, uq) (seg l s n) vp vb (gp, gq) (seg T t m) (seg L q k))) ≠ 0) = false := by rw [Bool.or_self, hrq]; rfl
    have hon : (onT (seg L q k) th).length ≤ k := Nat.le_trans on_le (Nat.le_of_eq hLk)
    have hWl : (mlW (seg L q k) th).length = (onT (seg L q k) th).length := by unfold mlW; simp
    refine funW tabOk (E := [(51, s_asked), (56, s_l01Mean)]) ⟨ok_l07Asked, ok_l01Mean, trivial⟩ [] (k := 3) (fn := Tryz.f27) rfl rfl rfl rfl rfl rfl ?_
    (repeat' ((try (conv => whnf)); first | (with_reducible first | refine And.intro ?_ ?_ | refine WX.of ?_) | exact zc | ((with_reducible refine VC.mk ?_); exact zw) | ((with_reducible refine splitT_of ?_ ?_); (focus (simp only [hcn, Bool.not_true, Bool.not_false, decide_true, decide_false]; done))) | ((with_reducible refine splitF_of ?_ ?_); (focus (simp only [hcn, Bool.not_true, Bool.not_false, decide_true, decide_false]; done))) | ((with_reducible refine VC.mk ?_); exact ⟨hq, hk⟩) | (with_reducible first | refine splitT ?_ | refine splitF ?_) | ((with_reducible refine splitM.mk (fun hsm => ?_) (fun hsm => ?_)) <;> (try exact zx)) | ((with_reducible refine splitB.mk (fun h => ?_) (fun h => ?_)) <;> (try simp only [zs, ne_eq] at h) <;> (try simp (disch := omega) only [w64] at h) <;> (try exact zx)) | (with_reducible intro hz; (try exact absurd hz (Nat.succ_ne_zero _)))))
    refine loopW tabOk (E := [(51, s_asked), (56, s_l01Mean)]) ⟨ok_l07Asked, ok_l01Mean, trivial⟩ [] (σ := Nat) (fun i => [(1, .sl 2 q k z), (2, .int .i64 th), (6, .ptr 3 0 0), (9, .sl 4 0 (mlW ((seg L q k).take i) th).length 0), (10, .int .i64 i)]) (fun i => [.arr (.prod (.int .i64) (.int .i64)) l 2 wr, .arr (.prod .str (.prod (.prod (.int .i64) (.int .i64)) (.prod (.int .i64) (.int .i64)))) T 5 wT, .arr (.prod (.prod (.int .i64) (.prod (.prod (.int .i64) (.int .i64)) (.prod (.int .i64) (.int .i64)))) (.prod (.prod (.int .i64) (.int .i64)) (.prod (.prod (.int .i64) (.int .i64)) (.prod (.prod (.int .i64) (.int .i64)) (.prod (.prod (.int .i64) (.int .i64)) (.prod (.int .i64) (.int .i64))))))) L 15 wL, .arr (.prod (.int .i64) (.int .i64)) [(0, 0)] 0 true, .arr (.prod (.int .i64) (.int .i64)) (mlW ((seg L q k).take i) th) 2 true]) (fun i => k - i) (fun i => i ≤ k) 0 (Nat.zero_le _) ?_ ?_
    · (repeat' ((try (conv => whnf)); first | (with_reducible first | refine And.intro ?_ ?_ | refine WX.of ?_) | exact zc | ((with_reducible refine VC.mk ?_); exact zw) | (with_reducible first | refine splitT ?_ | refine splitF ?_) | ((with_reducible refine splitM.mk (fun hsm => ?_) (fun hsm => ?_)) <;> (try exact zx)) | ((with_reducible refine splitB.mk (fun h => ?_) (fun h => ?_)) <;> (try simp only [zs, ne_eq] at h) <;> (try simp (disch := omega) only [w64] at h) <;> (try exact zx)) | (with_reducible intro hz; (try exact absurd hz (Nat.succ_ne_zero _)))))
      · refine VC.mk ?_
        unfold mlW onT; rfl
      · refine VC.mk ?_
        unfold mlW onT; rfl
    · intro i hi
      by_cases hlt : i < k
      · obtain ⟨r, ha⟩ := get_some (l := seg L q k) (i := i) (by omega)
        have hst := ml_step (th := th) ha
        have hll : (mlW ((seg L q k).take i) th).length ≤ i := by
          unfold mlW
          rw [List.length_map]
          exact Nat.le_trans on_le (List.length_take_le i _)
        by_cases hth : r.1.1 = th
        · have hthd : decide (r.1.1 = th) = true := decide_eq_true hth
          rw [if_pos hth] at hst
          (repeat' ((try (conv => whnf)); first | (with_reducible first | refine And.intro ?_ ?_ | refine WX.of ?_) | exact zc | ((with_reducible refine VC.mk ?_); exact zw) | with_reducible refine atL_i ha ?_ | ((with_reducible refine splitT_of ?_ ?_); (focus (simp only [hthd, Bool.not_true, Bool.not_false, decide_true, decide_false]; done))) | ((with_reducible refine splitF_of ?_ ?_); (focus (simp only [hthd, Bool.not_true, Bool.not_false, decide_true, decide_false]; done))) | (with_reducible first | refine splitT ?_ | refine splitF ?_) | ((with_reducible refine splitM.mk (fun hsm => ?_) (fun hsm => ?_)) <;> (try exact zx)) | ((with_reducible refine splitB.mk (fun h => ?_) (fun h => ?_)) <;> (try simp only [zs, ne_eq] at h) <;> (try simp (disch := omega) only [w64] at h) <;> (try exact zx)) | (with_reducible intro hz; (try exact absurd hz (Nat.succ_ne_zero _)))))
          refine ⟨i + 1, by omega, hlt, ?_⟩
          rw [hst, List.length_append, List.length_singleton]
          (repeat' ((try (conv => whnf)); first | (with_reducible first | refine And.intro ?_ ?_ | refine WX.of ?_) | exact zc | ((with_reducible refine VC.mk ?_); exact zw) | (with_reducible first | refine splitT ?_ | refine splitF ?_) | ((with_reducible refine splitM.mk (fun hsm => ?_) (fun hsm => ?_)) <;> (try exact zx)) | ((with_reducible refine splitB.mk (fun h => ?_) (fun h => ?_)) <;> (try simp only [zs, ne_eq] at h) <;> (try simp (disch := omega) only [w64] at h) <;> (try exact zx)) | (with_reducible intro hz; (try exact absurd hz (Nat.succ_ne_zero _)))))
          exact ⟨app_all⟩
        · have hthd : decide (r.1.1 = th) = false := decide_eq_false hth
          rw [if_neg hth, List.append_nil] at hst
          (repeat' ((try (conv => whnf)); first | (with_reducible first | refine And.intro ?_ ?_ | refine WX.of ?_) | exact zc | ((with_reducible refine VC.mk ?_); exact zw) | with_reducible refine atL_i ha ?_ | ((with_reducible refine splitT_of ?_ ?_); (focus (simp only [hthd, Bool.not_true, Bool.not_false, decide_true, decide_false]; done))) | ((with_reducible refine splitF_of ?_ ?_); (focus (simp only [hthd, Bool.not_true, Bool.not_false, decide_true, decide_false]; done))) | (with_reducible first | refine splitT ?_ | refine splitF ?_) | ((with_reducible refine splitM.mk (fun hsm => ?_) (fun hsm => ?_)) <;> (try exact zx)) | ((with_reducible refine splitB.mk (fun h => ?_) (fun h => ?_)) <;> (try simp only [zs, ne_eq] at h) <;> (try simp (disch := omega) only [w64] at h) <;> (try exact zx)) | (with_reducible intro hz; (try exact absurd hz (Nat.succ_ne_zero _)))))
          refine ⟨i + 1, by omega, hlt, ?_⟩
          rw [hst]
          (repeat' ((try (conv => whnf)); first | (with_reducible first | refine And.intro ?_ ?_ | refine WX.of ?_) | exact zc | ((with_reducible refine VC.mk ?_); exact zw) | (with_reducible first | refine splitT ?_ | refine splitF ?_) | ((with_reducible refine splitM.mk (fun hsm => ?_) (fun hsm => ?_)) <;> (try exact zx)) | ((with_reducible refine splitB.mk (fun h => ?_) (fun h => ?_)) <;> (try simp only [zs, ne_eq] at h) <;> (try simp (disch := omega) only [w64] at h) <;> (try exact zx)) | (with_reducible intro hz; (try exact absurd hz (Nat.succ_ne_zero _)))))
      · obtain rfl : i = k := by omega
        rw [List.take_of_length_le (by omega)]
        have hsg : seg (mlW (seg L q i) th) 0 (mlW (seg L q i) th).length = mlW (seg L q i) th := seg_full rfl
        (repeat' ((try (conv => whnf)); first | (with_reducible first | refine And.intro ?_ ?_ | refine WX.of ?_) | exact zc | ((with_reducible refine VC.mk ?_); exact zw) | ((with_reducible refine VC.mk ?_); exact ⟨⟨by omega, by omega, by omega⟩, by rw [hsg]; exact allF_sm hall⟩) | (with_reducible first | refine splitT ?_ | refine splitF ?_) | ((with_reducible refine splitM.mk (fun hsm => ?_) (fun hsm => ?_)) <;> (try exact zx)) | ((with_reducible refine splitB.mk (fun h => ?_) (fun h => ?_)) <;> (try simp only [zs, ne_eq] at h) <;> (try simp (disch := omega) only [w64] at h) <;> (try exact zx)) | (with_reducible intro hz; (try exact absurd hz (Nat.succ_ne_zero _)))))
        · obtain ⟨e1, e2⟩ := ml_0 (W := mlW (seg L q i) th) (List.eq_nil_of_length_eq_zero (by omega))
          exact ⟨by rw [e1, e2]⟩
        · have hne : mlW (seg L q i) th ≠ [] := fun e => h (by rw [e]; rfl)
          obtain ⟨e1, e2⟩ := ml_1 hne
          exact ⟨by rw [hsg, e1, e2]⟩
  · simp only [hrq, if_false]
    have hcn : decide ((rqC (bnB up uq vp gp gq (seg l s n) (seg T t m)) k (or (outB m th) (outB m th)) (ckI (up, uq) (seg l s n) vp vb (gp, gq) (seg T t m) (seg L q k))) ≠ 0) = true := by rw [Bool.or_self]; exact decide_eq_true hrq
    refine funW tabOk (E := [(51, s_asked)]) ⟨ok_l07Asked, trivial⟩ [] (k := 3) (fn := Tryz.f27) rfl rfl rfl rfl rfl rfl ?_
    (repeat' ((try (conv => whnf)); first | (with_reducible first | refine And.intro ?_ ?_ | refine WX.of ?_) | exact zc | ((with_reducible refine VC.mk ?_); exact zw) | ((with_reducible refine splitT_of ?_ ?_); (focus (simp only [hcn, Bool.not_true, Bool.not_false, decide_true, decide_false]; done))) | ((with_reducible refine splitF_of ?_ ?_); (focus (simp only [hcn, Bool.not_true, Bool.not_false, decide_true, decide_false]; done))) | ((with_reducible refine VC.mk ?_); exact ⟨hq, hk⟩) | (with_reducible first | refine splitT ?_ | refine splitF ?_) | ((with_reducible refine splitM.mk (fun hsm => ?_) (fun hsm => ?_)) <;> (try exact zx)) | ((with_reducible refine splitB.mk (fun h => ?_) (fun h => ?_)) <;> (try simp only [zs, ne_eq] at h) <;> (try simp (disch := omega) only [w64] at h) <;> (try exact zx)) | (with_reducible intro hz; (try exact absurd hz (Nat.succ_ne_zero _)))))
    all_goals exact ⟨by rw [Bool.or_self]⟩
set_option maxHeartbeats 1600000 in
theorem ok_MeetReportsS : SpecOk Tryz.prog 24 s_meetI := by
  intro args S h; unfold s_meetI at h ⊢; (split at h <;> first | exact False.elim h | skip)
  dsimp only at h ⊢
  rename_i up uq s n x vp vb gp gq t m y q k z th l wr T wT L wL
  obtain ⟨hq, hk⟩ := h
  by_cases hrq : (rqC (bnB up uq vp gp gq (seg l s n) (seg T t m)) k (outB m th) (ckI (up, uq) (seg l s n) vp vb (gp, gq) (seg T t m) (seg L q k))) = 0
  · have h0 := rq_0 hrq
    have hacc := ck_all h0.2.2.2
    simp only [hrq, if_true]
    have hcn : decide ((rqC (bnB up uq vp gp gq (seg l s n) (seg T t m)) k (or (outB m th) (outB m th)) (ckI (up, uq) (seg l s n) vp vb (gp, gq) (seg T t m) (seg L q k))) ≠ 0) = false := by rw [Bool.or_self, hrq]; rfl
    refine funW tabOk (E := [(51, s_asked), (52, s_l07Meet)]) ⟨ok_l07Asked, ok_l07Meet, trivial⟩ [] (k := 3) (fn := Tryz.f24) rfl rfl rfl rfl rfl rfl ?_
    (repeat' ((try (conv => whnf)); first | (with_reducible first | refine And.intro ?_ ?_ | refine WX.of ?_) | exact zc | ((with_reducible refine VC.mk ?_); exact zw) | ((with_reducible refine splitT_of ?_ ?_); (focus (simp only [hcn, Bool.not_true, Bool.not_false, decide_true, decide_false]; done))) | ((with_reducible refine splitF_of ?_ ?_); (focus (simp only [hcn, Bool.not_true, Bool.not_false, decide_true, decide_false]; done))) | ((with_reducible refine VC.mk ?_); exact ⟨hq, hk⟩) | ((with_reducible refine VC.mk ?_); exact ⟨hk, fun r hr => (acc_sp h0.1 (hacc r hr)).1⟩) | (with_reducible first | refine splitT ?_ | refine splitF ?_) | ((with_reducible refine splitM.mk (fun hsm => ?_) (fun hsm => ?_)) <;> (try exact zx)) | ((with_reducible refine splitB.mk (fun h => ?_) (fun h => ?_)) <;> (try simp only [zs, ne_eq] at h) <;> (try simp (disch := omega) only [w64] at h) <;> (try exact zx)) | (with_reducible intro hz; (try exact absurd hz (Nat.succ_ne_zero _)))))
  · simp only [hrq, if_false]
    have hcn : decide ((rqC (bnB up uq vp gp gq (seg l s n) (seg T t m)) k (or (outB m th) (outB m th)) (ckI (up, uq) (seg l s n) vp vb (gp, gq) (seg T t m) (seg L q k))) ≠ 0) = true := by rw [Bool.or_self]; exact decide_eq_true hrq
    refine funW tabOk (E := [(51, s_asked)]) ⟨ok_l07Asked, trivial⟩ [] (k := 3) (fn := Tryz.f24) rfl rfl rfl rfl rfl rfl ?_
    (repeat' ((try (conv => whnf)); first | (with_reducible first | refine And.intro ?_ ?_ | refine WX.of ?_) | exact zc | ((with_reducible refine VC.mk ?_); exact zw) | ((with_reducible refine splitT_of ?_ ?_); (focus (simp only [hcn, Bool.not_true, Bool.not_false, decide_true, decide_false]; done))) | ((with_reducible refine splitF_of ?_ ?_); (focus (simp only [hcn, Bool.not_true, Bool.not_false, decide_true, decide_false]; done))) | ((with_reducible refine VC.mk ?_); exact ⟨hq, hk⟩) | (with_reducible first | refine splitT ?_ | refine splitF ?_) | ((with_reducible refine splitM.mk (fun hsm => ?_) (fun hsm => ?_)) <;> (try exact zx)) | ((with_reducible refine splitB.mk (fun h => ?_) (fun h => ?_)) <;> (try simp only [zs, ne_eq] at h) <;> (try simp (disch := omega) only [w64] at h) <;> (try exact zx)) | (with_reducible intro hz; (try exact absurd hz (Nat.succ_ne_zero _)))))
    all_goals exact ⟨by rw [Bool.or_self]⟩
/-- One is longer. -/
def lgC (W V : List SpT) : Int := if mrC W = 0 then mrC V else mrC W
def lgB (W V : List SpT) : Bool := decide (lgC W V = 0) && decide (0 < cmpF (mrV W).1.1 (mrV W).1.2 (mrV V).2.1 (mrV V).2.2)
def s_longer : Spec := fun args S => match args, S with
  | [.agg [.int .i64 up, .int .i64 uq, .sl 0 s n x, .int .i64 vp, .bool vb, .int .i64 gp, .int .i64 gq, .sl 1 t m y], .sl 2 q k z, .int .i64 th, .int .i64 ot], [.arr (.prod (.int .i64) (.int .i64)) l 2 wr, .arr (.prod .str (.prod (.prod (.int .i64) (.int .i64)) (.prod (.int .i64) (.int .i64)))) T 5 wT, .arr (.prod (.prod (.int .i64) (.prod (.prod (.int .i64) (.int .i64)) (.prod (.int .i64) (.int .i64)))) (.prod (.prod (.int .i64) (.int .i64)) (.prod (.prod (.int .i64) (.int .i64)) (.prod (.prod (.int .i64) (.int .i64)) (.prod (.prod (.int .i64) (.int .i64)) (.prod (.int .i64) (.int .i64))))))) L 15 wL] => ⟨((s + n ≤ l.length ∧ n ≤ 1048576) ∧ (t + m ≤ T.length ∧ m ≤ 1048576) ∧ ∀ (j : Nat) (a : ThT), T[j]? = some a → a.1.length < 4611686018427387904) ∧ q + k ≤ L.length ∧ k ≤ 1048576, .tup [.bool (decide ((rqC (bnB up uq vp gp gq (seg l s n) (seg T t m)) k (or (outB m th) (outB m ot)) (ckI (up, uq) (seg l s n) vp vb (gp, gq) (seg T t m) (seg L q k))) = 0) && lgB (mrW (seg L q k) th) (mrW (seg L q k) ot)), .int .i64 (if (rqC (bnB up uq vp gp gq (seg l s n) (seg T t m)) k (or (outB m th) (outB m ot)) (ckI (up, uq) (seg l s n) vp vb (gp, gq) (seg T t m) (seg L q k))) = 0 then lgC (mrW (seg L q k) th) (mrW (seg L q k) ot) else (rqC (bnB up uq vp gp gq (seg l s n) (seg T t m)) k (or (outB m th) (outB m ot)) (ckI (up, uq) (seg l s n) vp vb (gp, gq) (seg T t m) (seg L q k))))], [.arr (.prod (.int .i64) (.int .i64)) l 2 wr, .arr (.prod .str (.prod (.prod (.int .i64) (.int .i64)) (.prod (.int .i64) (.int .i64)))) T 5 wT, .arr (.prod (.prod (.int .i64) (.prod (.prod (.int .i64) (.int .i64)) (.prod (.int .i64) (.int .i64)))) (.prod (.prod (.int .i64) (.int .i64)) (.prod (.prod (.int .i64) (.int .i64)) (.prod (.prod (.int .i64) (.int .i64)) (.prod (.prod (.int .i64) (.int .i64)) (.prod (.int .i64) (.int .i64))))))) L 15 wL]⟩
  | _, _ => noSpec
def s_meetP : Spec := fun args S => match args, S with
  | [.agg [.int .i64 up, .int .i64 uq, .sl 0 s n x, .int .i64 vp, .bool vb, .int .i64 gp, .int .i64 gq, .sl 1 t m y], .sl 2 q k z, .int .i64 th], [.arr (.prod (.int .i64) (.int .i64)) l 2 wr, .arr (.prod .str (.prod (.prod (.int .i64) (.int .i64)) (.prod (.int .i64) (.int .i64)))) T 5 wT, .arr (.prod (.prod (.int .i64) (.prod (.prod (.int .i64) (.int .i64)) (.prod (.int .i64) (.int .i64)))) (.prod (.prod (.int .i64) (.int .i64)) (.prod (.prod (.int .i64) (.int .i64)) (.prod (.prod (.int .i64) (.int .i64)) (.prod (.prod (.int .i64) (.int .i64)) (.prod (.int .i64) (.int .i64))))))) L 15 wL] => ⟨(((s + n ≤ l.length ∧ n ≤ 1048576) ∧ (t + m ≤ T.length ∧ m ≤ 1048576) ∧ ∀ (j : Nat) (a : ThT), T[j]? = some a → a.1.length < 4611686018427387904) ∧ q + k ≤ L.length ∧ k ≤ 1048576) ∧ (rqC (bnB up uq vp gp gq (seg l s n) (seg T t m)) k (outB m th) (ckI (up, uq) (seg l s n) vp vb (gp, gq) (seg T t m) (seg L q k))) = 0, .tup [.agg [.int .i64 (mrV (mrW (seg L q k) th)).1.1, .int .i64 (mrV (mrW (seg L q k) th)).1.2, .int .i64 (mrV (mrW (seg L q k) th)).2.1, .int .i64 (mrV (mrW (seg L q k) th)).2.2], .int .i64 (mrN (mrW (seg L q k) th)), .int .i64 (mrC (mrW (seg L q k) th))], [.arr (.prod (.int .i64) (.int .i64)) l 2 wr, .arr (.prod .str (.prod (.prod (.int .i64) (.int .i64)) (.prod (.int .i64) (.int .i64)))) T 5 wT, .arr (.prod (.prod (.int .i64) (.prod (.prod (.int .i64) (.int .i64)) (.prod (.int .i64) (.int .i64)))) (.prod (.prod (.int .i64) (.int .i64)) (.prod (.prod (.int .i64) (.int .i64)) (.prod (.prod (.int .i64) (.int .i64)) (.prod (.prod (.int .i64) (.int .i64)) (.prod (.int .i64) (.int .i64))))))) L 15 wL]⟩
  | _, _ => noSpec
theorem ok_meetP : SpecOk Tryz.prog 25 s_meetP := by
  intro args S h; unfold s_meetP at h ⊢; (split at h <;> first | exact False.elim h | skip)
  dsimp only at h ⊢
  rename_i up uq s n x vp vb gp gq t m y q k z th l wr T wT L wL
  have h2 := ok_MeetReportsI [.agg [.int .i64 up, .int .i64 uq, .sl 0 s n x, .int .i64 vp, .bool vb, .int .i64 gp, .int .i64 gq, .sl 1 t m y], .sl 2 q k z, .int .i64 th] [.arr (.prod (.int .i64) (.int .i64)) l 2 wr, .arr (.prod .str (.prod (.prod (.int .i64) (.int .i64)) (.prod (.int .i64) (.int .i64)))) T 5 wT, .arr (.prod (.prod (.int .i64) (.prod (.prod (.int .i64) (.int .i64)) (.prod (.int .i64) (.int .i64)))) (.prod (.prod (.int .i64) (.int .i64)) (.prod (.prod (.int .i64) (.int .i64)) (.prod (.prod (.int .i64) (.int .i64)) (.prod (.prod (.int .i64) (.int .i64)) (.prod (.int .i64) (.int .i64))))))) L 15 wL] h.1
  simp only [s_meetI, h.2, if_true] at h2
  exact h2
theorem rq_or {bn a b : Bool} {k : Nat} {f : Int} (h : rqC bn k (or a b) f = 0) : rqC bn k a f = 0 ∧ rqC bn k b f = 0 := by
  have h0 := rq_0 h
  have ha : a = false := by cases a <;> simp_all
  have hb : b = false := by cases b <;> simp_all
  rw [ha, hb] at h
  rw [ha, hb]
  exact ⟨h, h⟩
theorem mr_sm {W : List SpT} (hW : ∀ a ∈ W, spB a = true) (h : mrC W = 0) : smF (mrV W).1.1 (mrV W).1.2 ∧ smF (mrV W).2.1 (mrV W).2.2 := by
  cases hm : mtN W W.length with
  | none =>
    unfold mrC at h
    rw [hm] at h
    split at h <;> simp at h
  | some v =>
    have hs := spB_f (mtN_ok hW hm)
    unfold mrV
    rw [if_pos h, hm]
    exact ⟨smF_ok hs.1, smF_ok hs.2.1⟩
theorem mr_all {up uq vp gp gq : Int} {vb : Bool} {E : List FrT} {T : List ThT} {L : List RpT} {th : Int} (hb : bnB up uq vp gp gq E T = true) (h : ∀ r ∈ L, accB (up, uq) E vp vb (gp, gq) T r = true) : ∀ a ∈ mrW L th, spB a = true := fun a ha => by
  unfold mrW at ha
  obtain ⟨r, hr, rfl⟩ := List.mem_map.1 ha
  exact (acc_sp hb (h r (on_mem hr))).1
attribute [local irreducible] rqC mrW mrC mrV mrN ckI in
set_option maxHeartbeats 3200000 in
theorem ok_IsLongerI : SpecOk Tryz.prog 31 s_longer := by
  intro args S h; unfold s_longer at h ⊢; (split at h <;> first | exact False.elim h | skip)
  dsimp only at h ⊢
  rename_i up uq s n x vp vb gp gq t m y q k z th ot l wr T wT L wL
  obtain ⟨hq, hk⟩ := h
  have hany : List.any (seg [th, ot] 0 2) (outB m) = or (outB m th) (outB m ot) := by simp [seg]
  by_cases hrq : (rqC (bnB up uq vp gp gq (seg l s n) (seg T t m)) k (or (outB m th) (outB m ot)) (ckI (up, uq) (seg l s n) vp vb (gp, gq) (seg T t m) (seg L q k))) = 0
  · have h0 := rq_0 hrq
    have h2 := rq_or hrq
    have hacc := ck_all h0.2.2.2
    have hsm := fun th => mr_sm (mr_all (th := th) h0.1 hacc)
    simp only [hrq, if_true, decide_true, Bool.true_and]
    have hcn : decide ((rqC (bnB up uq vp gp gq (seg l s n) (seg T t m)) k (List.any (seg [th, ot] 0 2) (outB m)) (ckI (up, uq) (seg l s n) vp vb (gp, gq) (seg T t m) (seg L q k))) ≠ 0) = false := by rw [hany, hrq]; rfl
    refine funW tabOk (E := [(53, s_rqC), (25, s_meetP), (59, s_cmp)]) ⟨ok_reportsCode, ok_meetP, ok_compare, trivial⟩ [] (k := 3) (fn := Tryz.f31) rfl rfl rfl rfl rfl rfl ?_
    (repeat' ((try (conv => whnf)); first | (with_reducible first | refine And.intro ?_ ?_ | refine WX.of ?_) | exact zc | ((with_reducible refine VC.mk ?_); exact zw) | ((with_reducible refine splitT_of ?_ ?_); (focus (simp only [hcn, Bool.not_true, Bool.not_false, decide_true, decide_false]; done))) | ((with_reducible refine splitF_of ?_ ?_); (focus (simp only [hcn, Bool.not_true, Bool.not_false, decide_true, decide_false]; done))) | ((with_reducible refine VC.mk ?_); exact ⟨⟨hq, hk⟩, by simp, by omega⟩) | ((with_reducible refine VC.mk ?_); exact ⟨⟨hq, hk⟩, h2.1⟩) | ((with_reducible refine VC.mk ?_); exact ⟨⟨hq, hk⟩, h2.2⟩) | ((with_reducible refine VC.mk ?_); exact ⟨(hsm _ (by assumption)).1, (hsm _ (by assumption)).2⟩) | (with_reducible first | refine splitT ?_ | refine splitF ?_) | ((with_reducible refine splitM.mk (fun hsm => ?_) (fun hsm => ?_)) <;> (try exact zx)) | ((with_reducible refine splitB.mk (fun h => ?_) (fun h => ?_)) <;> (try simp only [zs, ne_eq] at h) <;> (try simp (disch := omega) only [w64] at h) <;> (try exact zx)) | (with_reducible intro hz; (try exact absurd hz (Nat.succ_ne_zero _)))))
    · exact ⟨by unfold lgB lgC; rw [if_neg h, decide_eq_false h]; rfl⟩
    · rename_i h1
      exact ⟨by unfold lgB lgC; rw [if_pos h1, decide_eq_false h]; rfl⟩
    · rename_i h1
      exact ⟨by unfold lgB lgC; rw [if_pos h1, decide_eq_true h, h]; rfl⟩
  · simp only [hrq, if_false, decide_false, Bool.false_and]
    have hcn : decide ((rqC (bnB up uq vp gp gq (seg l s n) (seg T t m)) k (List.any (seg [th, ot] 0 2) (outB m)) (ckI (up, uq) (seg l s n) vp vb (gp, gq) (seg T t m) (seg L q k))) ≠ 0) = true := by rw [hany]; exact decide_eq_true hrq
    refine funW tabOk (E := [(53, s_rqC)]) ⟨ok_reportsCode, trivial⟩ [] (k := 3) (fn := Tryz.f31) rfl rfl rfl rfl rfl rfl ?_
    (repeat' ((try (conv => whnf)); first | (with_reducible first | refine And.intro ?_ ?_ | refine WX.of ?_) | exact zc | ((with_reducible refine VC.mk ?_); exact zw) | ((with_reducible refine splitT_of ?_ ?_); (focus (simp only [hcn, Bool.not_true, Bool.not_false, decide_true, decide_false]; done))) | ((with_reducible refine splitF_of ?_ ?_); (focus (simp only [hcn, Bool.not_true, Bool.not_false, decide_true, decide_false]; done))) | ((with_reducible refine VC.mk ?_); exact ⟨⟨hq, hk⟩, by simp, by omega⟩) | (with_reducible first | refine splitT ?_ | refine splitF ?_) | ((with_reducible refine splitM.mk (fun hsm => ?_) (fun hsm => ?_)) <;> (try exact zx)) | ((with_reducible refine splitB.mk (fun h => ?_) (fun h => ?_)) <;> (try simp only [zs, ne_eq] at h) <;> (try simp (disch := omega) only [w64] at h) <;> (try exact zx)) | (with_reducible intro hz; (try exact absurd hz (Nat.succ_ne_zero _)))))
    all_goals exact ⟨by rw [hany]⟩
attribute [local irreducible] rqC mrW mrC mrV mrN ckI in
set_option maxHeartbeats 3200000 in
theorem ok_IsLongerS : SpecOk Tryz.prog 30 s_longer := by
  intro args S h; unfold s_longer at h ⊢; (split at h <;> first | exact False.elim h | skip)
  dsimp only at h ⊢
  rename_i up uq s n x vp vb gp gq t m y q k z th ot l wr T wT L wL
  obtain ⟨hq, hk⟩ := h
  by_cases hrq : (rqC (bnB up uq vp gp gq (seg l s n) (seg T t m)) k (or (outB m th) (outB m ot)) (ckI (up, uq) (seg l s n) vp vb (gp, gq) (seg T t m) (seg L q k))) = 0
  · have h0 := rq_0 hrq
    have hacc := ck_all h0.2.2.2
    have hsm := fun th => mr_sm (mr_all (th := th) h0.1 hacc)
    have hsp : ∀ r ∈ seg L q k, spB (spR r) = true := fun r hr => (acc_sp h0.1 (hacc r hr)).1
    simp only [hrq, if_true, decide_true, Bool.true_and]
    have hcn : decide ((rqC (bnB up uq vp gp gq (seg l s n) (seg T t m)) k (or (outB m th) (outB m ot)) (ckI (up, uq) (seg l s n) vp vb (gp, gq) (seg T t m) (seg L q k))) ≠ 0) = false := by rw [hrq]; rfl
    refine funW tabOk (E := [(51, s_asked), (52, s_l07Meet), (58, s_cmp)]) ⟨ok_l07Asked, ok_l07Meet, ok_l01Cmp, trivial⟩ [] (k := 3) (fn := Tryz.f30) rfl rfl rfl rfl rfl rfl ?_
    (repeat' ((try (conv => whnf)); first | (with_reducible first | refine And.intro ?_ ?_ | refine WX.of ?_) | exact zc | ((with_reducible refine VC.mk ?_); exact zw) | ((with_reducible refine splitT_of ?_ ?_); (focus (simp only [hcn, Bool.not_true, Bool.not_false, decide_true, decide_false]; done))) | ((with_reducible refine splitF_of ?_ ?_); (focus (simp only [hcn, Bool.not_true, Bool.not_false, decide_true, decide_false]; done))) | ((with_reducible refine VC.mk ?_); exact ⟨hq, hk⟩) | ((with_reducible refine VC.mk ?_); exact ⟨hk, hsp⟩) | ((with_reducible refine VC.mk ?_); exact ⟨(hsm _ (by assumption)).1, (hsm _ (by assumption)).2⟩) | (with_reducible first | refine splitT ?_ | refine splitF ?_) | ((with_reducible refine splitM.mk (fun hsm => ?_) (fun hsm => ?_)) <;> (try exact zx)) | ((with_reducible refine splitB.mk (fun h => ?_) (fun h => ?_)) <;> (try simp only [zs, ne_eq] at h) <;> (try simp (disch := omega) only [w64] at h) <;> (try exact zx)) | (with_reducible intro hz; (try exact absurd hz (Nat.succ_ne_zero _)))))
    · exact ⟨by unfold lgB lgC; rw [if_neg h, decide_eq_false h]; rfl⟩
    · rename_i h1
      exact ⟨by unfold lgB lgC; rw [if_pos h1, decide_eq_false h]; rfl⟩
    · rename_i h1
      exact ⟨by unfold lgB lgC; rw [if_pos h1, decide_eq_true h, h]; rfl⟩
  · simp only [hrq, if_false, decide_false, Bool.false_and]
    have hcn : decide ((rqC (bnB up uq vp gp gq (seg l s n) (seg T t m)) k (or (outB m th) (outB m ot)) (ckI (up, uq) (seg l s n) vp vb (gp, gq) (seg T t m) (seg L q k))) ≠ 0) = true := decide_eq_true hrq
    refine funW tabOk (E := [(51, s_asked)]) ⟨ok_l07Asked, trivial⟩ [] (k := 3) (fn := Tryz.f30) rfl rfl rfl rfl rfl rfl ?_
    (repeat' ((try (conv => whnf)); first | (with_reducible first | refine And.intro ?_ ?_ | refine WX.of ?_) | exact zc | ((with_reducible refine VC.mk ?_); exact zw) | ((with_reducible refine splitT_of ?_ ?_); (focus (simp only [hcn, Bool.not_true, Bool.not_false, decide_true, decide_false]; done))) | ((with_reducible refine splitF_of ?_ ?_); (focus (simp only [hcn, Bool.not_true, Bool.not_false, decide_true, decide_false]; done))) | ((with_reducible refine VC.mk ?_); exact ⟨hq, hk⟩) | (with_reducible first | refine splitT ?_ | refine splitF ?_) | ((with_reducible refine splitM.mk (fun hsm => ?_) (fun hsm => ?_)) <;> (try exact zx)) | ((with_reducible refine splitB.mk (fun h => ?_) (fun h => ?_)) <;> (try simp only [zs, ne_eq] at h) <;> (try simp (disch := omega) only [w64] at h) <;> (try exact zx)) | (with_reducible intro hz; (try exact absurd hz (Nat.succ_ne_zero _)))))
end Go.Proofs.YtbmejhabgoimeaaGreat.Eng
set_option linter.unusedVariables false
set_option linter.unusedSimpArgs false
namespace Go.Proofs.YtbmejhabgoimeaaGreat.Eng
open Go Go.RowKit
set_option maxRecDepth 100000
/-- A contract whose answer is known, and that leaves the rows alone. -/
def pin (s : Spec) (v : SV) : Spec := fun args S => ⟨(s args S).pre ∧ (s args S).v = v ∧ (s args S).S = S, v, S⟩
theorem ok_pin {P : Program} {f : FuncId} {s : Spec} (h : SpecOk P f s) (v : SV) : SpecOk P f (pin s v) := fun args S hp => by
  have h2 := h args S hp.1
  rw [hp.2.1, hp.2.2] at h2
  exact h2
def s_toReport : Spec := fun args S => match args, S with
  | [.agg [.int .i64 i, .int .i64 wp, .int .i64 wq, .int .i64 sp, .int .i64 sq, .int .i64 fp, .int .i64 fq, .int .i64 kp, .int .i64 kq, .int .i64 lp, .int .i64 lq, .int .i64 ap, .int .i64 aq, .int .i64 zp, .int .i64 zq]], [] => ⟨True, .agg [.int .i64 i, .int .i64 wp, .int .i64 wq, .int .i64 sp, .int .i64 sq, .int .i64 fp, .int .i64 fq, .int .i64 kp, .int .i64 kq, .int .i64 lp, .int .i64 lq, .int .i64 ap, .int .i64 aq, .int .i64 zp, .int .i64 zq], []⟩
  | _, _ => noSpec
def s_toSpan : Spec := fun args S => match args, S with
  | [.agg [.int .i64 p, .int .i64 q, .int .i64 r, .int .i64 s]], [] => ⟨True, .agg [.int .i64 p, .int .i64 q, .int .i64 r, .int .i64 s], []⟩
  | _, _ => noSpec
theorem ok_toSpan : SpecOk Tryz.prog 49 s_toSpan := by
  intro args S h; unfold s_toSpan at h ⊢; (split at h <;> first | exact False.elim h | skip)
  dsimp only at h ⊢
  refine funW tabOk (E := [(38, s_toFrac)]) ⟨ok_toFrac, trivial⟩ [] (k := 0) (fn := Tryz.f49) rfl rfl rfl rfl rfl rfl ?_
  (repeat' ((try (conv => whnf)); first | (with_reducible first | refine And.intro ?_ ?_ | refine WX.of ?_) | exact zc | ((with_reducible refine VC.mk ?_); exact zw) | (with_reducible first | refine splitT ?_ | refine splitF ?_) | ((with_reducible refine splitM.mk (fun hsm => ?_) (fun hsm => ?_)) <;> (try exact zx)) | ((with_reducible refine splitB.mk (fun h => ?_) (fun h => ?_)) <;> (try simp only [zs, ne_eq] at h) <;> (try simp (disch := omega) only [w64] at h) <;> (try exact zx)) | (with_reducible intro hz; (try exact absurd hz (Nat.succ_ne_zero _)))))
set_option maxHeartbeats 3200000 in
theorem ok_toReport : SpecOk Tryz.prog 17 s_toReport := by
  intro args S h; unfold s_toReport at h ⊢; (split at h <;> first | exact False.elim h | skip)
  dsimp only at h ⊢
  refine funW tabOk (E := [(12, s_toShot), (38, s_toFrac), (49, s_toSpan)]) ⟨ok_toShot, ok_toFrac, ok_toSpan, trivial⟩ [] (k := 0) (fn := Tryz.f17) rfl rfl rfl rfl rfl rfl ?_
  (repeat' ((try dsimp only); (try (conv => whnf)); first | (with_reducible first | refine And.intro ?_ ?_ | refine WX.of ?_) | exact zc | ((with_reducible refine VC.mk ?_); exact zw) | (with_reducible first | refine splitT ?_ | refine splitF ?_) | ((with_reducible refine splitM.mk (fun hsm => ?_) (fun hsm => ?_)) <;> (try exact zx)) | ((with_reducible refine splitB.mk (fun h => ?_) (fun h => ?_)) <;> (try simp only [zs, ne_eq] at h) <;> (try simp (disch := omega) only [w64] at h) <;> (try exact zx)) | (with_reducible intro hz; (try exact absurd hz (Nat.succ_ne_zero _)))))
def s_eqShot : Spec := fun args S => match args, S with
  | [.agg [.int .i64 i, .int .i64 wp, .int .i64 wq, .int .i64 sp, .int .i64 sq], .agg [.int .i64 i', .int .i64 wp', .int .i64 wq', .int .i64 sp', .int .i64 sq']], [] => ⟨True, .bool (decide (i = i' ∧ wp = wp' ∧ wq = wq' ∧ sp = sp' ∧ sq = sq')), []⟩
  | _, _ => noSpec
theorem ok_eqShot : SpecOk Tryz.prog 43 s_eqShot := by
  intro args S h; unfold s_eqShot at h ⊢; (split at h <;> first | exact False.elim h | skip)
  dsimp only at h ⊢
  refine funW tabOk (E := [(29, s_eqFrac)]) ⟨ok_eqFrac, trivial⟩ [] (k := 0) (fn := Tryz.f43) rfl rfl rfl rfl rfl rfl ?_
  (repeat' ((try (conv => whnf)); first | (with_reducible first | refine And.intro ?_ ?_ | refine WX.of ?_) | exact zc | ((with_reducible refine VC.mk ?_); exact zw) | (with_reducible first | refine splitT ?_ | refine splitF ?_) | ((with_reducible refine splitM.mk (fun hsm => ?_) (fun hsm => ?_)) <;> (try exact zx)) | ((with_reducible refine splitB.mk (fun h => ?_) (fun h => ?_)) <;> (try simp only [zs, ne_eq] at h) <;> (try simp (disch := omega) only [w64] at h) <;> (try exact zx)) | (with_reducible intro hz; (try exact absurd hz (Nat.succ_ne_zero _)))))
  all_goals (refine ⟨?_⟩; simp_all)
def s_eqReport : Spec := fun args S => match args, S with
  | [.agg [.int .i64 i, .int .i64 wp, .int .i64 wq, .int .i64 sp, .int .i64 sq, .int .i64 fp, .int .i64 fq, .int .i64 kp, .int .i64 kq, .int .i64 lp, .int .i64 lq, .int .i64 ap, .int .i64 aq, .int .i64 zp, .int .i64 zq], .agg [.int .i64 i', .int .i64 wp', .int .i64 wq', .int .i64 sp', .int .i64 sq', .int .i64 fp', .int .i64 fq', .int .i64 kp', .int .i64 kq', .int .i64 lp', .int .i64 lq', .int .i64 ap', .int .i64 aq', .int .i64 zp', .int .i64 zq']], [] => ⟨True, .bool (decide (((i, (wp, wq), sp, sq), (fp, fq), (kp, kq), (lp, lq), (ap, aq), zp, zq) = (((i', (wp', wq'), sp', sq'), (fp', fq'), (kp', kq'), (lp', lq'), (ap', aq'), zp', zq') : RpT))), []⟩
  | _, _ => noSpec
set_option maxHeartbeats 3200000 in
theorem ok_eqReport : SpecOk Tryz.prog 14 s_eqReport := by
  intro args S h; unfold s_eqReport at h ⊢; (split at h <;> first | exact False.elim h | skip)
  dsimp only at h ⊢
  refine funW tabOk (E := [(43, s_eqShot), (29, s_eqFrac), (26, s_eqSpan)]) ⟨ok_eqShot, ok_eqFrac, ok_eqSpan, trivial⟩ [] (k := 0) (fn := Tryz.f14) rfl rfl rfl rfl rfl rfl ?_
  (repeat' ((try (conv => whnf)); first | (with_reducible first | refine And.intro ?_ ?_ | refine WX.of ?_) | exact zc | ((with_reducible refine VC.mk ?_); exact zw) | (with_reducible first | refine splitT ?_ | refine splitF ?_) | ((with_reducible refine splitM.mk (fun hsm => ?_) (fun hsm => ?_)) <;> (try exact zx)) | ((with_reducible refine splitB.mk (fun h => ?_) (fun h => ?_)) <;> (try simp only [zs, ne_eq] at h) <;> (try simp (disch := omega) only [w64] at h) <;> (try exact zx)) | (with_reducible intro hz; (try exact absurd hz (Nat.succ_ne_zero _)))))
  all_goals (refine ⟨?_⟩; simp_all)
instance decRpE : DecidableEq (ET.T (.prod (.prod (.int .i64) (.prod (.prod (.int .i64) (.int .i64)) (.prod (.int .i64) (.int .i64)))) (.prod (.prod (.int .i64) (.int .i64)) (.prod (.prod (.int .i64) (.int .i64)) (.prod (.prod (.int .i64) (.int .i64)) (.prod (.prod (.int .i64) (.int .i64)) (.prod (.int .i64) (.int .i64)))))))) := fun a b => @instDecidableEqProd ShT _ inferInstance inferInstance a b
def s_toReportS : Spec := fun args S => match args, S with
  | [.opt c 0 n 0], [.arrO (.prod (.prod (.int .i64) (.prod (.prod (.int .i64) (.int .i64)) (.prod (.int .i64) (.int .i64)))) (.prod (.prod (.int .i64) (.int .i64)) (.prod (.prod (.int .i64) (.int .i64)) (.prod (.prod (.int .i64) (.int .i64)) (.prod (.prod (.int .i64) (.int .i64)) (.prod (.int .i64) (.int .i64))))))) l 15] => ⟨n ≤ l.length ∧ (c = true → l = []) ∧ n ≤ 1048576, .sl 1 0 n 0, [.arrO (.prod (.prod (.int .i64) (.prod (.prod (.int .i64) (.int .i64)) (.prod (.int .i64) (.int .i64)))) (.prod (.prod (.int .i64) (.int .i64)) (.prod (.prod (.int .i64) (.int .i64)) (.prod (.prod (.int .i64) (.int .i64)) (.prod (.prod (.int .i64) (.int .i64)) (.prod (.int .i64) (.int .i64))))))) l 15, .arr (.prod (.prod (.int .i64) (.prod (.prod (.int .i64) (.int .i64)) (.prod (.int .i64) (.int .i64)))) (.prod (.prod (.int .i64) (.int .i64)) (.prod (.prod (.int .i64) (.int .i64)) (.prod (.prod (.int .i64) (.int .i64)) (.prod (.prod (.int .i64) (.int .i64)) (.prod (.int .i64) (.int .i64))))))) (seg l 0 n) 15 true]⟩
  | [.sl 0 s n x], [.arr (.prod (.prod (.int .i64) (.prod (.prod (.int .i64) (.int .i64)) (.prod (.int .i64) (.int .i64)))) (.prod (.prod (.int .i64) (.int .i64)) (.prod (.prod (.int .i64) (.int .i64)) (.prod (.prod (.int .i64) (.int .i64)) (.prod (.prod (.int .i64) (.int .i64)) (.prod (.int .i64) (.int .i64))))))) l 15 wr] => ⟨s + n ≤ l.length ∧ n ≤ 1048576, .sl 1 0 n 0, [.arr (.prod (.prod (.int .i64) (.prod (.prod (.int .i64) (.int .i64)) (.prod (.int .i64) (.int .i64)))) (.prod (.prod (.int .i64) (.int .i64)) (.prod (.prod (.int .i64) (.int .i64)) (.prod (.prod (.int .i64) (.int .i64)) (.prod (.prod (.int .i64) (.int .i64)) (.prod (.int .i64) (.int .i64))))))) l 15 wr, .arr (.prod (.prod (.int .i64) (.prod (.prod (.int .i64) (.int .i64)) (.prod (.int .i64) (.int .i64)))) (.prod (.prod (.int .i64) (.int .i64)) (.prod (.prod (.int .i64) (.int .i64)) (.prod (.prod (.int .i64) (.int .i64)) (.prod (.prod (.int .i64) (.int .i64)) (.prod (.int .i64) (.int .i64))))))) (seg l s n) 15 true]⟩
  | _, _ => noSpec
theorem toReportS_sl {s n x : Nat} {l : List (ET.T (.prod (.prod (.int .i64) (.prod (.prod (.int .i64) (.int .i64)) (.prod (.int .i64) (.int .i64)))) (.prod (.prod (.int .i64) (.int .i64)) (.prod (.prod (.int .i64) (.int .i64)) (.prod (.prod (.int .i64) (.int .i64)) (.prod (.prod (.int .i64) (.int .i64)) (.prod (.int .i64) (.int .i64))))))))} {wr : Bool} (h : s + n ≤ l.length ∧ n ≤ 1048576) : RunsS Tryz.prog 21 [.sl 0 s n x] [.arr (.prod (.prod (.int .i64) (.prod (.prod (.int .i64) (.int .i64)) (.prod (.int .i64) (.int .i64)))) (.prod (.prod (.int .i64) (.int .i64)) (.prod (.prod (.int .i64) (.int .i64)) (.prod (.prod (.int .i64) (.int .i64)) (.prod (.prod (.int .i64) (.int .i64)) (.prod (.int .i64) (.int .i64))))))) l 15 wr] (.sl 1 0 n 0) [.arr (.prod (.prod (.int .i64) (.prod (.prod (.int .i64) (.int .i64)) (.prod (.int .i64) (.int .i64)))) (.prod (.prod (.int .i64) (.int .i64)) (.prod (.prod (.int .i64) (.int .i64)) (.prod (.prod (.int .i64) (.int .i64)) (.prod (.prod (.int .i64) (.int .i64)) (.prod (.int .i64) (.int .i64))))))) l 15 wr, .arr (.prod (.prod (.int .i64) (.prod (.prod (.int .i64) (.int .i64)) (.prod (.int .i64) (.int .i64)))) (.prod (.prod (.int .i64) (.int .i64)) (.prod (.prod (.int .i64) (.int .i64)) (.prod (.prod (.int .i64) (.int .i64)) (.prod (.prod (.int .i64) (.int .i64)) (.prod (.int .i64) (.int .i64))))))) (seg l s n) 15 true] := by
  have hL := seg_len h.1
  refine funW tabOk (E := [(17, s_toReport)]) ⟨ok_toReport, trivial⟩ [] (k := 1) (fn := Tryz.f21) rfl rfl rfl rfl rfl rfl ?_
  (repeat' ((try (conv => whnf)); first | (with_reducible first | refine And.intro ?_ ?_ | refine WX.of ?_) | exact zc | ((with_reducible refine VC.mk ?_); exact zw) | ((with_reducible refine VC.mk ?_); (refine ⟨?_, rfl, ?_, ?_⟩); (omega); (refine Int.le_trans (Int.mul_le_mul_of_nonneg_right (b := 100000) ?_ ?_) ?_; (decide); (omega); (omega)); (omega)) | (with_reducible first | refine splitT ?_ | refine splitF ?_) | ((with_reducible refine splitM.mk (fun hsm => ?_) (fun hsm => ?_)) <;> (try exact zx)) | ((with_reducible refine splitB.mk (fun h => ?_) (fun h => ?_)) <;> (try simp only [zs, ne_eq] at h) <;> (try simp (disch := omega) only [w64] at h) <;> (try exact zx)) | (with_reducible intro hz; (try exact absurd hz (Nat.succ_ne_zero _)))))
  refine loopW tabOk (E := [(17, s_toReport)]) ⟨ok_toReport, trivial⟩ [] (σ := Nat) (fun i => [(0, .sl 0 s n x), (3, .sl 1 0 n 0), (4, .int .i64 i)]) (fun i => [.arr (.prod (.prod (.int .i64) (.prod (.prod (.int .i64) (.int .i64)) (.prod (.int .i64) (.int .i64)))) (.prod (.prod (.int .i64) (.int .i64)) (.prod (.prod (.int .i64) (.int .i64)) (.prod (.prod (.int .i64) (.int .i64)) (.prod (.prod (.int .i64) (.int .i64)) (.prod (.int .i64) (.int .i64))))))) l 15 wr, .arr (.prod (.prod (.int .i64) (.prod (.prod (.int .i64) (.int .i64)) (.prod (.int .i64) (.int .i64)))) (.prod (.prod (.int .i64) (.int .i64)) (.prod (.prod (.int .i64) (.int .i64)) (.prod (.prod (.int .i64) (.int .i64)) (.prod (.prod (.int .i64) (.int .i64)) (.prod (.int .i64) (.int .i64))))))) ((seg l s n).take i ++ List.replicate (n - i) (rp0 : ET.T (.prod (.prod (.int .i64) (.prod (.prod (.int .i64) (.int .i64)) (.prod (.int .i64) (.int .i64)))) (.prod (.prod (.int .i64) (.int .i64)) (.prod (.prod (.int .i64) (.int .i64)) (.prod (.prod (.int .i64) (.int .i64)) (.prod (.prod (.int .i64) (.int .i64)) (.prod (.int .i64) (.int .i64))))))))) 15 true]) (fun i => n - i) (fun i => i ≤ n) 0 (Nat.zero_le _) ?_ ?_
  · (repeat' ((try (conv => whnf)); first | (with_reducible first | refine And.intro ?_ ?_ | refine WX.of ?_) | exact zc | ((with_reducible refine VC.mk ?_); exact zw) | (with_reducible first | refine splitT ?_ | refine splitF ?_) | ((with_reducible refine splitM.mk (fun hsm => ?_) (fun hsm => ?_)) <;> (try exact zx)) | ((with_reducible refine splitB.mk (fun h => ?_) (fun h => ?_)) <;> (try simp only [zs, ne_eq] at h) <;> (try simp (disch := omega) only [w64] at h) <;> (try exact zx)) | (with_reducible intro hz; (try exact absurd hz (Nat.succ_ne_zero _)))))
    all_goals exact ⟨by simp⟩
  · intro i hi
    by_cases hlt : i < n
    · obtain ⟨⟨⟨i0, ⟨wp, wq⟩, sp, sq⟩, ⟨fp, fq⟩, ⟨kp, kq⟩, ⟨lp, lq⟩, ⟨ap, aq⟩, zp, zq⟩, ha⟩ := get_some (l := seg l s n) (i := i) (by omega)
      (repeat' ((try (conv => whnf)); first | (with_reducible first | refine And.intro ?_ ?_ | refine WX.of ?_) | exact zc | ((with_reducible refine VC.mk ?_); exact zw) | refine atL_i ha ?_ | refine atL_0 (fill_at hL hlt) ?_ | (with_reducible first | refine splitT ?_ | refine splitF ?_) | ((with_reducible refine splitM.mk (fun hsm => ?_) (fun hsm => ?_)) <;> (try exact zx)) | ((with_reducible refine splitB.mk (fun h => ?_) (fun h => ?_)) <;> (try simp only [zs, ne_eq] at h) <;> (try simp (disch := omega) only [w64] at h) <;> (try exact zx)) | (with_reducible intro hz; (try exact absurd hz (Nat.succ_ne_zero _)))))
      refine ⟨i + 1, by omega, hlt, ?_⟩
      (repeat' ((try (conv => whnf)); first | (with_reducible first | refine And.intro ?_ ?_ | refine WX.of ?_) | exact zc | ((with_reducible refine VC.mk ?_); exact zw) | (with_reducible first | refine splitT ?_ | refine splitF ?_) | ((with_reducible refine splitM.mk (fun hsm => ?_) (fun hsm => ?_)) <;> (try exact zx)) | ((with_reducible refine splitB.mk (fun h => ?_) (fun h => ?_)) <;> (try simp only [zs, ne_eq] at h) <;> (try simp (disch := omega) only [w64] at h) <;> (try exact zx)) | (with_reducible intro hz; (try exact absurd hz (Nat.succ_ne_zero _)))))
      exact ⟨by simp [fill_step hL ha]⟩
    · (repeat' ((try (conv => whnf)); first | (with_reducible first | refine And.intro ?_ ?_ | refine WX.of ?_) | exact zc | ((with_reducible refine VC.mk ?_); exact zw) | (with_reducible first | refine splitT ?_ | refine splitF ?_) | ((with_reducible refine splitM.mk (fun hsm => ?_) (fun hsm => ?_)) <;> (try exact zx)) | ((with_reducible refine splitB.mk (fun h => ?_) (fun h => ?_)) <;> (try simp only [zs, ne_eq] at h) <;> (try simp (disch := omega) only [w64] at h) <;> (try exact zx)) | (with_reducible intro hz; (try exact absurd hz (Nat.succ_ne_zero _)))))
      obtain rfl : i = n := by omega
      exact ⟨by rw [fill_end hL]⟩
theorem toReportS_none {v : SV} (hv : v = .nils ∨ v = .sl 0 0 0 0) : RunsS Tryz.prog 21 [v] [.gone] (.sl 1 0 0 0) [.gone, .arr (.prod (.prod (.int .i64) (.prod (.prod (.int .i64) (.int .i64)) (.prod (.int .i64) (.int .i64)))) (.prod (.prod (.int .i64) (.int .i64)) (.prod (.prod (.int .i64) (.int .i64)) (.prod (.prod (.int .i64) (.int .i64)) (.prod (.prod (.int .i64) (.int .i64)) (.prod (.int .i64) (.int .i64))))))) [] 15 true] := by
  rcases hv with rfl | rfl
  all_goals
    refine funW tabOk (E := [(17, s_toReport)]) ⟨ok_toReport, trivial⟩ [] (k := 1) (fn := Tryz.f21) rfl rfl rfl rfl rfl rfl ?_
    (repeat' ((try (conv => whnf)); first | (with_reducible first | refine And.intro ?_ ?_ | refine WX.of ?_) | exact zc | ((with_reducible refine VC.mk ?_); exact zw) | (with_reducible first | refine splitT ?_ | refine splitF ?_) | ((with_reducible refine splitM.mk (fun hsm => ?_) (fun hsm => ?_)) <;> (try exact zx)) | ((with_reducible refine splitB.mk (fun h => ?_) (fun h => ?_)) <;> (try simp only [zs, ne_eq] at h) <;> (try simp (disch := omega) only [w64] at h) <;> (try exact zx)) | (with_reducible intro hz; (try exact absurd hz (Nat.succ_ne_zero _)))))
    refine loop1 tabOk (E := [(17, s_toReport)]) ⟨ok_toReport, trivial⟩ [] ?_
    (repeat' ((try (conv => whnf)); first | (with_reducible first | refine And.intro ?_ ?_ | refine WX.of ?_) | exact zc | ((with_reducible refine VC.mk ?_); exact zw) | (with_reducible first | refine splitT ?_ | refine splitF ?_) | ((with_reducible refine splitM.mk (fun hsm => ?_) (fun hsm => ?_)) <;> (try exact zx)) | ((with_reducible refine splitB.mk (fun h => ?_) (fun h => ?_)) <;> (try simp only [zs, ne_eq] at h) <;> (try simp (disch := omega) only [w64] at h) <;> (try exact zx)) | (with_reducible intro hz; (try exact absurd hz (Nat.succ_ne_zero _)))))
theorem ok_toReportS : SpecOk Tryz.prog 21 s_toReportS := by
  intro args S h; unfold s_toReportS at h ⊢; (split at h <;> first | exact False.elim h | skip)
  dsimp only at h ⊢
  · exact RunsS.opt (pre := []) (post := []) rfl rfl h.1 (fun hn _ hl => by subst hn; subst hl; exact toReportS_none (.inl rfl)) (fun hn _ hl => by subst hn; subst hl; exact toReportS_none (.inr rfl)) (toReportS_sl ⟨by simpa using h.1, h.2.2⟩) h.2.1
  · exact toReportS_sl h
def s_eqReportS : Spec := fun args S => match args, S with
  | [.sl 0 s n x, .sl 1 s' n' x'], [.arr (.prod (.prod (.int .i64) (.prod (.prod (.int .i64) (.int .i64)) (.prod (.int .i64) (.int .i64)))) (.prod (.prod (.int .i64) (.int .i64)) (.prod (.prod (.int .i64) (.int .i64)) (.prod (.prod (.int .i64) (.int .i64)) (.prod (.prod (.int .i64) (.int .i64)) (.prod (.int .i64) (.int .i64))))))) l 15 wr, .arr (.prod (.prod (.int .i64) (.prod (.prod (.int .i64) (.int .i64)) (.prod (.int .i64) (.int .i64)))) (.prod (.prod (.int .i64) (.int .i64)) (.prod (.prod (.int .i64) (.int .i64)) (.prod (.prod (.int .i64) (.int .i64)) (.prod (.prod (.int .i64) (.int .i64)) (.prod (.int .i64) (.int .i64))))))) l' 15 wr'] => ⟨s + n ≤ l.length ∧ s' + n' ≤ l'.length ∧ n ≤ 4611686018427387904, .bool (decide (seg l s n = seg l' s' n')), [.arr (.prod (.prod (.int .i64) (.prod (.prod (.int .i64) (.int .i64)) (.prod (.int .i64) (.int .i64)))) (.prod (.prod (.int .i64) (.int .i64)) (.prod (.prod (.int .i64) (.int .i64)) (.prod (.prod (.int .i64) (.int .i64)) (.prod (.prod (.int .i64) (.int .i64)) (.prod (.int .i64) (.int .i64))))))) l 15 wr, .arr (.prod (.prod (.int .i64) (.prod (.prod (.int .i64) (.int .i64)) (.prod (.int .i64) (.int .i64)))) (.prod (.prod (.int .i64) (.int .i64)) (.prod (.prod (.int .i64) (.int .i64)) (.prod (.prod (.int .i64) (.int .i64)) (.prod (.prod (.int .i64) (.int .i64)) (.prod (.int .i64) (.int .i64))))))) l' 15 wr']⟩
  | [.nils, .sl 0 s' n' x'], [.arr (.prod (.prod (.int .i64) (.prod (.prod (.int .i64) (.int .i64)) (.prod (.int .i64) (.int .i64)))) (.prod (.prod (.int .i64) (.int .i64)) (.prod (.prod (.int .i64) (.int .i64)) (.prod (.prod (.int .i64) (.int .i64)) (.prod (.prod (.int .i64) (.int .i64)) (.prod (.int .i64) (.int .i64))))))) l' 15 wr'] => ⟨s' + n' ≤ l'.length ∧ n' = 0, .bool true, [.arr (.prod (.prod (.int .i64) (.prod (.prod (.int .i64) (.int .i64)) (.prod (.int .i64) (.int .i64)))) (.prod (.prod (.int .i64) (.int .i64)) (.prod (.prod (.int .i64) (.int .i64)) (.prod (.prod (.int .i64) (.int .i64)) (.prod (.prod (.int .i64) (.int .i64)) (.prod (.int .i64) (.int .i64))))))) l' 15 wr']⟩
  | _, _ => noSpec
theorem eqReportS_nil {s x : Nat} {l : List (ET.T (.prod (.prod (.int .i64) (.prod (.prod (.int .i64) (.int .i64)) (.prod (.int .i64) (.int .i64)))) (.prod (.prod (.int .i64) (.int .i64)) (.prod (.prod (.int .i64) (.int .i64)) (.prod (.prod (.int .i64) (.int .i64)) (.prod (.prod (.int .i64) (.int .i64)) (.prod (.int .i64) (.int .i64))))))))} {wr : Bool} : RunsS Tryz.prog 23 [.nils, .sl 0 s 0 x] [.arr (.prod (.prod (.int .i64) (.prod (.prod (.int .i64) (.int .i64)) (.prod (.int .i64) (.int .i64)))) (.prod (.prod (.int .i64) (.int .i64)) (.prod (.prod (.int .i64) (.int .i64)) (.prod (.prod (.int .i64) (.int .i64)) (.prod (.prod (.int .i64) (.int .i64)) (.prod (.int .i64) (.int .i64))))))) l 15 wr] (.bool true) [.arr (.prod (.prod (.int .i64) (.prod (.prod (.int .i64) (.int .i64)) (.prod (.int .i64) (.int .i64)))) (.prod (.prod (.int .i64) (.int .i64)) (.prod (.prod (.int .i64) (.int .i64)) (.prod (.prod (.int .i64) (.int .i64)) (.prod (.prod (.int .i64) (.int .i64)) (.prod (.int .i64) (.int .i64))))))) l 15 wr] := by
  refine funW tabOk (E := [(14, s_eqReport)]) ⟨ok_eqReport, trivial⟩ [] (k := 1) (fn := Tryz.f23) rfl rfl rfl rfl rfl rfl ?_
  (repeat' ((try (conv => whnf)); first | (with_reducible first | refine And.intro ?_ ?_ | refine WX.of ?_) | exact zc | ((with_reducible refine VC.mk ?_); exact zw) | (with_reducible first | refine splitT ?_ | refine splitF ?_) | ((with_reducible refine splitM.mk (fun hsm => ?_) (fun hsm => ?_)) <;> (try exact zx)) | ((with_reducible refine splitB.mk (fun h => ?_) (fun h => ?_)) <;> (try simp only [zs, ne_eq] at h) <;> (try simp (disch := omega) only [w64] at h) <;> (try exact zx)) | (with_reducible intro hz; (try exact absurd hz (Nat.succ_ne_zero _)))))
  refine loop1 tabOk (E := [(14, s_eqReport)]) ⟨ok_eqReport, trivial⟩ [] ?_
  (repeat' ((try (conv => whnf)); first | (with_reducible first | refine And.intro ?_ ?_ | refine WX.of ?_) | exact zc | ((with_reducible refine VC.mk ?_); exact zw) | (with_reducible first | refine splitT ?_ | refine splitF ?_) | ((with_reducible refine splitM.mk (fun hsm => ?_) (fun hsm => ?_)) <;> (try exact zx)) | ((with_reducible refine splitB.mk (fun h => ?_) (fun h => ?_)) <;> (try simp only [zs, ne_eq] at h) <;> (try simp (disch := omega) only [w64] at h) <;> (try exact zx)) | (with_reducible intro hz; (try exact absurd hz (Nat.succ_ne_zero _)))))
theorem ok_eqReportS : SpecOk Tryz.prog 23 s_eqReportS := by
  intro args S h; unfold s_eqReportS at h ⊢; (split at h <;> first | exact False.elim h | skip)
  dsimp only at h ⊢
  rotate_left 1
  · obtain ⟨h1, rfl⟩ := h
    exact eqReportS_nil
  rename_i s n x s' n' x' l wr l' wr'
  have hL := seg_len h.1
  have hM := seg_len h.2.1
  refine funW tabOk (E := [(14, s_eqReport)]) ⟨ok_eqReport, trivial⟩ [] (k := 2) (fn := Tryz.f23) rfl rfl rfl rfl rfl rfl ?_
  (repeat' ((try (conv => whnf)); first | (with_reducible first | refine And.intro ?_ ?_ | refine WX.of ?_) | exact zc | ((with_reducible refine VC.mk ?_); exact zw) | (with_reducible first | refine splitT ?_ | refine splitF ?_) | ((with_reducible refine splitM.mk (fun hsm => ?_) (fun hsm => ?_)) <;> (try exact zx)) | ((with_reducible refine splitB.mk (fun h => ?_) (fun h => ?_)) <;> (try simp only [zs, ne_eq] at h) <;> (try simp (disch := omega) only [w64] at h) <;> (try exact zx)) | (with_reducible intro hz; (try exact absurd hz (Nat.succ_ne_zero _)))))
  · refine ⟨?_⟩
    rw [decide_eq_false]; intro e
    rw [e] at hL; omega
  · obtain rfl : n = n' := by omega
    refine loopW tabOk (E := [(14, s_eqReport)]) ⟨ok_eqReport, trivial⟩ [] (σ := Nat) (fun i => [(0, .sl 0 s n x), (1, .sl 1 s' n x'), (5, .int .i64 i)]) (fun i => [.arr (.prod (.prod (.int .i64) (.prod (.prod (.int .i64) (.int .i64)) (.prod (.int .i64) (.int .i64)))) (.prod (.prod (.int .i64) (.int .i64)) (.prod (.prod (.int .i64) (.int .i64)) (.prod (.prod (.int .i64) (.int .i64)) (.prod (.prod (.int .i64) (.int .i64)) (.prod (.int .i64) (.int .i64))))))) l 15 wr, .arr (.prod (.prod (.int .i64) (.prod (.prod (.int .i64) (.int .i64)) (.prod (.int .i64) (.int .i64)))) (.prod (.prod (.int .i64) (.int .i64)) (.prod (.prod (.int .i64) (.int .i64)) (.prod (.prod (.int .i64) (.int .i64)) (.prod (.prod (.int .i64) (.int .i64)) (.prod (.int .i64) (.int .i64))))))) l' 15 wr']) (fun i => n - i) (fun i => i ≤ n ∧ (seg l s n).take i = (seg l' s' n).take i) 0 ⟨Nat.zero_le _, by simp⟩ ?_ ?_
    · (repeat' ((try (conv => whnf)); first | (with_reducible first | refine And.intro ?_ ?_ | refine WX.of ?_) | exact zc | ((with_reducible refine VC.mk ?_); exact zw) | (with_reducible first | refine splitT ?_ | refine splitF ?_) | ((with_reducible refine splitM.mk (fun hsm => ?_) (fun hsm => ?_)) <;> (try exact zx)) | ((with_reducible refine splitB.mk (fun h => ?_) (fun h => ?_)) <;> (try simp only [zs, ne_eq] at h) <;> (try simp (disch := omega) only [w64] at h) <;> (try exact zx)) | (with_reducible intro hz; (try exact absurd hz (Nat.succ_ne_zero _)))))
    · intro i ⟨hi, hp⟩
      by_cases hlt : i < n
      · obtain ⟨⟨⟨i0, ⟨wp, wq⟩, sp, sq⟩, ⟨fp, fq⟩, ⟨kp, kq⟩, ⟨lp, lq⟩, ⟨ap, aq⟩, zp, zq⟩, ha⟩ := get_some (l := seg l s n) (i := i) (by omega)
        obtain ⟨⟨⟨i0', ⟨wp', wq'⟩, sp', sq'⟩, ⟨fp', fq'⟩, ⟨kp', kq'⟩, ⟨lp', lq'⟩, ⟨ap', aq'⟩, zp', zq'⟩, hb⟩ := get_some (l := seg l' s' n) (i := i) (by omega)
        (repeat' ((try (conv => whnf)); first | (with_reducible first | refine And.intro ?_ ?_ | refine WX.of ?_) | exact zc | ((with_reducible refine VC.mk ?_); exact zw) | refine atL_i ha ?_ | refine atL_i hb ?_ | (with_reducible first | refine splitT ?_ | refine splitF ?_) | ((with_reducible refine splitM.mk (fun hsm => ?_) (fun hsm => ?_)) <;> (try exact zx)) | ((with_reducible refine splitB.mk (fun h => ?_) (fun h => ?_)) <;> (try simp only [zs, ne_eq] at h) <;> (try simp (disch := omega) only [w64] at h) <;> (try exact zx)) | (with_reducible intro hz; (try exact absurd hz (Nat.succ_ne_zero _)))))
        · refine ⟨?_⟩; rw [decide_eq_false]; exact same_not ha hb (by simpa using h)
        · refine ⟨i + 1, by omega, ⟨hlt, same_step ha hb hp (by simpa using h)⟩, ?_⟩
          (repeat' ((try (conv => whnf)); first | (with_reducible first | refine And.intro ?_ ?_ | refine WX.of ?_) | exact zc | ((with_reducible refine VC.mk ?_); exact zw) | (with_reducible first | refine splitT ?_ | refine splitF ?_) | ((with_reducible refine splitM.mk (fun hsm => ?_) (fun hsm => ?_)) <;> (try exact zx)) | ((with_reducible refine splitB.mk (fun h => ?_) (fun h => ?_)) <;> (try simp only [zs, ne_eq] at h) <;> (try simp (disch := omega) only [w64] at h) <;> (try exact zx)) | (with_reducible intro hz; (try exact absurd hz (Nat.succ_ne_zero _)))))
      · (repeat' ((try (conv => whnf)); first | (with_reducible first | refine And.intro ?_ ?_ | refine WX.of ?_) | exact zc | ((with_reducible refine VC.mk ?_); exact zw) | (with_reducible first | refine splitT ?_ | refine splitF ?_) | ((with_reducible refine splitM.mk (fun hsm => ?_) (fun hsm => ?_)) <;> (try exact zx)) | ((with_reducible refine splitB.mk (fun h => ?_) (fun h => ?_)) <;> (try simp only [zs, ne_eq] at h) <;> (try simp (disch := omega) only [w64] at h) <;> (try exact zx)) | (with_reducible intro hz; (try exact absurd hz (Nat.succ_ne_zero _)))))
        obtain rfl : i = n := by omega
        refine ⟨?_⟩; rw [decide_eq_true]; exact same_end hL hM hp
def s_szReportS : Spec := fun args S => match args, S with
  | [.opt c 0 n 0, .int .i64 k], [.arrO (.prod (.prod (.int .i64) (.prod (.prod (.int .i64) (.int .i64)) (.prod (.int .i64) (.int .i64)))) (.prod (.prod (.int .i64) (.int .i64)) (.prod (.prod (.int .i64) (.int .i64)) (.prod (.prod (.int .i64) (.int .i64)) (.prod (.prod (.int .i64) (.int .i64)) (.prod (.int .i64) (.int .i64))))))) l 15] => ⟨(0 ≤ k ∧ k ≤ 1048576) ∧ n ≤ 9223372036854775807, .int .i64 (max (-1) (k - n)), [.arrO (.prod (.prod (.int .i64) (.prod (.prod (.int .i64) (.int .i64)) (.prod (.int .i64) (.int .i64)))) (.prod (.prod (.int .i64) (.int .i64)) (.prod (.prod (.int .i64) (.int .i64)) (.prod (.prod (.int .i64) (.int .i64)) (.prod (.prod (.int .i64) (.int .i64)) (.prod (.int .i64) (.int .i64))))))) l 15]⟩
  | _, _ => noSpec
theorem ok_szReportS : SpecOk Tryz.prog 19 s_szReportS := by
  intro args S h; unfold s_szReportS at h ⊢; (split at h <;> first | exact False.elim h | skip)
  dsimp only at h ⊢
  refine funW tabOk (E := []) trivial [] (k := 1) (fn := Tryz.f19) rfl rfl rfl rfl rfl rfl ?_
  (repeat' ((try (conv => whnf)); first | (with_reducible first | refine And.intro ?_ ?_ | refine WX.of ?_) | exact zc | ((with_reducible refine VC.mk ?_); exact zw) | (with_reducible first | refine splitT ?_ | refine splitF ?_) | ((with_reducible refine splitM.mk (fun hsm => ?_) (fun hsm => ?_)) <;> (try exact zx)) | ((with_reducible refine splitB.mk (fun h => ?_) (fun h => ?_)) <;> (try simp only [zs, ne_eq] at h) <;> (try simp (disch := omega) only [w64] at h) <;> (try exact zx)) | (with_reducible intro hz; (try exact absurd hz (Nat.succ_ne_zero _)))))
  all_goals (refine ⟨?_⟩; (try rw [w64 (by omega)]); congr 1; omega)
end Go.Proofs.YtbmejhabgoimeaaGreat.Eng
set_option linter.unusedVariables false
set_option linter.unusedSimpArgs false
namespace Go.Proofs.YtbmejhabgoimeaaGreat.Eng
open Go Go.RowKit
set_option maxRecDepth 100000
set_option maxHeartbeats 1600000 in
theorem law_takeReport {y1 : Int × Int} (ho1 : ET.Ok (.prod (.int .i64) (.int .i64)) y1) {c2 : Bool} {n2 : Nat} {l2 : List (Int × Int)} (hn2 : n2 ≤ l2.length) (hc2 : c2 = true → l2 = []) (ho2 : ∀ y ∈ l2, ET.Ok (.prod (.int .i64) (.int .i64)) y) (hz2 : l2.length ≤ 9223372036854775807) {y3 : Int × Bool} (ho3 : ET.Ok (.prod (.int .i64) .bool) y3) {y4 : Int × Int} (ho4 : ET.Ok (.prod (.int .i64) (.int .i64)) y4) {c5 : Bool} {n5 : Nat} {l5 : List ThT} (hn5 : n5 ≤ l5.length) (hc5 : c5 = true → l5 = []) (ho5 : ∀ y ∈ l5, ET.Ok (.prod .str (.prod (.prod (.int .i64) (.int .i64)) (.prod (.int .i64) (.int .i64)))) y) (hz5 : l5.length ≤ 9223372036854775807) {y6 : Int × (Int × Int) × (Int × Int)} (ho6 : ET.Ok (.prod (.int .i64) (.prod (.prod (.int .i64) (.int .i64)) (.prod (.int .i64) (.int .i64)))) y6) : RunsS Tryz.prog 3 [.agg [.int .i64 y1.1, .int .i64 y1.2, .opt c2 0 n2 0, .int .i64 y3.1, .bool y3.2, .int .i64 y4.1, .int .i64 y4.2, .opt c5 1 n5 0], .agg (ET.enc (.prod (.int .i64) (.prod (.prod (.int .i64) (.int .i64)) (.prod (.int .i64) (.int .i64)))) y6)] [.arrO (.prod (.int .i64) (.int .i64)) l2 2, .arrO (.prod .str (.prod (.prod (.int .i64) (.int .i64)) (.prod (.int .i64) (.int .i64)))) l5 5] (.bool true) [.arrO (.prod (.int .i64) (.int .i64)) l2 2, .arrO (.prod .str (.prod (.prod (.int .i64) (.int .i64)) (.prod (.int .i64) (.int .i64)))) l5 5] := by
  have hL : (seg l2 0 n2).length = n2 := seg_len (by omega)
  have hM : (seg l5 0 n5).length = n5 := seg_len (by omega)
  have hb5 : ∀ (j : Nat) (a : ThT), l5[j]? = some a → a.1.length ≤ 9223372036854775807 := fun j a ha => (ho5 a (List.mem_of_getElem? ha)).1
  have hS : seg (seg l2 0 n2) 0 n2 = seg l2 0 n2 := seg_full hL
  have hT : seg (seg l5 0 n5) 0 n5 = seg l5 0 n5 := seg_full hM
  have htt : ∀ (j : Nat) (a : ThT), (seg l5 0 n5)[j]? = some a → a.1.length ≤ tot (fun a : ThT => a.1.length) (seg l5 0 n5) := fun j a ha => tot_at (f := fun a : ThT => a.1.length) ha
  obtain ⟨⟨⟨i, ⟨wp, wq⟩, sp, sq⟩, ⟨fp, fq⟩, ⟨kp, kq⟩, ⟨lp, lq⟩, ⟨ap, aq⟩, zp, zq⟩, c, hR⟩ : ∃ (R : RpT) (c : Int), (s_take [.agg [.int .i64 y1.1, .int .i64 y1.2, .sl 0 0 n2 0, .int .i64 y3.1, .bool y3.2, .int .i64 y4.1, .int .i64 y4.2, .sl 1 0 n5 0], .agg [.int .i64 y6.1, .int .i64 y6.2.1.1, .int .i64 y6.2.1.2, .int .i64 y6.2.2.1, .int .i64 y6.2.2.2]] [.arr (.prod (.int .i64) (.int .i64)) (seg l2 0 n2) 2 true, .arr (.prod .str (.prod (.prod (.int .i64) (.int .i64)) (.prod (.int .i64) (.int .i64)))) (seg l5 0 n5) 5 true]).v = .tup [.agg [.int .i64 R.1.1, .int .i64 R.1.2.1.1, .int .i64 R.1.2.1.2, .int .i64 R.1.2.2.1, .int .i64 R.1.2.2.2, .int .i64 R.2.1.1, .int .i64 R.2.1.2, .int .i64 R.2.2.1.1, .int .i64 R.2.2.1.2, .int .i64 R.2.2.2.1.1, .int .i64 R.2.2.2.1.2, .int .i64 R.2.2.2.2.1.1, .int .i64 R.2.2.2.2.1.2, .int .i64 R.2.2.2.2.2.1, .int .i64 R.2.2.2.2.2.2], .int .i64 c] := ⟨tkV _, eC _, rfl⟩
  refine funW tabOk (E := [(9, s_szBench), (11, s_toBench), (12, s_toShot), (10, (pin s_take (.tup [.agg [.int .i64 i, .int .i64 wp, .int .i64 wq, .int .i64 sp, .int .i64 sq, .int .i64 fp, .int .i64 fq, .int .i64 kp, .int .i64 kq, .int .i64 lp, .int .i64 lq, .int .i64 ap, .int .i64 aq, .int .i64 zp, .int .i64 zq], .int .i64 c]))), (13, (pin s_take (.tup [.agg [.int .i64 i, .int .i64 wp, .int .i64 wq, .int .i64 sp, .int .i64 sq, .int .i64 fp, .int .i64 fq, .int .i64 kp, .int .i64 kq, .int .i64 lp, .int .i64 lq, .int .i64 ap, .int .i64 aq, .int .i64 zp, .int .i64 zq], .int .i64 c]))), (15, s_eqBench), (14, s_eqReport)]) ⟨ok_szBench, ok_toBench, ok_toShot, (ok_pin ok_TakeReportS _), (ok_pin ok_TakeReportI _), ok_eqBench, ok_eqReport, trivial⟩ [(5, [(2, 0), (8, 0), (8, 1), (8, 2)]), (7, [(0, 1), (7, 0), (7, 1)]), (10, [(0, 1)])] (k := 2) (fn := Tryz.f3) rfl rfl rfl rfl rfl rfl ?_
  (repeat' ((try (conv => whnf)); first | (with_reducible first | refine And.intro ?_ ?_ | refine WX.of ?_) | exact zc | ((with_reducible refine VC.mk ?_); exact zw) | ((with_reducible refine VC.mk ?_); exact ⟨⟨⟨by omega, by omega⟩, ⟨by omega, by omega⟩, fun j a ha => by have := htt j a ha; omega⟩, hR, rfl⟩) | ((with_reducible refine VC.mk ?_); (refine ⟨?_, ?_, ⟨?_, ?_⟩, ?_, ?_⟩); (omega); (omega); (assumption); (assumption); (omega); (assumption)) | ((with_reducible refine VC.mk ?_); (refine ⟨⟨?_, ?_, ?_⟩, ?_, ?_, ?_⟩); all_goals (try assumption); all_goals omega) | ((with_reducible refine VC.mk ?_); (refine ⟨⟨?_, ?_⟩, ⟨?_, ?_⟩, ?_⟩); (omega); (omega); (omega); (omega); (intro j a ha; have := htt j a ha; omega)) | (with_reducible first | refine splitT ?_ | refine splitF ?_) | ((with_reducible refine splitM.mk (fun hsm => ?_) (fun hsm => ?_)) <;> (try exact zx)) | ((with_reducible refine splitB.mk (fun h => ?_) (fun h => ?_)) <;> (try simp only [zs, ne_eq] at h) <;> (try simp (disch := omega) only [w64] at h) <;> (try exact zx)) | (with_reducible intro hz; (try exact absurd hz (Nat.succ_ne_zero _)))))
set_option maxHeartbeats 1600000 in
theorem law_checkReport {y1 : Int × Int} (ho1 : ET.Ok (.prod (.int .i64) (.int .i64)) y1) {c2 : Bool} {n2 : Nat} {l2 : List (Int × Int)} (hn2 : n2 ≤ l2.length) (hc2 : c2 = true → l2 = []) (ho2 : ∀ y ∈ l2, ET.Ok (.prod (.int .i64) (.int .i64)) y) (hz2 : l2.length ≤ 9223372036854775807) {y3 : Int × Bool} (ho3 : ET.Ok (.prod (.int .i64) .bool) y3) {y4 : Int × Int} (ho4 : ET.Ok (.prod (.int .i64) (.int .i64)) y4) {c5 : Bool} {n5 : Nat} {l5 : List ThT} (hn5 : n5 ≤ l5.length) (hc5 : c5 = true → l5 = []) (ho5 : ∀ y ∈ l5, ET.Ok (.prod .str (.prod (.prod (.int .i64) (.int .i64)) (.prod (.int .i64) (.int .i64)))) y) (hz5 : l5.length ≤ 9223372036854775807) {y6 : RpT} (ho6 : ET.Ok (.prod (.prod (.int .i64) (.prod (.prod (.int .i64) (.int .i64)) (.prod (.int .i64) (.int .i64)))) (.prod (.prod (.int .i64) (.int .i64)) (.prod (.prod (.int .i64) (.int .i64)) (.prod (.prod (.int .i64) (.int .i64)) (.prod (.prod (.int .i64) (.int .i64)) (.prod (.int .i64) (.int .i64))))))) y6) : RunsS Tryz.prog 4 [.agg [.int .i64 y1.1, .int .i64 y1.2, .opt c2 0 n2 0, .int .i64 y3.1, .bool y3.2, .int .i64 y4.1, .int .i64 y4.2, .opt c5 1 n5 0], .agg (ET.enc (.prod (.prod (.int .i64) (.prod (.prod (.int .i64) (.int .i64)) (.prod (.int .i64) (.int .i64)))) (.prod (.prod (.int .i64) (.int .i64)) (.prod (.prod (.int .i64) (.int .i64)) (.prod (.prod (.int .i64) (.int .i64)) (.prod (.prod (.int .i64) (.int .i64)) (.prod (.int .i64) (.int .i64))))))) y6)] [.arrO (.prod (.int .i64) (.int .i64)) l2 2, .arrO (.prod .str (.prod (.prod (.int .i64) (.int .i64)) (.prod (.int .i64) (.int .i64)))) l5 5] (.bool true) [.arrO (.prod (.int .i64) (.int .i64)) l2 2, .arrO (.prod .str (.prod (.prod (.int .i64) (.int .i64)) (.prod (.int .i64) (.int .i64)))) l5 5] := by
  have hL : (seg l2 0 n2).length = n2 := seg_len (by omega)
  have hM : (seg l5 0 n5).length = n5 := seg_len (by omega)
  have hb5 : ∀ (j : Nat) (a : ThT), l5[j]? = some a → a.1.length ≤ 9223372036854775807 := fun j a ha => (ho5 a (List.mem_of_getElem? ha)).1
  have hS : seg (seg l2 0 n2) 0 n2 = seg l2 0 n2 := seg_full hL
  have hT : seg (seg l5 0 n5) 0 n5 = seg l5 0 n5 := seg_full hM
  have htt : ∀ (j : Nat) (a : ThT), (seg l5 0 n5)[j]? = some a → a.1.length ≤ tot (fun a : ThT => a.1.length) (seg l5 0 n5) := fun j a ha => tot_at (f := fun a : ThT => a.1.length) ha
  obtain ⟨b, c, hR⟩ : ∃ (b : Bool) (c : Int), (s_chk [.agg [.int .i64 y1.1, .int .i64 y1.2, .sl 0 0 n2 0, .int .i64 y3.1, .bool y3.2, .int .i64 y4.1, .int .i64 y4.2, .sl 1 0 n5 0], .agg [.int .i64 y6.1.1, .int .i64 y6.1.2.1.1, .int .i64 y6.1.2.1.2, .int .i64 y6.1.2.2.1, .int .i64 y6.1.2.2.2, .int .i64 y6.2.1.1, .int .i64 y6.2.1.2, .int .i64 y6.2.2.1.1, .int .i64 y6.2.2.1.2, .int .i64 y6.2.2.2.1.1, .int .i64 y6.2.2.2.1.2, .int .i64 y6.2.2.2.2.1.1, .int .i64 y6.2.2.2.2.1.2, .int .i64 y6.2.2.2.2.2.1, .int .i64 y6.2.2.2.2.2.2]] [.arr (.prod (.int .i64) (.int .i64)) (seg l2 0 n2) 2 true, .arr (.prod .str (.prod (.prod (.int .i64) (.int .i64)) (.prod (.int .i64) (.int .i64)))) (seg l5 0 n5) 5 true]).v = .tup [.bool b, .int .i64 c] := ⟨_, _, rfl⟩
  refine funW tabOk (E := [(9, s_szBench), (11, s_toBench), (17, s_toReport), (16, (pin s_chk (.tup [.bool b, .int .i64 c]))), (18, (pin s_chk (.tup [.bool b, .int .i64 c]))), (15, s_eqBench)]) ⟨ok_szBench, ok_toBench, ok_toReport, (ok_pin ok_CheckReportS _), (ok_pin ok_CheckReportI _), ok_eqBench, trivial⟩ [(5, [(2, 0)]), (7, [(0, 1)]), (10, [(0, 1)])] (k := 2) (fn := Tryz.f4) rfl rfl rfl rfl rfl rfl ?_
  (repeat' ((try (conv => whnf)); first | (with_reducible first | refine And.intro ?_ ?_ | refine WX.of ?_) | exact zc | ((with_reducible refine VC.mk ?_); exact zw) | ((with_reducible refine VC.mk ?_); exact ⟨⟨⟨by omega, by omega⟩, ⟨by omega, by omega⟩, fun j a ha => by have := htt j a ha; omega⟩, hR, rfl⟩) | ((with_reducible refine VC.mk ?_); (refine ⟨?_, ?_, ⟨?_, ?_⟩, ?_, ?_⟩); (omega); (omega); (assumption); (assumption); (omega); (assumption)) | ((with_reducible refine VC.mk ?_); (refine ⟨⟨?_, ?_, ?_⟩, ?_, ?_, ?_⟩); all_goals (try assumption); all_goals omega) | ((with_reducible refine VC.mk ?_); (refine ⟨⟨?_, ?_⟩, ⟨?_, ?_⟩, ?_⟩); (omega); (omega); (omega); (omega); (intro j a ha; have := htt j a ha; omega)) | (with_reducible first | refine splitT ?_ | refine splitF ?_) | ((with_reducible refine splitM.mk (fun hsm => ?_) (fun hsm => ?_)) <;> (try exact zx)) | ((with_reducible refine splitB.mk (fun h => ?_) (fun h => ?_)) <;> (try simp only [zs, ne_eq] at h) <;> (try simp (disch := omega) only [w64] at h) <;> (try exact zx)) | (with_reducible intro hz; (try exact absurd hz (Nat.succ_ne_zero _)))))
set_option maxHeartbeats 1600000 in
theorem law_checkReports {y1 : Int × Int} (ho1 : ET.Ok (.prod (.int .i64) (.int .i64)) y1) {c2 : Bool} {n2 : Nat} {l2 : List (Int × Int)} (hn2 : n2 ≤ l2.length) (hc2 : c2 = true → l2 = []) (ho2 : ∀ y ∈ l2, ET.Ok (.prod (.int .i64) (.int .i64)) y) (hz2 : l2.length ≤ 9223372036854775807) {y3 : Int × Bool} (ho3 : ET.Ok (.prod (.int .i64) .bool) y3) {y4 : Int × Int} (ho4 : ET.Ok (.prod (.int .i64) (.int .i64)) y4) {c5 : Bool} {n5 : Nat} {l5 : List ThT} (hn5 : n5 ≤ l5.length) (hc5 : c5 = true → l5 = []) (ho5 : ∀ y ∈ l5, ET.Ok (.prod .str (.prod (.prod (.int .i64) (.int .i64)) (.prod (.int .i64) (.int .i64)))) y) (hz5 : l5.length ≤ 9223372036854775807) {c6 : Bool} {n6 : Nat} {l6 : List RpT} (hn6 : n6 ≤ l6.length) (hc6 : c6 = true → l6 = []) (ho6 : ∀ y ∈ l6, ET.Ok (.prod (.prod (.int .i64) (.prod (.prod (.int .i64) (.int .i64)) (.prod (.int .i64) (.int .i64)))) (.prod (.prod (.int .i64) (.int .i64)) (.prod (.prod (.int .i64) (.int .i64)) (.prod (.prod (.int .i64) (.int .i64)) (.prod (.prod (.int .i64) (.int .i64)) (.prod (.int .i64) (.int .i64))))))) y) (hz6 : l6.length ≤ 9223372036854775807) : RunsS Tryz.prog 5 [.agg [.int .i64 y1.1, .int .i64 y1.2, .opt c2 0 n2 0, .int .i64 y3.1, .bool y3.2, .int .i64 y4.1, .int .i64 y4.2, .opt c5 1 n5 0], .opt c6 2 n6 0] [.arrO (.prod (.int .i64) (.int .i64)) l2 2, .arrO (.prod .str (.prod (.prod (.int .i64) (.int .i64)) (.prod (.int .i64) (.int .i64)))) l5 5, .arrO (.prod (.prod (.int .i64) (.prod (.prod (.int .i64) (.int .i64)) (.prod (.int .i64) (.int .i64)))) (.prod (.prod (.int .i64) (.int .i64)) (.prod (.prod (.int .i64) (.int .i64)) (.prod (.prod (.int .i64) (.int .i64)) (.prod (.prod (.int .i64) (.int .i64)) (.prod (.int .i64) (.int .i64))))))) l6 15] (.bool true) [.arrO (.prod (.int .i64) (.int .i64)) l2 2, .arrO (.prod .str (.prod (.prod (.int .i64) (.int .i64)) (.prod (.int .i64) (.int .i64)))) l5 5, .arrO (.prod (.prod (.int .i64) (.prod (.prod (.int .i64) (.int .i64)) (.prod (.int .i64) (.int .i64)))) (.prod (.prod (.int .i64) (.int .i64)) (.prod (.prod (.int .i64) (.int .i64)) (.prod (.prod (.int .i64) (.int .i64)) (.prod (.prod (.int .i64) (.int .i64)) (.prod (.int .i64) (.int .i64))))))) l6 15] := by
  have hL : (seg l2 0 n2).length = n2 := seg_len (by omega)
  have hM : (seg l5 0 n5).length = n5 := seg_len (by omega)
  have hb5 : ∀ (j : Nat) (a : ThT), l5[j]? = some a → a.1.length ≤ 9223372036854775807 := fun j a ha => (ho5 a (List.mem_of_getElem? ha)).1
  have hS : seg (seg l2 0 n2) 0 n2 = seg l2 0 n2 := seg_full hL
  have hT : seg (seg l5 0 n5) 0 n5 = seg l5 0 n5 := seg_full hM
  have htt : ∀ (j : Nat) (a : ThT), (seg l5 0 n5)[j]? = some a → a.1.length ≤ tot (fun a : ThT => a.1.length) (seg l5 0 n5) := fun j a ha => tot_at (f := fun a : ThT => a.1.length) ha
  have hN : (seg l6 0 n6).length = n6 := seg_len (by omega)
  obtain ⟨v, c, hR⟩ : ∃ (v c : Int), (s_chks [.agg [.int .i64 y1.1, .int .i64 y1.2, .sl 0 0 n2 0, .int .i64 y3.1, .bool y3.2, .int .i64 y4.1, .int .i64 y4.2, .sl 1 0 n5 0], .sl 2 0 n6 0] [.arr (.prod (.int .i64) (.int .i64)) (seg l2 0 n2) 2 true, .arr (.prod .str (.prod (.prod (.int .i64) (.int .i64)) (.prod (.int .i64) (.int .i64)))) (seg l5 0 n5) 5 true, .arr (.prod (.prod (.int .i64) (.prod (.prod (.int .i64) (.int .i64)) (.prod (.int .i64) (.int .i64)))) (.prod (.prod (.int .i64) (.int .i64)) (.prod (.prod (.int .i64) (.int .i64)) (.prod (.prod (.int .i64) (.int .i64)) (.prod (.prod (.int .i64) (.int .i64)) (.prod (.int .i64) (.int .i64))))))) (seg l6 0 n6) 15 true]).v = .tup [.int .i64 v, .int .i64 c] := ⟨_, _, rfl⟩
  refine funW tabOk (E := [(9, s_szBench), (19, s_szReportS), (11, s_toBench), (21, s_toReportS), (20, (pin s_chks (.tup [.int .i64 v, .int .i64 c]))), (22, (pin s_chks (.tup [.int .i64 v, .int .i64 c]))), (15, s_eqBench), (23, s_eqReportS)]) ⟨ok_szBench, ok_szReportS, ok_toBench, ok_toReportS, (ok_pin ok_CheckReportsS _), (ok_pin ok_CheckReportsI _), ok_eqBench, ok_eqReportS, trivial⟩ [(14, [(0, 1)])] (k := 3) (fn := Tryz.f5) rfl rfl rfl rfl rfl rfl ?_
  (repeat' ((try (conv => whnf)); first | (with_reducible first | refine And.intro ?_ ?_ | refine WX.of ?_) | exact zc | ((with_reducible refine VC.mk ?_); exact zw) | ((with_reducible refine VC.mk ?_); exact ⟨⟨⟨⟨by omega, by omega⟩, ⟨by omega, by omega⟩, fun j a ha => by have := htt j a ha; omega⟩, by omega, by omega⟩, hR, rfl⟩) | ((with_reducible refine VC.mk ?_); (refine ⟨?_, ?_, ⟨?_, ?_⟩, ?_, ?_⟩); (omega); (omega); (assumption); (assumption); (omega); (assumption)) | ((with_reducible refine VC.mk ?_); (refine ⟨⟨?_, ?_, ?_⟩, ?_, ?_, ?_⟩); all_goals (try assumption); all_goals omega) | ((with_reducible refine VC.mk ?_); (refine ⟨⟨?_, ?_⟩, ⟨?_, ?_⟩, ?_⟩); (omega); (omega); (omega); (omega); (intro j a ha; have := htt j a ha; omega)) | (with_reducible first | refine splitT ?_ | refine splitF ?_) | ((with_reducible refine splitM.mk (fun hsm => ?_) (fun hsm => ?_)) <;> (try exact zx)) | ((with_reducible refine splitB.mk (fun h => ?_) (fun h => ?_)) <;> (try simp only [zs, ne_eq] at h) <;> (try simp (disch := omega) only [w64] at h) <;> (try exact zx)) | (with_reducible intro hz; (try exact absurd hz (Nat.succ_ne_zero _)))))
set_option maxHeartbeats 1600000 in
theorem law_meetReports {y1 : Int × Int} (ho1 : ET.Ok (.prod (.int .i64) (.int .i64)) y1) {c2 : Bool} {n2 : Nat} {l2 : List (Int × Int)} (hn2 : n2 ≤ l2.length) (hc2 : c2 = true → l2 = []) (ho2 : ∀ y ∈ l2, ET.Ok (.prod (.int .i64) (.int .i64)) y) (hz2 : l2.length ≤ 9223372036854775807) {y3 : Int × Bool} (ho3 : ET.Ok (.prod (.int .i64) .bool) y3) {y4 : Int × Int} (ho4 : ET.Ok (.prod (.int .i64) (.int .i64)) y4) {c5 : Bool} {n5 : Nat} {l5 : List ThT} (hn5 : n5 ≤ l5.length) (hc5 : c5 = true → l5 = []) (ho5 : ∀ y ∈ l5, ET.Ok (.prod .str (.prod (.prod (.int .i64) (.int .i64)) (.prod (.int .i64) (.int .i64)))) y) (hz5 : l5.length ≤ 9223372036854775807) {c6 : Bool} {n6 : Nat} {l6 : List RpT} (hn6 : n6 ≤ l6.length) (hc6 : c6 = true → l6 = []) (ho6 : ∀ y ∈ l6, ET.Ok (.prod (.prod (.int .i64) (.prod (.prod (.int .i64) (.int .i64)) (.prod (.int .i64) (.int .i64)))) (.prod (.prod (.int .i64) (.int .i64)) (.prod (.prod (.int .i64) (.int .i64)) (.prod (.prod (.int .i64) (.int .i64)) (.prod (.prod (.int .i64) (.int .i64)) (.prod (.int .i64) (.int .i64))))))) y) (hz6 : l6.length ≤ 9223372036854775807) {y7 : Int} (ho7 : -9223372036854775808 ≤ y7 ∧ y7 ≤ 9223372036854775807) : RunsS Tryz.prog 6 [.agg [.int .i64 y1.1, .int .i64 y1.2, .opt c2 0 n2 0, .int .i64 y3.1, .bool y3.2, .int .i64 y4.1, .int .i64 y4.2, .opt c5 1 n5 0], .opt c6 2 n6 0, .int .i64 y7] [.arrO (.prod (.int .i64) (.int .i64)) l2 2, .arrO (.prod .str (.prod (.prod (.int .i64) (.int .i64)) (.prod (.int .i64) (.int .i64)))) l5 5, .arrO (.prod (.prod (.int .i64) (.prod (.prod (.int .i64) (.int .i64)) (.prod (.int .i64) (.int .i64)))) (.prod (.prod (.int .i64) (.int .i64)) (.prod (.prod (.int .i64) (.int .i64)) (.prod (.prod (.int .i64) (.int .i64)) (.prod (.prod (.int .i64) (.int .i64)) (.prod (.int .i64) (.int .i64))))))) l6 15] (.bool true) [.arrO (.prod (.int .i64) (.int .i64)) l2 2, .arrO (.prod .str (.prod (.prod (.int .i64) (.int .i64)) (.prod (.int .i64) (.int .i64)))) l5 5, .arrO (.prod (.prod (.int .i64) (.prod (.prod (.int .i64) (.int .i64)) (.prod (.int .i64) (.int .i64)))) (.prod (.prod (.int .i64) (.int .i64)) (.prod (.prod (.int .i64) (.int .i64)) (.prod (.prod (.int .i64) (.int .i64)) (.prod (.prod (.int .i64) (.int .i64)) (.prod (.int .i64) (.int .i64))))))) l6 15] := by
  have hL : (seg l2 0 n2).length = n2 := seg_len (by omega)
  have hM : (seg l5 0 n5).length = n5 := seg_len (by omega)
  have hb5 : ∀ (j : Nat) (a : ThT), l5[j]? = some a → a.1.length ≤ 9223372036854775807 := fun j a ha => (ho5 a (List.mem_of_getElem? ha)).1
  have hS : seg (seg l2 0 n2) 0 n2 = seg l2 0 n2 := seg_full hL
  have hT : seg (seg l5 0 n5) 0 n5 = seg l5 0 n5 := seg_full hM
  have htt : ∀ (j : Nat) (a : ThT), (seg l5 0 n5)[j]? = some a → a.1.length ≤ tot (fun a : ThT => a.1.length) (seg l5 0 n5) := fun j a ha => tot_at (f := fun a : ThT => a.1.length) ha
  have hN : (seg l6 0 n6).length = n6 := seg_len (by omega)
  obtain ⟨p, q, r, s, v, c, hR⟩ : ∃ (p q r s v c : Int), (s_meetI [.agg [.int .i64 y1.1, .int .i64 y1.2, .sl 0 0 n2 0, .int .i64 y3.1, .bool y3.2, .int .i64 y4.1, .int .i64 y4.2, .sl 1 0 n5 0], .sl 2 0 n6 0, .int .i64 y7] [.arr (.prod (.int .i64) (.int .i64)) (seg l2 0 n2) 2 true, .arr (.prod .str (.prod (.prod (.int .i64) (.int .i64)) (.prod (.int .i64) (.int .i64)))) (seg l5 0 n5) 5 true, .arr (.prod (.prod (.int .i64) (.prod (.prod (.int .i64) (.int .i64)) (.prod (.int .i64) (.int .i64)))) (.prod (.prod (.int .i64) (.int .i64)) (.prod (.prod (.int .i64) (.int .i64)) (.prod (.prod (.int .i64) (.int .i64)) (.prod (.prod (.int .i64) (.int .i64)) (.prod (.int .i64) (.int .i64))))))) (seg l6 0 n6) 15 true]).v = .tup [.agg [.int .i64 p, .int .i64 q, .int .i64 r, .int .i64 s], .int .i64 v, .int .i64 c] := ⟨_, _, _, _, _, _, rfl⟩
  refine funW tabOk (E := [(9, s_szBench), (19, s_szReportS), (11, s_toBench), (21, s_toReportS), (24, (pin s_meetI (.tup [.agg [.int .i64 p, .int .i64 q, .int .i64 r, .int .i64 s], .int .i64 v, .int .i64 c]))), (25, (pin s_meetI (.tup [.agg [.int .i64 p, .int .i64 q, .int .i64 r, .int .i64 s], .int .i64 v, .int .i64 c]))), (15, s_eqBench), (23, s_eqReportS), (26, s_eqSpan)]) ⟨ok_szBench, ok_szReportS, ok_toBench, ok_toReportS, (ok_pin ok_MeetReportsS _), (ok_pin ok_MeetReportsI _), ok_eqBench, ok_eqReportS, ok_eqSpan, trivial⟩ [(14, [(0, 1)])] (k := 3) (fn := Tryz.f6) rfl rfl rfl rfl rfl rfl ?_
  (repeat' ((try (conv => whnf)); first | (with_reducible first | refine And.intro ?_ ?_ | refine WX.of ?_) | exact zc | ((with_reducible refine VC.mk ?_); exact zw) | ((with_reducible refine VC.mk ?_); exact ⟨⟨⟨⟨by omega, by omega⟩, ⟨by omega, by omega⟩, fun j a ha => by have := htt j a ha; omega⟩, by omega, by omega⟩, hR, rfl⟩) | ((with_reducible refine VC.mk ?_); (refine ⟨?_, ?_, ⟨?_, ?_⟩, ?_, ?_⟩); (omega); (omega); (assumption); (assumption); (omega); (assumption)) | ((with_reducible refine VC.mk ?_); (refine ⟨⟨?_, ?_, ?_⟩, ?_, ?_, ?_⟩); all_goals (try assumption); all_goals omega) | ((with_reducible refine VC.mk ?_); (refine ⟨⟨?_, ?_⟩, ⟨?_, ?_⟩, ?_⟩); (omega); (omega); (omega); (omega); (intro j a ha; have := htt j a ha; omega)) | (with_reducible first | refine splitT ?_ | refine splitF ?_) | ((with_reducible refine splitM.mk (fun hsm => ?_) (fun hsm => ?_)) <;> (try exact zx)) | ((with_reducible refine splitB.mk (fun h => ?_) (fun h => ?_)) <;> (try simp only [zs, ne_eq] at h) <;> (try simp (disch := omega) only [w64] at h) <;> (try exact zx)) | (with_reducible intro hz; (try exact absurd hz (Nat.succ_ne_zero _)))))
  all_goals (simp at h)
set_option maxHeartbeats 1600000 in
theorem law_meanReport {y1 : Int × Int} (ho1 : ET.Ok (.prod (.int .i64) (.int .i64)) y1) {c2 : Bool} {n2 : Nat} {l2 : List (Int × Int)} (hn2 : n2 ≤ l2.length) (hc2 : c2 = true → l2 = []) (ho2 : ∀ y ∈ l2, ET.Ok (.prod (.int .i64) (.int .i64)) y) (hz2 : l2.length ≤ 9223372036854775807) {y3 : Int × Bool} (ho3 : ET.Ok (.prod (.int .i64) .bool) y3) {y4 : Int × Int} (ho4 : ET.Ok (.prod (.int .i64) (.int .i64)) y4) {c5 : Bool} {n5 : Nat} {l5 : List ThT} (hn5 : n5 ≤ l5.length) (hc5 : c5 = true → l5 = []) (ho5 : ∀ y ∈ l5, ET.Ok (.prod .str (.prod (.prod (.int .i64) (.int .i64)) (.prod (.int .i64) (.int .i64)))) y) (hz5 : l5.length ≤ 9223372036854775807) {c6 : Bool} {n6 : Nat} {l6 : List RpT} (hn6 : n6 ≤ l6.length) (hc6 : c6 = true → l6 = []) (ho6 : ∀ y ∈ l6, ET.Ok (.prod (.prod (.int .i64) (.prod (.prod (.int .i64) (.int .i64)) (.prod (.int .i64) (.int .i64)))) (.prod (.prod (.int .i64) (.int .i64)) (.prod (.prod (.int .i64) (.int .i64)) (.prod (.prod (.int .i64) (.int .i64)) (.prod (.prod (.int .i64) (.int .i64)) (.prod (.int .i64) (.int .i64))))))) y) (hz6 : l6.length ≤ 9223372036854775807) {y7 : Int} (ho7 : -9223372036854775808 ≤ y7 ∧ y7 ≤ 9223372036854775807) : RunsS Tryz.prog 7 [.agg [.int .i64 y1.1, .int .i64 y1.2, .opt c2 0 n2 0, .int .i64 y3.1, .bool y3.2, .int .i64 y4.1, .int .i64 y4.2, .opt c5 1 n5 0], .opt c6 2 n6 0, .int .i64 y7] [.arrO (.prod (.int .i64) (.int .i64)) l2 2, .arrO (.prod .str (.prod (.prod (.int .i64) (.int .i64)) (.prod (.int .i64) (.int .i64)))) l5 5, .arrO (.prod (.prod (.int .i64) (.prod (.prod (.int .i64) (.int .i64)) (.prod (.int .i64) (.int .i64)))) (.prod (.prod (.int .i64) (.int .i64)) (.prod (.prod (.int .i64) (.int .i64)) (.prod (.prod (.int .i64) (.int .i64)) (.prod (.prod (.int .i64) (.int .i64)) (.prod (.int .i64) (.int .i64))))))) l6 15] (.bool true) [.arrO (.prod (.int .i64) (.int .i64)) l2 2, .arrO (.prod .str (.prod (.prod (.int .i64) (.int .i64)) (.prod (.int .i64) (.int .i64)))) l5 5, .arrO (.prod (.prod (.int .i64) (.prod (.prod (.int .i64) (.int .i64)) (.prod (.int .i64) (.int .i64)))) (.prod (.prod (.int .i64) (.int .i64)) (.prod (.prod (.int .i64) (.int .i64)) (.prod (.prod (.int .i64) (.int .i64)) (.prod (.prod (.int .i64) (.int .i64)) (.prod (.int .i64) (.int .i64))))))) l6 15] := by
  have hL : (seg l2 0 n2).length = n2 := seg_len (by omega)
  have hM : (seg l5 0 n5).length = n5 := seg_len (by omega)
  have hb5 : ∀ (j : Nat) (a : ThT), l5[j]? = some a → a.1.length ≤ 9223372036854775807 := fun j a ha => (ho5 a (List.mem_of_getElem? ha)).1
  have hS : seg (seg l2 0 n2) 0 n2 = seg l2 0 n2 := seg_full hL
  have hT : seg (seg l5 0 n5) 0 n5 = seg l5 0 n5 := seg_full hM
  have htt : ∀ (j : Nat) (a : ThT), (seg l5 0 n5)[j]? = some a → a.1.length ≤ tot (fun a : ThT => a.1.length) (seg l5 0 n5) := fun j a ha => tot_at (f := fun a : ThT => a.1.length) ha
  have hN : (seg l6 0 n6).length = n6 := seg_len (by omega)
  obtain ⟨p, q, c, hR⟩ : ∃ (p q c : Int), (s_meanR [.agg [.int .i64 y1.1, .int .i64 y1.2, .sl 0 0 n2 0, .int .i64 y3.1, .bool y3.2, .int .i64 y4.1, .int .i64 y4.2, .sl 1 0 n5 0], .sl 2 0 n6 0, .int .i64 y7] [.arr (.prod (.int .i64) (.int .i64)) (seg l2 0 n2) 2 true, .arr (.prod .str (.prod (.prod (.int .i64) (.int .i64)) (.prod (.int .i64) (.int .i64)))) (seg l5 0 n5) 5 true, .arr (.prod (.prod (.int .i64) (.prod (.prod (.int .i64) (.int .i64)) (.prod (.int .i64) (.int .i64)))) (.prod (.prod (.int .i64) (.int .i64)) (.prod (.prod (.int .i64) (.int .i64)) (.prod (.prod (.int .i64) (.int .i64)) (.prod (.prod (.int .i64) (.int .i64)) (.prod (.int .i64) (.int .i64))))))) (seg l6 0 n6) 15 true]).v = .tup [.agg [.int .i64 p, .int .i64 q], .int .i64 c] := ⟨_, _, _, rfl⟩
  refine funW tabOk (E := [(9, s_szBench), (19, s_szReportS), (11, s_toBench), (21, s_toReportS), (27, (pin s_meanR (.tup [.agg [.int .i64 p, .int .i64 q], .int .i64 c]))), (28, (pin s_meanR (.tup [.agg [.int .i64 p, .int .i64 q], .int .i64 c]))), (15, s_eqBench), (23, s_eqReportS), (29, s_eqFrac)]) ⟨ok_szBench, ok_szReportS, ok_toBench, ok_toReportS, (ok_pin ok_MeanReportS _), (ok_pin ok_MeanReportI _), ok_eqBench, ok_eqReportS, ok_eqFrac, trivial⟩ [(14, [(0, 1)])] (k := 3) (fn := Tryz.f7) rfl rfl rfl rfl rfl rfl ?_
  (repeat' ((try (conv => whnf)); first | (with_reducible first | refine And.intro ?_ ?_ | refine WX.of ?_) | exact zc | ((with_reducible refine VC.mk ?_); exact zw) | ((with_reducible refine VC.mk ?_); exact ⟨⟨⟨⟨by omega, by omega⟩, ⟨by omega, by omega⟩, fun j a ha => by have := htt j a ha; omega⟩, by omega, by omega⟩, hR, rfl⟩) | ((with_reducible refine VC.mk ?_); (refine ⟨?_, ?_, ⟨?_, ?_⟩, ?_, ?_⟩); (omega); (omega); (assumption); (assumption); (omega); (assumption)) | ((with_reducible refine VC.mk ?_); (refine ⟨⟨?_, ?_, ?_⟩, ?_, ?_, ?_⟩); all_goals (try assumption); all_goals omega) | ((with_reducible refine VC.mk ?_); (refine ⟨⟨?_, ?_⟩, ⟨?_, ?_⟩, ?_⟩); (omega); (omega); (omega); (omega); (intro j a ha; have := htt j a ha; omega)) | (with_reducible first | refine splitT ?_ | refine splitF ?_) | ((with_reducible refine splitM.mk (fun hsm => ?_) (fun hsm => ?_)) <;> (try exact zx)) | ((with_reducible refine splitB.mk (fun h => ?_) (fun h => ?_)) <;> (try simp only [zs, ne_eq] at h) <;> (try simp (disch := omega) only [w64] at h) <;> (try exact zx)) | (with_reducible intro hz; (try exact absurd hz (Nat.succ_ne_zero _)))))
set_option maxHeartbeats 1600000 in
theorem law_isLonger {y1 : Int × Int} (ho1 : ET.Ok (.prod (.int .i64) (.int .i64)) y1) {c2 : Bool} {n2 : Nat} {l2 : List (Int × Int)} (hn2 : n2 ≤ l2.length) (hc2 : c2 = true → l2 = []) (ho2 : ∀ y ∈ l2, ET.Ok (.prod (.int .i64) (.int .i64)) y) (hz2 : l2.length ≤ 9223372036854775807) {y3 : Int × Bool} (ho3 : ET.Ok (.prod (.int .i64) .bool) y3) {y4 : Int × Int} (ho4 : ET.Ok (.prod (.int .i64) (.int .i64)) y4) {c5 : Bool} {n5 : Nat} {l5 : List ThT} (hn5 : n5 ≤ l5.length) (hc5 : c5 = true → l5 = []) (ho5 : ∀ y ∈ l5, ET.Ok (.prod .str (.prod (.prod (.int .i64) (.int .i64)) (.prod (.int .i64) (.int .i64)))) y) (hz5 : l5.length ≤ 9223372036854775807) {c6 : Bool} {n6 : Nat} {l6 : List RpT} (hn6 : n6 ≤ l6.length) (hc6 : c6 = true → l6 = []) (ho6 : ∀ y ∈ l6, ET.Ok (.prod (.prod (.int .i64) (.prod (.prod (.int .i64) (.int .i64)) (.prod (.int .i64) (.int .i64)))) (.prod (.prod (.int .i64) (.int .i64)) (.prod (.prod (.int .i64) (.int .i64)) (.prod (.prod (.int .i64) (.int .i64)) (.prod (.prod (.int .i64) (.int .i64)) (.prod (.int .i64) (.int .i64))))))) y) (hz6 : l6.length ≤ 9223372036854775807) {y7 : Int} (ho7 : -9223372036854775808 ≤ y7 ∧ y7 ≤ 9223372036854775807) {y8 : Int} (ho8 : -9223372036854775808 ≤ y8 ∧ y8 ≤ 9223372036854775807) : RunsS Tryz.prog 8 [.agg [.int .i64 y1.1, .int .i64 y1.2, .opt c2 0 n2 0, .int .i64 y3.1, .bool y3.2, .int .i64 y4.1, .int .i64 y4.2, .opt c5 1 n5 0], .opt c6 2 n6 0, .int .i64 y7, .int .i64 y8] [.arrO (.prod (.int .i64) (.int .i64)) l2 2, .arrO (.prod .str (.prod (.prod (.int .i64) (.int .i64)) (.prod (.int .i64) (.int .i64)))) l5 5, .arrO (.prod (.prod (.int .i64) (.prod (.prod (.int .i64) (.int .i64)) (.prod (.int .i64) (.int .i64)))) (.prod (.prod (.int .i64) (.int .i64)) (.prod (.prod (.int .i64) (.int .i64)) (.prod (.prod (.int .i64) (.int .i64)) (.prod (.prod (.int .i64) (.int .i64)) (.prod (.int .i64) (.int .i64))))))) l6 15] (.bool true) [.arrO (.prod (.int .i64) (.int .i64)) l2 2, .arrO (.prod .str (.prod (.prod (.int .i64) (.int .i64)) (.prod (.int .i64) (.int .i64)))) l5 5, .arrO (.prod (.prod (.int .i64) (.prod (.prod (.int .i64) (.int .i64)) (.prod (.int .i64) (.int .i64)))) (.prod (.prod (.int .i64) (.int .i64)) (.prod (.prod (.int .i64) (.int .i64)) (.prod (.prod (.int .i64) (.int .i64)) (.prod (.prod (.int .i64) (.int .i64)) (.prod (.int .i64) (.int .i64))))))) l6 15] := by
  have hL : (seg l2 0 n2).length = n2 := seg_len (by omega)
  have hM : (seg l5 0 n5).length = n5 := seg_len (by omega)
  have hb5 : ∀ (j : Nat) (a : ThT), l5[j]? = some a → a.1.length ≤ 9223372036854775807 := fun j a ha => (ho5 a (List.mem_of_getElem? ha)).1
  have hS : seg (seg l2 0 n2) 0 n2 = seg l2 0 n2 := seg_full hL
  have hT : seg (seg l5 0 n5) 0 n5 = seg l5 0 n5 := seg_full hM
  have htt : ∀ (j : Nat) (a : ThT), (seg l5 0 n5)[j]? = some a → a.1.length ≤ tot (fun a : ThT => a.1.length) (seg l5 0 n5) := fun j a ha => tot_at (f := fun a : ThT => a.1.length) ha
  have hN : (seg l6 0 n6).length = n6 := seg_len (by omega)
  obtain ⟨b, c, hR⟩ : ∃ (b : Bool) (c : Int), (s_longer [.agg [.int .i64 y1.1, .int .i64 y1.2, .sl 0 0 n2 0, .int .i64 y3.1, .bool y3.2, .int .i64 y4.1, .int .i64 y4.2, .sl 1 0 n5 0], .sl 2 0 n6 0, .int .i64 y7, .int .i64 y8] [.arr (.prod (.int .i64) (.int .i64)) (seg l2 0 n2) 2 true, .arr (.prod .str (.prod (.prod (.int .i64) (.int .i64)) (.prod (.int .i64) (.int .i64)))) (seg l5 0 n5) 5 true, .arr (.prod (.prod (.int .i64) (.prod (.prod (.int .i64) (.int .i64)) (.prod (.int .i64) (.int .i64)))) (.prod (.prod (.int .i64) (.int .i64)) (.prod (.prod (.int .i64) (.int .i64)) (.prod (.prod (.int .i64) (.int .i64)) (.prod (.prod (.int .i64) (.int .i64)) (.prod (.int .i64) (.int .i64))))))) (seg l6 0 n6) 15 true]).v = .tup [.bool b, .int .i64 c] := ⟨_, _, rfl⟩
  refine funW tabOk (E := [(9, s_szBench), (19, s_szReportS), (11, s_toBench), (21, s_toReportS), (30, (pin s_longer (.tup [.bool b, .int .i64 c]))), (31, (pin s_longer (.tup [.bool b, .int .i64 c]))), (15, s_eqBench), (23, s_eqReportS)]) ⟨ok_szBench, ok_szReportS, ok_toBench, ok_toReportS, (ok_pin ok_IsLongerS _), (ok_pin ok_IsLongerI _), ok_eqBench, ok_eqReportS, trivial⟩ [(14, [(0, 1)])] (k := 3) (fn := Tryz.f8) rfl rfl rfl rfl rfl rfl ?_
  (repeat' ((try (conv => whnf)); first | (with_reducible first | refine And.intro ?_ ?_ | refine WX.of ?_) | exact zc | ((with_reducible refine VC.mk ?_); exact zw) | ((with_reducible refine VC.mk ?_); exact ⟨⟨⟨⟨by omega, by omega⟩, ⟨by omega, by omega⟩, fun j a ha => by have := htt j a ha; omega⟩, by omega, by omega⟩, hR, rfl⟩) | ((with_reducible refine VC.mk ?_); (refine ⟨?_, ?_, ⟨?_, ?_⟩, ?_, ?_⟩); (omega); (omega); (assumption); (assumption); (omega); (assumption)) | ((with_reducible refine VC.mk ?_); (refine ⟨⟨?_, ?_, ?_⟩, ?_, ?_, ?_⟩); all_goals (try assumption); all_goals omega) | ((with_reducible refine VC.mk ?_); (refine ⟨⟨?_, ?_⟩, ⟨?_, ?_⟩, ?_⟩); (omega); (omega); (omega); (omega); (intro j a ha; have := htt j a ha; omega)) | (with_reducible first | refine splitT ?_ | refine splitF ?_) | ((with_reducible refine splitM.mk (fun hsm => ?_) (fun hsm => ?_)) <;> (try exact zx)) | ((with_reducible refine splitB.mk (fun h => ?_) (fun h => ?_)) <;> (try simp only [zs, ne_eq] at h) <;> (try simp (disch := omega) only [w64] at h) <;> (try exact zx)) | (with_reducible intro hz; (try exact absurd hz (Nat.succ_ne_zero _)))))
end Go.Proofs.YtbmejhabgoimeaaGreat.Eng
