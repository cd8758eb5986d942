/- Lemmas for the proof, no conditions of their own. -/
import Derived.Test.YtghafpklomnhlaaQA3
set_option linter.unusedVariables false
set_option linter.unusedSimpArgs false
namespace Go.Proofs.Ytghafpklomnhlaa.Eng
open Go Go.RowKit
set_option maxRecDepth 100000
theorem codL_o {c : Bool} {b n : Nat} {l : List Int} : codL (.opt c b n 0) (.arrO (.int .u8) l 1) = seg l 0 n := rfl
theorem codL_s {b s n x : Nat} {l : List Int} {wr : Bool} : codL (.sl b s n x) (.arr (.int .u8) l 1 wr) = seg l s n := rfl
/-- Reducing what gives a valid fraction. -/
def s_redT : Spec := fun args S => match args, S with
  | [.int .i64 p, .int .i64 q], [] => ⟨(q ≠ 0 ∧ (-9223372036854775807 ≤ p ∧ p ≤ 9223372036854775807) ∧ (-9223372036854775807 ≤ q ∧ q ≤ 9223372036854775807)) ∧ redOk p q = true, .tup [.agg [.int .i64 (redP p q), .int .i64 (redQ p q)], .int .i64 0], []⟩
  | _, _ => noSpec
theorem ok_redT : SpecOk Try.prog 57 s_redT := by
  intro args S h; unfold s_redT at h ⊢; (split at h <;> first | exact False.elim h | skip)
  dsimp only at h ⊢
  rename_i p q
  have := ok_l01Reduced [.int .i64 p, .int .i64 q] [] h.1
  simp only [s_red, h.2, if_true] at this
  exact this
theorem w16 {n : Int} (h : -32768 ≤ n ∧ n ≤ 32767) : IntKind.i16.wrap n = n := by
  simp [IntKind.wrap, IntKind.signed, IntKind.bits]
  omega
/-- A drawn value. -/
def vaP (L : List Int) : Int := pickV L 0 401 - 100
def vaD (L : List Int) : Int := amV L 2 [1, 1, 2, 4, 5]
def s_a2v : Spec := fun args S => match args, S with
  | [cv], [rb] => ⟨codP 0 cv rb, .agg [.int .i64 (redP (vaP (codL cv rb)) (vaD (codL cv rb))), .int .i64 (redQ (vaP (codL cv rb)) (vaD (codL cv rb)))], [rb]⟩
  | _, _ => noSpec
theorem amV_in {L : List Int} (h : ∀ a ∈ L, 0 ≤ a ∧ a ≤ (255 : Int)) (t : Int) {l : List Int} (hl : 1 ≤ l.length) : amV L t l ∈ l := by
  obtain ⟨a, ha⟩ := pick_at h t hl
  unfold amV; rw [ha]; exact List.mem_of_getElem? ha
theorem vaP_b {L : List Int} (h : ∀ a ∈ L, 0 ≤ a ∧ a ≤ (255 : Int)) : -100 ≤ vaP L ∧ vaP L ≤ 300 := by
  have := pickV_b h 0 401
  have h2 := this.2 (by omega)
  unfold vaP; omega
theorem vaD_b {L : List Int} (h : ∀ a ∈ L, 0 ≤ a ∧ a ≤ (255 : Int)) : 1 ≤ vaD L ∧ vaD L ≤ 5 := by
  have := amV_in h 2 (l := [1, 1, 2, 4, 5]) (by decide)
  unfold vaD
  generalize amV L 2 [1, 1, 2, 4, 5] = y at *
  simp at this; omega
theorem ok_A2Value : SpecOk Try.prog 17 s_a2v := by
  intro args S h; unfold s_a2v at h ⊢; (split at h <;> first | exact False.elim h | skip)
  dsimp only at h ⊢
  rename_i cv rb
  have hb := cod_b h
  have hP := vaP_b hb
  have hD := vaD_b hb
  have ho := redOk_small (p := vaP (codL cv rb)) (q := vaD (codL cv rb)) (by omega) (by omega)
  have hpb := pickV_b hb 0 401
  have hp2 := hpb.2 (by omega)
  have ha : pickA 0 401 = 2 := rfl
  have hvp : IntKind.i64.wrap (pickV (codL cv rb) 0 401 - 100) = vaP (codL cv rb) := w64 (by omega)
  have hvd : amV (codL cv rb) 2 [1, 1, 2, 4, 5] = vaD (codL cv rb) := rfl
  have hne : vaD (codL cv rb) ≠ 0 := by omega
  have hrd : (amV (codL cv rb) (pickA 0 401) [1, 1, 2, 4, 5] ≠ 0 ∧ (-9223372036854775807 ≤ IntKind.i64.wrap (pickV (codL cv rb) 0 401 - 100) ∧ IntKind.i64.wrap (pickV (codL cv rb) 0 401 - 100) ≤ 9223372036854775807) ∧ (-9223372036854775807 ≤ amV (codL cv rb) (pickA 0 401) [1, 1, 2, 4, 5] ∧ amV (codL cv rb) (pickA 0 401) [1, 1, 2, 4, 5] ≤ 9223372036854775807)) ∧ redOk (IntKind.i64.wrap (pickV (codL cv rb) 0 401 - 100)) (amV (codL cv rb) (pickA 0 401) [1, 1, 2, 4, 5]) = true := by
    rw [ha, hvp, hvd]
    exact ⟨⟨hne, by omega, by omega⟩, ho⟩
  rcases codP_c h with ⟨c, m, q, rfl, rfl, e, h3⟩ | ⟨s, m, y, q, wq, rfl, rfl, e, h3⟩
  · simp only [codL_o, codL_s] at *
    refine funW tabOk (E := [(55, s_from), (56, s_pick), (58, s_among), (57, s_redT)]) ⟨ok_from, ok_pick, ok_among, ok_redT, trivial⟩ [] (k := 1) (fn := Try.f17) rfl rfl rfl rfl rfl rfl ?_
    (repeat' ((try (conv => whnf)); first | (with_reducible first | refine And.intro ?_ ?_ | refine WX.of ?_) | exact zc | ((with_reducible refine VC.mk ?_); exact zw) | ((with_reducible refine VC.mk ?_); exact ⟨rfl, h3⟩) | ((with_reducible refine VC.mk ?_); exact ⟨⟨⟨⟨rfl, h3⟩, by omega, rfl⟩, by omega⟩, by omega⟩) | ((with_reducible refine VC.mk ?_); exact ⟨⟨⟨⟨rfl, h3⟩, by decide, rfl⟩, by decide⟩, rfl, by omega, by omega⟩) | ((with_reducible refine VC.mk ?_); exact ⟨hne, by dsimp only [codL_o, codL_s]; rw [hvp]; omega, by dsimp only [codL_o, codL_s]; rw [ha, hvd]; omega⟩) | (with_reducible first | refine splitT ?_ | refine splitF ?_) | ((with_reducible refine splitM.mk (fun hsm => ?_) (fun hsm => ?_)) <;> (try exact zx)) | ((with_reducible refine splitB.mk (fun h => ?_) (fun h => ?_)) <;> (try simp only [zs, ne_eq] at h) <;> (try simp (disch := omega) only [w64] at h) <;> (try exact zx)) | (with_reducible intro hz; (try exact absurd hz (Nat.succ_ne_zero _)))))
    refine ⟨?_⟩
    dsimp only [codL_o, codL_s]
    rw [ha, hvp, hvd]
  · simp only [codL_o, codL_s] at *
    refine funW tabOk (E := [(55, s_from), (56, s_pick), (58, s_among), (57, s_redT)]) ⟨ok_from, ok_pick, ok_among, ok_redT, trivial⟩ [] (k := 1) (fn := Try.f17) rfl rfl rfl rfl rfl rfl ?_
    (repeat' ((try (conv => whnf)); first | (with_reducible first | refine And.intro ?_ ?_ | refine WX.of ?_) | exact zc | ((with_reducible refine VC.mk ?_); exact zw) | ((with_reducible refine VC.mk ?_); exact ⟨rfl, h3⟩) | ((with_reducible refine VC.mk ?_); exact ⟨⟨⟨⟨rfl, h3⟩, by omega, rfl⟩, by omega⟩, by omega⟩) | ((with_reducible refine VC.mk ?_); exact ⟨⟨⟨⟨rfl, h3⟩, by decide, rfl⟩, by decide⟩, rfl, by omega, by omega⟩) | ((with_reducible refine VC.mk ?_); exact ⟨hne, by dsimp only [codL_o, codL_s]; rw [hvp]; omega, by dsimp only [codL_o, codL_s]; rw [ha, hvd]; omega⟩) | (with_reducible first | refine splitT ?_ | refine splitF ?_) | ((with_reducible refine splitM.mk (fun hsm => ?_) (fun hsm => ?_)) <;> (try exact zx)) | ((with_reducible refine splitB.mk (fun h => ?_) (fun h => ?_)) <;> (try simp only [zs, ne_eq] at h) <;> (try simp (disch := omega) only [w64] at h) <;> (try exact zx)) | (with_reducible intro hz; (try exact absurd hz (Nat.succ_ne_zero _)))))
    refine ⟨?_⟩
    dsimp only [codL_o, codL_s]
    rw [ha, hvp, hvd]
/-- A drawn reader. -/
def drN (L : List Int) : List UInt8 := txV L 0 [[97, 110, 110], [98, 111, 98], [99, 97, 105], [100, 101, 101]]
def drU (L : List Int) : Int := amV L 1 [1, 1, 2, 5, 10, 20, 3]
def drB (L : List Int) : Int := pickV L 2 9 - 4
def drUp (L : List Int) : Bool := decide (pickV L 3 2 = 0)
def s_a2r : Spec := fun args S => match args, S with
  | [cv], [rb] => ⟨codP 0 cv rb, .agg [.str (drN (codL cv rb)), .int .i16 (drB (codL cv rb)), .int .i16 (drU (codL cv rb)), .bool (drUp (codL cv rb))], [rb]⟩
  | _, _ => noSpec
theorem drU_b {L : List Int} (h : ∀ a ∈ L, 0 ≤ a ∧ a ≤ (255 : Int)) : 1 ≤ drU L ∧ drU L ≤ 20 := by
  have := amV_in h 1 (l := [1, 1, 2, 5, 10, 20, 3]) (by decide)
  unfold drU
  generalize amV L 1 [1, 1, 2, 5, 10, 20, 3] = y at *
  simp at this; omega
theorem drB_b {L : List Int} (h : ∀ a ∈ L, 0 ≤ a ∧ a ≤ (255 : Int)) : -4 ≤ drB L ∧ drB L ≤ 4 := by
  have := pickV_b h 2 9
  have h2 := this.2 (by omega)
  unfold drB; omega
def s_l06Drawn : Spec := fun args S => match args, S with
  | [.ptr 0 0 0], [.box [cv, .int .i64 t, .int .u64 sd] true false, rb] => ⟨codP 1 cv rb ∧ t = 0 ∧ sd = 0, .agg [.str (drN (codL cv rb)), .int .i16 (drB (codL cv rb)), .int .i16 (drU (codL cv rb)), .bool (drUp (codL cv rb))], [.box [cv, .int .i64 4, .int .u64 (sdI (codL cv rb) 4)] true false, rb]⟩
  | _, _ => noSpec
theorem ok_l06Drawn : SpecOk Try.prog 59 s_l06Drawn := by
  intro args S h; unfold s_l06Drawn at h ⊢; (split at h <;> first | exact False.elim h | skip)
  dsimp only at h ⊢
  rename_i cv t sd rb
  obtain ⟨hc, rfl, rfl⟩ := h
  have hb := cod_b hc
  have hU := drU_b hb
  have hB := drB_b hb
  have hpb := pickV_b hb 2 9
  have hp2 := hpb.2 (by omega)
  have fin : ∀ (x : List UInt8) (b : Bool) (u : Int), SV.agg [.str (txV (codL cv rb) 0 [[97, 110, 110], [98, 111, 98], [99, 97, 105], [100, 101, 101]]), .int .i16 (IntKind.i16.wrap (IntKind.i64.wrap (pickV (codL cv rb) 2 9 - 4))), .int .i16 (IntKind.i16.wrap (amV (codL cv rb) 1 [1, 1, 2, 5, 10, 20, 3])), .bool (decide (pickV (codL cv rb) 3 2 = 0))] = .agg [.str (drN (codL cv rb)), .int .i16 (drB (codL cv rb)), .int .i16 (drU (codL cv rb)), .bool (drUp (codL cv rb))] := fun _ _ _ => by
    have e1 : IntKind.i64.wrap (pickV (codL cv rb) 2 9 - 4) = drB (codL cv rb) := w64 (by omega)
    have e2 : amV (codL cv rb) 1 [1, 1, 2, 5, 10, 20, 3] = drU (codL cv rb) := rfl
    rw [e1, e2, w16 (by omega), w16 (by omega)]
    rfl
  rcases codP_c hc with ⟨c, m, q, rfl, rfl, e, h3⟩ | ⟨s, m, y, q, wq, rfl, rfl, e, h3⟩
  · simp only [codL_o, codL_s] at *
    refine funW tabOk (E := [(118, s_text), (56, s_pick), (58, s_among), (119, s_oneS)]) ⟨ok_textS, ok_pick, ok_among, ok_oneS, trivial⟩ [] (k := 2) (fn := Try.f59) rfl rfl rfl rfl rfl rfl ?_
    (repeat' ((try (conv => whnf)); first | (with_reducible first | refine And.intro ?_ ?_ | refine WX.of ?_) | exact zc | ((with_reducible refine VC.mk ?_); exact zw) | ((with_reducible refine VC.mk ?_); exact ⟨⟨⟨⟨rfl, h3⟩, by decide, rfl⟩, by decide⟩, rfl, by omega, by omega⟩) | ((with_reducible refine VC.mk ?_); exact ⟨⟨⟨⟨rfl, h3⟩, by decide, rfl⟩, by decide⟩, by omega⟩) | (with_reducible first | refine splitT ?_ | refine splitF ?_) | ((with_reducible refine splitM.mk (fun hsm => ?_) (fun hsm => ?_)) <;> (try exact zx)) | ((with_reducible refine splitB.mk (fun h => ?_) (fun h => ?_)) <;> (try simp only [zs, ne_eq] at h) <;> (try simp (disch := omega) only [w64] at h) <;> (try exact zx)) | (with_reducible intro hz; (try exact absurd hz (Nat.succ_ne_zero _)))))
    exact VC.mk (fin [] true 0)
  · simp only [codL_o, codL_s] at *
    refine funW tabOk (E := [(118, s_text), (56, s_pick), (58, s_among), (119, s_oneS)]) ⟨ok_textS, ok_pick, ok_among, ok_oneS, trivial⟩ [] (k := 2) (fn := Try.f59) rfl rfl rfl rfl rfl rfl ?_
    (repeat' ((try (conv => whnf)); first | (with_reducible first | refine And.intro ?_ ?_ | refine WX.of ?_) | exact zc | ((with_reducible refine VC.mk ?_); exact zw) | ((with_reducible refine VC.mk ?_); exact ⟨⟨⟨⟨rfl, h3⟩, by decide, rfl⟩, by decide⟩, rfl, by omega, by omega⟩) | ((with_reducible refine VC.mk ?_); exact ⟨⟨⟨⟨rfl, h3⟩, by decide, rfl⟩, by decide⟩, by omega⟩) | (with_reducible first | refine splitT ?_ | refine splitF ?_) | ((with_reducible refine splitM.mk (fun hsm => ?_) (fun hsm => ?_)) <;> (try exact zx)) | ((with_reducible refine splitB.mk (fun h => ?_) (fun h => ?_)) <;> (try simp only [zs, ne_eq] at h) <;> (try simp (disch := omega) only [w64] at h) <;> (try exact zx)) | (with_reducible intro hz; (try exact absurd hz (Nat.succ_ne_zero _)))))
    exact VC.mk (fin [] true 0)
theorem ok_A2Reader : SpecOk Try.prog 19 s_a2r := by
  intro args S h; unfold s_a2r at h ⊢; (split at h <;> first | exact False.elim h | skip)
  dsimp only at h ⊢
  rename_i cv rb
  rcases codP_c h with ⟨c, m, q, rfl, rfl, e, h3⟩ | ⟨s, m, y, q, wq, rfl, rfl, e, h3⟩
  · refine funW tabOk (E := [(55, s_from), (59, s_l06Drawn)]) ⟨ok_from, ok_l06Drawn, trivial⟩ [] (k := 1) (fn := Try.f19) rfl rfl rfl rfl rfl rfl ?_
    (repeat' ((try (conv => whnf)); first | (with_reducible first | refine And.intro ?_ ?_ | refine WX.of ?_) | exact zc | ((with_reducible refine VC.mk ?_); exact zw) | ((with_reducible refine VC.mk ?_); exact ⟨rfl, h3⟩) | ((with_reducible refine VC.mk ?_); exact ⟨⟨rfl, h3⟩, rfl, rfl⟩) | (with_reducible first | refine splitT ?_ | refine splitF ?_) | ((with_reducible refine splitM.mk (fun hsm => ?_) (fun hsm => ?_)) <;> (try exact zx)) | ((with_reducible refine splitB.mk (fun h => ?_) (fun h => ?_)) <;> (try simp only [zs, ne_eq] at h) <;> (try simp (disch := omega) only [w64] at h) <;> (try exact zx)) | (with_reducible intro hz; (try exact absurd hz (Nat.succ_ne_zero _)))))
  · refine funW tabOk (E := [(55, s_from), (59, s_l06Drawn)]) ⟨ok_from, ok_l06Drawn, trivial⟩ [] (k := 1) (fn := Try.f19) rfl rfl rfl rfl rfl rfl ?_
    (repeat' ((try (conv => whnf)); first | (with_reducible first | refine And.intro ?_ ?_ | refine WX.of ?_) | exact zc | ((with_reducible refine VC.mk ?_); exact zw) | ((with_reducible refine VC.mk ?_); exact ⟨rfl, h3⟩) | ((with_reducible refine VC.mk ?_); exact ⟨⟨rfl, h3⟩, rfl, rfl⟩) | (with_reducible first | refine splitT ?_ | refine splitF ?_) | ((with_reducible refine splitM.mk (fun hsm => ?_) (fun hsm => ?_)) <;> (try exact zx)) | ((with_reducible refine splitB.mk (fun h => ?_) (fun h => ?_)) <;> (try simp only [zs, ne_eq] at h) <;> (try simp (disch := omega) only [w64] at h) <;> (try exact zx)) | (with_reducible intro hz; (try exact absurd hz (Nat.succ_ne_zero _)))))
end Go.Proofs.Ytghafpklomnhlaa.Eng
set_option linter.unusedVariables false
set_option linter.unusedSimpArgs false
namespace Go.Proofs.Ytghafpklomnhlaa.Eng
open Go Go.RowKit
set_option maxRecDepth 100000
/-- Spans of halves. -/
def hS (a : Int × Int) : SpT := (hal a.1, hal a.2)
def mtH (W : List (Int × Int)) : Nat → Option (Int × Int)
  | 0 => W[0]?
  | i + 1 => match mtH W i, W[i]? with
    | some s, some a => if max s.1 a.1 ≤ min s.2 a.2 then some (max s.1 a.1, min s.2 a.2) else none
    | _, _ => none
theorem hal_le (a b : Int) : (hal a).1 * (hal b).2 ≤ (hal b).1 * (hal a).2 ↔ a ≤ b := by
  have := hal_lt b a
  constructor
  · intro h; apply Classical.byContradiction; intro h2; have := this.2 (by omega); omega
  · intro h; apply Classical.byContradiction; intro h2; have := this.1 (by omega); omega
theorem mtS_h (s a : Int × Int) : mtS (hS s) (hS a) = hS (max s.1 a.1, min s.2 a.2) := by
  unfold mtS hS
  dsimp only
  have e1 : moF (hal s.1).1 (hal s.1).2 (hal a.1).1 (hal a.1).2 = hal (max s.1 a.1) := by
    unfold moF
    by_cases h : a.1 ≤ s.1
    · rw [if_pos ((hal_le _ _).2 h), Int.max_eq_left h]
    · rw [if_neg (fun h2 => h ((hal_le _ _).1 h2)), Int.max_eq_right (by omega)]
  have e2 : leF (hal s.2).1 (hal s.2).2 (hal a.2).1 (hal a.2).2 = hal (min s.2 a.2) := by
    unfold leF
    by_cases h : s.2 ≤ a.2
    · rw [if_pos ((hal_le _ _).2 h), Int.min_eq_left h]
    · rw [if_neg (fun h2 => h ((hal_le _ _).1 h2)), Int.min_eq_right (by omega)]
  rw [e1, e2]
theorem mtOk_h (s a : Int × Int) : mtOk (hS s) (hS a) = decide (max s.1 a.1 ≤ min s.2 a.2) := by
  unfold mtOk
  rw [mtS_h]
  unfold hS
  dsimp only
  rw [Bool.eq_iff_iff, decide_eq_true_iff, decide_eq_true_iff, hal_le]
theorem mtN_h (W : List (Int × Int)) : ∀ (i : Nat), mtN (W.map hS) i = (mtH W i).map hS
  | 0 => by unfold mtN mtH; rw [List.getElem?_map]
  | i + 1 => by
    unfold mtN mtH
    rw [mtN_h W i, List.getElem?_map]
    cases mtH W i with
    | none => rfl
    | some s =>
      cases W[i]? with
      | none => rfl
      | some a =>
        simp only [Option.map_some]
        rw [mtOk_h, mtS_h]
        by_cases h : max s.1 a.1 ≤ min s.2 a.2
        · rw [if_pos (decide_eq_true h), if_pos h]; rfl
        · rw [if_neg (by simpa using h), if_neg h]; rfl
theorem mtH_in {W : List (Int × Int)} {p q : Int} (hq : 0 < q) (h : ∀ a ∈ W, a.1 * q ≤ 2 * p ∧ 2 * p ≤ a.2 * q) (h0 : 0 < W.length) : ∀ (i : Nat), i ≤ W.length → ∃ s, mtH W i = some s ∧ (s.1 * q ≤ 2 * p ∧ 2 * p ≤ s.2 * q) ∧ ∀ (j : Nat) a, (j < i ∨ j = 0) → W[j]? = some a → a.1 ≤ s.1 ∧ s.2 ≤ a.2
  | 0, _ => by
    obtain ⟨a, ha⟩ := get_some (l := W) (i := 0) h0
    refine ⟨a, ha, h a (List.mem_of_getElem? ha), fun j b hj hb => ?_⟩
    obtain rfl : j = 0 := by omega
    rw [ha] at hb; obtain rfl := Option.some.inj hb
    exact ⟨Int.le_refl _, Int.le_refl _⟩
  | i + 1, hi => by
    obtain ⟨s, h1, h2, h3⟩ := mtH_in hq h h0 i (by omega)
    obtain ⟨a, ha⟩ := get_some (l := W) (i := i) (by omega)
    have hin := h a (List.mem_of_getElem? ha)
    have hm : max s.1 a.1 * q ≤ 2 * p := by
      rcases Int.max_def s.1 a.1 with e
      rw [e]; split <;> omega
    have hn : 2 * p ≤ min s.2 a.2 * q := by
      rcases Int.min_def s.2 a.2 with e
      rw [e]; split <;> omega
    have hle : max s.1 a.1 ≤ min s.2 a.2 := by
      apply Int.le_of_mul_le_mul_right (Int.le_trans hm hn) hq
    refine ⟨(max s.1 a.1, min s.2 a.2), ?_, ⟨hm, hn⟩, fun j b hj hb => ?_⟩
    · unfold mtH; rw [h1, ha]; simp only; rw [if_pos hle]
    · dsimp only
      by_cases e : j = i
      · subst e; rw [ha] at hb; obtain rfl := Option.some.inj hb; omega
      · have := h3 j b (by omega) hb; omega
def vfH (R : List RdT) (L : List Int) : List (Int × Int) := (R.zip L).map fun x => (loN x.1.2.1 x.1.2.2.1 x.2, hiN x.1.2.1 x.1.2.2.1 x.2)
theorem vfW_h (R : List RdT) (L : List Int) : vfW R L = (vfH R L).map hS := by unfold vfW vfH; rw [List.map_map]; rfl
theorem rdN_mod {b u p q : Int} {up : Bool} : ∃ k, rdN b u up p q = u * k := by
  unfold rdN
  split
  · exact ⟨_, rfl⟩
  · exact ⟨-((u * q - 2 * (p + b * q)) / (2 * (u * q))), by rw [Int.neg_mul, Int.mul_neg]⟩
/-- What a reader reads of a small value is small. -/
theorem rdN_small {b u p q : Int} {up : Bool} (hu : 1 ≤ u ∧ u ≤ 20) (hb : -4 ≤ b ∧ b ≤ 4) (hq : 1 ≤ q) (hp : -100 * q ≤ p ∧ p ≤ 300 * q) : -400 ≤ rdN b u up p q ∧ rdN b u up p q ≤ 400 := by
  have h := rd_in (b := b) (u := u) (p := p) (q := q) (up := up) hu.1 hq
  generalize rdN b u up p q = n at *
  unfold loN hiN at h
  have h1 : (2 * (n - b) - u) * q ≤ 600 * q := by omega
  have h2 : (-200) * q ≤ (2 * (n - b) + u) * q := by omega
  have h3 := Int.le_of_mul_le_mul_right h1 (by omega)
  have h4 := Int.le_of_mul_le_mul_right h2 (by omega)
  omega
/-- A reader that is drawn, and a value. -/
def drR (L : List Int) : RdT := (drN L, drB L, drU L, drUp L)
theorem drN_w {L : List Int} (h : ∀ a ∈ L, 0 ≤ a ∧ a ≤ (255 : Int)) : wordB (drN L) = true := by
  obtain ⟨a, ha⟩ := pick_at h 0 (l := ([[97, 110, 110], [98, 111, 98], [99, 97, 105], [100, 101, 101]] : List (List UInt8))) (by decide)
  have e : drN L = a := by unfold drN txV; rw [ha]; rfl
  rw [e]
  have hm := List.mem_of_getElem? ha
  simp only [List.mem_cons, List.not_mem_nil, or_false] at hm
  rcases hm with rfl | rfl | rfl | rfl <;> decide
theorem drR_ok {L : List Int} (h : ∀ a ∈ L, 0 ≤ a ∧ a ≤ (255 : Int)) : rdrOk (drR L) = true ∧ rdrGood (drR L) ∧ (-4 ≤ drB L ∧ drB L ≤ 4) ∧ (1 ≤ drU L ∧ drU L ≤ 20) := by
  have h1 := drN_w h
  have h2 := drB_b h
  have h3 := drU_b h
  refine ⟨?_, ?_, h2, h3⟩
  · unfold rdrOk drR rdrB
    dsimp only
    rw [h1, Bool.true_and, gB_iff]
    unfold gB; omega
  · unfold rdrGood drR
    dsimp only
    have : (drN L).length ≤ 12 := by
      unfold wordB at h1
      rw [Bool.and_eq_true, decide_eq_true_iff] at h1
      exact h1.1.2
    omega
theorem va_ok {L : List Int} (h : ∀ a ∈ L, 0 ≤ a ∧ a ≤ (255 : Int)) : fOk (redP (vaP L) (vaD L)) (redQ (vaP L) (vaD L)) = true ∧ -100 * redQ (vaP L) (vaD L) ≤ redP (vaP L) (vaD L) ∧ redP (vaP L) (vaD L) ≤ 300 * redQ (vaP L) (vaD L) := by
  have hP := vaP_b h
  have hD := vaD_b h
  have ho := redOk_small (p := vaP L) (q := vaD L) (by omega) (by omega)
  have hx := red_x (p := vaP L) (q := vaD L) (by omega)
  have hq := redQ_pos (p := vaP L) (q := vaD L) (by omega)
  refine ⟨ho, ?_⟩
  generalize redP (vaP L) (vaD L) = P at *
  generalize redQ (vaP L) (vaD L) = Q at *
  generalize vaP L = p at *
  generalize vaD L = d at *
  have h1 : P * d ≤ 300 * Q := by rw [hx]; exact Int.mul_le_mul_of_nonneg_right hP.2 (by omega)
  have h2 : -100 * Q ≤ P * d := by rw [hx]; exact Int.mul_le_mul_of_nonneg_right hP.1 (by omega)
  constructor
  · apply Classical.byContradiction
    intro hc
    have : P * d ≤ P * 1 := Int.mul_le_mul_of_nonpos_left (by omega) (by omega)
    omega
  · apply Classical.byContradiction
    intro hc
    have : P * 1 ≤ P * d := Int.mul_le_mul_of_nonneg_left (by omega) (by omega)
    omega
end Go.Proofs.Ytghafpklomnhlaa.Eng
set_option linter.unusedVariables false
set_option linter.unusedSimpArgs false
namespace Go.Proofs.Ytghafpklomnhlaa.Eng
open Go Go.RowKit
set_option maxRecDepth 100000
theorem vfH_len {R : List RdT} {L : List Int} {m : Nat} (h1 : R.length = m) (h2 : L.length = m) : (vfH R L).length = m := by simp [vfH, h1, h2]
theorem vfH_get {R : List RdT} {L : List Int} {i : Nat} {nm : List UInt8} {b u : Int} {up : Bool} {a : Int} (h : R[i]? = some (nm, b, u, up)) (h2 : L[i]? = some a) : (vfH R L)[i]? = some (loN b u a, hiN b u a) := by
  unfold vfH; rw [List.getElem?_map, zip_get h h2]; rfl
/-- Readers that read one value. -/
structure Ppl (R : List RdT) (p q : Int) : Prop where
  one : 1 ≤ R.length ∧ R.length ≤ 12
  q1 : 1 ≤ q
  ok : ∀ r ∈ R, rdrOk r = true ∧ (-4 ≤ r.2.1 ∧ r.2.1 ≤ 4) ∧ (1 ≤ r.2.2.1 ∧ r.2.2.1 ≤ 20)
  sm : ∀ r ∈ R, -400 ≤ rdN r.2.1 r.2.2.1 r.2.2.2 p q ∧ rdN r.2.1 r.2.2.1 r.2.2.2 p q ≤ 400
theorem ppl_all {R : List RdT} {p q : Int} (h : Ppl R p q) : allR R = true := by
  unfold allR; rw [List.all_eq_true]; exact fun r hr => (h.ok r hr).1
/-- Readings near those of the value. -/
def nearL (R : List RdT) (p q : Int) (L : List Int) : Prop := L.length = R.length ∧ ∀ (j : Nat) (r : RdT) (a : Int), R[j]? = some r → L[j]? = some a → (∃ k, a = r.2.2.1 * k) ∧ -10000 ≤ a ∧ a ≤ 10000
theorem near_are {R : List RdT} {p q : Int} {L : List Int} (h : Ppl R p q) (hn : nearL R p q L) : areB L = true := by
  obtain ⟨h1, h2⟩ := hn
  have h3 := h.one
  unfold areB
  rw [Bool.and_eq_true, decide_eq_true_iff]
  refine ⟨by omega, ?_⟩
  rw [List.all_eq_true]
  intro a ha
  obtain ⟨j, hj⟩ := List.getElem?_of_mem ha
  have hjl := (List.getElem?_eq_some_iff.1 hj).1
  obtain ⟨r, hr⟩ := get_some (l := R) (i := j) (by omega)
  have := (h2 j r a hr hj).2
  unfold plainB
  exact decide_eq_true (by omega)
theorem near_M {R : List RdT} {p q : Int} {L : List Int} (h : Ppl R p q) (hn : nearL R p q L) : vfM R L = true := by
  refine vfM_yes rfl hn.1 fun j r hj hr a ha => ?_
  obtain ⟨⟨k, rfl⟩, _⟩ := hn.2 j r a hr ha
  exact Int.mul_tmod_right ..
theorem near_C {R : List RdT} {p q : Int} {L : List Int} (h : Ppl R p q) (hn : nearL R p q L) : vfC R L = 0 ∨ vfC R L = 8 := by
  have h3 := h.one
  have hl : R.length = L.length ∧ R.length ≤ 12 := by have := hn.1; omega
  cases hm : mtN (vfW R L) R.length with
  | none => exact .inr (vfC_8 (ppl_all h) (near_are h hn) hl (near_M h hn) hm)
  | some s => exact .inl (vfC_0 (ppl_all h) (near_are h hn) hl (near_M h hn) hm).1
theorem near_1 {R : List RdT} {p q : Int} {L : List Int} (h : Ppl R p q) (hn : nearL R p q L) (h1 : R.length = 1) : vfC R L = 0 := by
  have hl : R.length = L.length ∧ R.length ≤ 12 := by have := hn.1; omega
  obtain ⟨⟨nm, b, u, up⟩, hr⟩ := get_some (l := R) (i := 0) (by omega)
  obtain ⟨a, ha⟩ := get_some (l := L) (i := 0) (by omega)
  have hg := vfH_get hr ha
  have hok := h.ok _ (List.mem_of_getElem? hr)
  have hm : mtN (vfW R L) R.length = some (hS (loN b u a, hiN b u a)) := by
    rw [vfW_h, mtN_h, h1]
    unfold mtH mtH
    rw [hg]
    simp only [Int.max_self, Int.min_self]
    rw [if_pos (by unfold loN hiN; dsimp only at hok; omega)]
    rfl
  exact (vfC_0 (ppl_all h) (near_are h hn) hl (near_M h hn) hm).1
theorem ev_at {R : List RdT} {p q : Int} {j : Nat} {r : RdT} {a : Int} (hr : R[j]? = some r) (ha : (evLs R p q)[j]? = some a) : a = rdN r.2.1 r.2.2.1 r.2.2.2 p q := by
  obtain ⟨nm, b, u, up⟩ := r
  rw [evLs_get hr] at ha
  exact (Option.some.inj ha).symm
theorem ev_near {R : List RdT} {p q : Int} (h : Ppl R p q) : nearL R p q (evLs R p q) := by
  refine ⟨evLs_len, fun j r a hr ha => ?_⟩
  have e := ev_at hr ha
  subst e
  have := h.sm r (List.mem_of_getElem? hr)
  exact ⟨rdN_mod, by omega⟩
theorem ev_up {R : List RdT} {p q : Int} (h : Ppl R p q) {r0 : RdT} (h0 : R[0]? = some r0) {a0 : Int} (ha0 : (evLs R p q)[0]? = some a0) : nearL R p q ((evLs R p q).set 0 (a0 + 100 * r0.2.2.1)) := by
  refine ⟨by rw [List.length_set]; exact evLs_len, fun j r a hr ha => ?_⟩
  by_cases e : j = 0
  · subst e
    rw [h0] at hr; obtain rfl := Option.some.inj hr
    rw [List.getElem?_set_self (List.getElem?_eq_some_iff.1 ha0).1] at ha
    obtain rfl := Option.some.inj ha
    have e1 := ev_at h0 ha0
    have e2 := h.sm _ (List.mem_of_getElem? h0)
    have e3 := (h.ok _ (List.mem_of_getElem? h0)).2.2
    obtain ⟨k, hk⟩ := rdN_mod (b := r0.2.1) (u := r0.2.2.1) (p := p) (q := q) (up := r0.2.2.2)
    refine ⟨⟨k + 100, ?_⟩, by omega⟩
    rw [e1, hk]; grind
  · rw [List.getElem?_set_ne (by omega)] at ha
    exact (ev_near h).2 j r a hr ha
/-- What all of them tell. -/
theorem ppl_told {R : List RdT} {p q : Int} (h : Ppl R p q) : ∃ s : Int × Int, vfC R (evLs R p q) = 0 ∧ vfV R (evLs R p q) = hS s ∧ (s.1 * q ≤ 2 * p ∧ 2 * p ≤ s.2 * q) ∧ (-1000000 ≤ s.1 ∧ s.1 ≤ 1000000) ∧ (-1000000 ≤ s.2 ∧ s.2 ≤ 1000000) ∧ s.1 ≤ s.2 ∧ ∀ r ∈ R, s.2 - s.1 ≤ 2 * r.2.2.1 := by
  have h1 := h.one
  have hq := h.q1
  have hwl : (vfH R (evLs R p q)).length = R.length := vfH_len rfl evLs_len
  have hin : ∀ a ∈ vfH R (evLs R p q), a.1 * q ≤ 2 * p ∧ 2 * p ≤ a.2 * q := fun a ha => by
    obtain ⟨j, hj⟩ := List.getElem?_of_mem ha
    have hjl := (List.getElem?_eq_some_iff.1 hj).1
    obtain ⟨⟨nm, b, u, up⟩, hr⟩ := get_some (l := R) (i := j) (by omega)
    rw [vfH_get hr (evLs_get hr)] at hj
    obtain rfl := Option.some.inj hj
    have := (h.ok _ (List.mem_of_getElem? hr)).2.2
    exact rd_in this.1 hq
  obtain ⟨s, h2, h3, h4⟩ := mtH_in (by omega) hin (by omega) R.length (by omega)
  have hm : mtN (vfW R (evLs R p q)) R.length = some (hS s) := by rw [vfW_h, mtN_h, h2]; rfl
  have hl : R.length = (evLs R p q).length ∧ R.length ≤ 12 := ⟨evLs_len.symm, h1.2⟩
  have hc := vfC_0 (ppl_all h) (near_are h (ev_near h)) hl (near_M h (ev_near h)) hm
  have hle : s.1 ≤ s.2 := Int.le_of_mul_le_mul_right (Int.le_trans h3.1 h3.2) (by omega)
  have each : ∀ (j : Nat) (r : RdT), R[j]? = some r → loN r.2.1 r.2.2.1 (rdN r.2.1 r.2.2.1 r.2.2.2 p q) ≤ s.1 ∧ s.2 ≤ hiN r.2.1 r.2.2.1 (rdN r.2.1 r.2.2.1 r.2.2.2 p q) := fun j r hr => by
    obtain ⟨nm, b, u, up⟩ := r
    have hj := (List.getElem?_eq_some_iff.1 hr).1
    exact h4 j _ (.inl hj) (vfH_get hr (evLs_get hr))
  obtain ⟨r0, hr0⟩ := get_some (l := R) (i := 0) (by omega)
  have b0 := each 0 r0 hr0
  have o0 := h.ok _ (List.mem_of_getElem? hr0)
  have s0 := h.sm _ (List.mem_of_getElem? hr0)
  unfold loN hiN at b0
  refine ⟨s, hc.1, hc.2, h3, by omega, by omega, hle, fun r hr => ?_⟩
  obtain ⟨j, hj⟩ := List.getElem?_of_mem hr
  have := each j r hj
  unfold loN hiN at this
  omega
theorem hS_ok {s : Int × Int} (h1 : -1000000 ≤ s.1 ∧ s.1 ≤ 1000000) (h2 : -1000000 ≤ s.2 ∧ s.2 ≤ 1000000) (h : s.1 ≤ s.2) : spOk (hS s).1.1 (hS s).1.2 (hS s).2.1 (hS s).2.2 = true := by
  rw [spOk_iff]
  exact ⟨hal_ok (by omega), hal_ok (by omega), (hal_le _ _).2 h⟩
/-- The width of a span of halves. -/
theorem wid_h {s : Int × Int} (h1 : -1000000 ≤ s.1 ∧ s.1 ≤ 1000000) (h2 : -1000000 ≤ s.2 ∧ s.2 ≤ 1000000) :
    tolP ((hS s).2.1 * (hS s).1.2 - (hS s).1.1 * (hS s).2.2) ((hS s).2.2 * (hS s).1.2) = (hal (s.2 - s.1)).1 ∧ tolQ ((hS s).2.1 * (hS s).1.2 - (hS s).1.1 * (hS s).2.2) ((hS s).2.2 * (hS s).1.2) = (hal (s.2 - s.1)).2 ∧ redOk ((hS s).2.1 * (hS s).1.2 - (hS s).1.1 * (hS s).2.2) ((hS s).2.2 * (hS s).1.2) = true := by
  have e1 := hal_x s.1
  have e2 := hal_x s.2
  unfold hS
  dsimp only
  exact tol_red (p' := s.2 - s.1) (q' := 2) (Int.mul_pos (hal_q _) (hal_q _)) (by omega) (by grind) (redOk_small (by omega) (by omega))
/-- The width is known to be v. -/
def s_wid (v : Int × Int) : Spec := fun args S => match args, S with
  | [.agg [.int .i64 p, .int .i64 q, .int .i64 p', .int .i64 q']], [] => ⟨spOk p q p' q' = true ∧ tolP (p' * q - p * q') (q' * q) = v.1 ∧ tolQ (p' * q - p * q') (q' * q) = v.2 ∧ redOk (p' * q - p * q') (q' * q) = true, .tup [.agg [.int .i64 v.1, .int .i64 v.2], .int .i64 0], []⟩
  | _, _ => noSpec
theorem ok_wid (v : Int × Int) : SpecOk Try.prog 24 (s_wid v) := by
  intro args S h; unfold s_wid at h ⊢; (split at h <;> first | exact False.elim h | skip)
  dsimp only at h ⊢
  rename_i p q p' q'
  obtain ⟨h1, h2, h3, h4⟩ := h
  have hs := spOk_iff.1 h1
  have a1 := smF_ok hs.1
  have a2 := smF_ok hs.2.1
  refine funW tabOk (E := [(73, s_vSpan), (77, s_sub), (76, s_one)]) ⟨ok_ValidSpan, ok_sub, ok_one, trivial⟩ [] (k := 0) (fn := Try.f24) rfl rfl rfl rfl rfl rfl ?_
  (repeat' ((try (conv => whnf)); first | (with_reducible first | refine And.intro ?_ ?_ | refine WX.of ?_) | exact zc | ((with_reducible refine VC.mk ?_); exact zw) | ((with_reducible refine splitT_of ?_ ?_); (focus (simp only [h1, Bool.not_true, Bool.not_false, decide_true, decide_false]; done))) | ((with_reducible refine splitF_of ?_ ?_); (focus (simp only [h1, Bool.not_true, Bool.not_false, decide_true, decide_false]; done))) | ((with_reducible refine VC.mk ?_); exact ⟨rfl, a2, a1⟩) | (with_reducible first | refine splitT ?_ | refine splitF ?_) | ((with_reducible refine splitM.mk (fun hsm => ?_) (fun hsm => ?_)) <;> (try exact zx)) | ((with_reducible refine splitB.mk (fun h => ?_) (fun h => ?_)) <;> (try simp only [zs, ne_eq] at h) <;> (try simp (disch := omega) only [w64] at h) <;> (try exact zx)) | (with_reducible intro hz; (try exact absurd hz (Nat.succ_ne_zero _)))))
  all_goals exact ⟨by simp only [h2, h3, h4, Bool.not_true, Bool.or_false, Bool.false_eq_true, if_false]⟩
def atV (L : List Int) (t n : Int) : Int := if (L.length : Int) ≤ t ∨ n < 1 then 0 else (byt L t.toNat).tmod n
theorem atV_b {L : List Int} (h : ∀ a ∈ L, 0 ≤ a ∧ a ≤ (255 : Int)) {t n : Int} (hn : 1 ≤ n) : 0 ≤ atV L t n ∧ atV L t n < n := by
  have := byt_b h t.toNat
  unfold atV
  split
  · omega
  · exact ⟨Int.tmod_nonneg _ this.1, Int.tmod_lt_of_pos _ (by omega)⟩
def s_a2At : Spec := fun args S => match args, S with
  | [cv, .int .i64 t, .int .i64 n], [rb] => ⟨codP 0 cv rb ∧ 0 ≤ t, .int .i64 (atV (codL cv rb) t n), [rb]⟩
  | _, _ => noSpec
theorem ok_a2At : SpecOk Try.prog 18 s_a2At := by
  intro args S h; unfold s_a2At at h ⊢; (split at h <;> first | exact False.elim h | skip)
  dsimp only at h ⊢
  rename_i cv t n rb
  obtain ⟨hc, ht⟩ := h
  have hbt := byt_b (cod_b hc) t.toNat
  rcases codP_c hc with ⟨c, m, l, rfl, rfl, e, ⟨h1, h2, h3⟩, hb⟩ | ⟨s, m, x, l, wr, rfl, rfl, e, ⟨h1, h3⟩, hb⟩
  · rw [e] at hbt ⊢
    have hL : (seg l 0 m).length = m := seg_len (by omega)
    by_cases hge : (m : Int) ≤ t
    · have hv : atV (seg l 0 m) t n = 0 := by unfold atV; rw [if_pos (by omega)]
      rw [hv]
      refine funW tabOk (E := []) trivial [] (k := 1) (fn := Try.f18) rfl rfl rfl rfl rfl rfl ?_
      (repeat' ((try (conv => whnf)); first | (with_reducible first | refine And.intro ?_ ?_ | refine WX.of ?_) | exact zc | ((with_reducible refine VC.mk ?_); exact zw) | (with_reducible first | refine splitT ?_ | refine splitF ?_) | ((with_reducible refine splitM.mk (fun hsm => ?_) (fun hsm => ?_)) <;> (try exact zx)) | ((with_reducible refine splitB.mk (fun h => ?_) (fun h => ?_)) <;> (try simp only [zs, ne_eq] at h) <;> (try simp (disch := omega) only [w64] at h) <;> (try exact zx)) | (with_reducible intro hz; (try exact absurd hz (Nat.succ_ne_zero _)))))
    · by_cases hn : n < 1
      · have hv : atV (seg l 0 m) t n = 0 := by unfold atV; rw [if_pos (by omega)]
        rw [hv]
        refine funW tabOk (E := []) trivial [] (k := 1) (fn := Try.f18) rfl rfl rfl rfl rfl rfl ?_
        (repeat' ((try (conv => whnf)); first | (with_reducible first | refine And.intro ?_ ?_ | refine WX.of ?_) | exact zc | ((with_reducible refine VC.mk ?_); exact zw) | (with_reducible first | refine splitT ?_ | refine splitF ?_) | ((with_reducible refine splitM.mk (fun hsm => ?_) (fun hsm => ?_)) <;> (try exact zx)) | ((with_reducible refine splitB.mk (fun h => ?_) (fun h => ?_)) <;> (try simp only [zs, ne_eq] at h) <;> (try simp (disch := omega) only [w64] at h) <;> (try exact zx)) | (with_reducible intro hz; (try exact absurd hz (Nat.succ_ne_zero _)))))
      · have hv : atV (seg l 0 m) t n = (byt (seg l 0 m) t.toNat).tmod n := by unfold atV; rw [if_neg (by omega)]
        obtain ⟨a, ha⟩ := get_some (l := seg l 0 m) (i := t.toNat) (by omega)
        have hba : byt (seg l 0 m) t.toNat = a := by unfold byt; rw [ha]; rfl
        have ha2 := (seg_get ha).1
        rw [Nat.zero_add] at ha2
        rw [hba] at hbt hv
        rw [hv]
        refine funW tabOk (E := []) trivial [] (k := 1) (fn := Try.f18) rfl rfl rfl rfl rfl rfl ?_
        (repeat' ((try (conv => whnf)); first | (with_reducible first | refine And.intro ?_ ?_ | refine WX.of ?_) | exact zc | ((with_reducible refine VC.mk ?_); exact zw) | with_reducible refine atL_q ha2 (by omega) ?_ | (with_reducible first | refine splitT ?_ | refine splitF ?_) | ((with_reducible refine splitM.mk (fun hsm => ?_) (fun hsm => ?_)) <;> (try exact zx)) | ((with_reducible refine splitB.mk (fun h => ?_) (fun h => ?_)) <;> (try simp only [zs, ne_eq] at h) <;> (try simp (disch := omega) only [w64] at h) <;> (try exact zx)) | (with_reducible intro hz; (try exact absurd hz (Nat.succ_ne_zero _)))))
        all_goals exact ⟨by rw [w64 (by omega)]⟩
  · rw [e] at hbt ⊢
    have hL : (seg l s m).length = m := seg_len (by omega)
    by_cases hge : (m : Int) ≤ t
    · have hv : atV (seg l s m) t n = 0 := by unfold atV; rw [if_pos (by omega)]
      rw [hv]
      refine funW tabOk (E := []) trivial [] (k := 1) (fn := Try.f18) rfl rfl rfl rfl rfl rfl ?_
      (repeat' ((try (conv => whnf)); first | (with_reducible first | refine And.intro ?_ ?_ | refine WX.of ?_) | exact zc | ((with_reducible refine VC.mk ?_); exact zw) | (with_reducible first | refine splitT ?_ | refine splitF ?_) | ((with_reducible refine splitM.mk (fun hsm => ?_) (fun hsm => ?_)) <;> (try exact zx)) | ((with_reducible refine splitB.mk (fun h => ?_) (fun h => ?_)) <;> (try simp only [zs, ne_eq] at h) <;> (try simp (disch := omega) only [w64] at h) <;> (try exact zx)) | (with_reducible intro hz; (try exact absurd hz (Nat.succ_ne_zero _)))))
    · by_cases hn : n < 1
      · have hv : atV (seg l s m) t n = 0 := by unfold atV; rw [if_pos (by omega)]
        rw [hv]
        refine funW tabOk (E := []) trivial [] (k := 1) (fn := Try.f18) rfl rfl rfl rfl rfl rfl ?_
        (repeat' ((try (conv => whnf)); first | (with_reducible first | refine And.intro ?_ ?_ | refine WX.of ?_) | exact zc | ((with_reducible refine VC.mk ?_); exact zw) | (with_reducible first | refine splitT ?_ | refine splitF ?_) | ((with_reducible refine splitM.mk (fun hsm => ?_) (fun hsm => ?_)) <;> (try exact zx)) | ((with_reducible refine splitB.mk (fun h => ?_) (fun h => ?_)) <;> (try simp only [zs, ne_eq] at h) <;> (try simp (disch := omega) only [w64] at h) <;> (try exact zx)) | (with_reducible intro hz; (try exact absurd hz (Nat.succ_ne_zero _)))))
      · have hv : atV (seg l s m) t n = (byt (seg l s m) t.toNat).tmod n := by unfold atV; rw [if_neg (by omega)]
        obtain ⟨a, ha⟩ := get_some (l := seg l s m) (i := t.toNat) (by omega)
        have hba : byt (seg l s m) t.toNat = a := by unfold byt; rw [ha]; rfl
        have ha2 := (seg_get ha).1
        rw [hba] at hbt hv
        rw [hv]
        refine funW tabOk (E := []) trivial [] (k := 1) (fn := Try.f18) rfl rfl rfl rfl rfl rfl ?_
        (repeat' ((try (conv => whnf)); first | (with_reducible first | refine And.intro ?_ ?_ | refine WX.of ?_) | exact zc | ((with_reducible refine VC.mk ?_); exact zw) | with_reducible refine atL_q ha2 (by omega) ?_ | (with_reducible first | refine splitT ?_ | refine splitF ?_) | ((with_reducible refine splitM.mk (fun hsm => ?_) (fun hsm => ?_)) <;> (try exact zx)) | ((with_reducible refine splitB.mk (fun h => ?_) (fun h => ?_)) <;> (try simp only [zs, ne_eq] at h) <;> (try simp (disch := omega) only [w64] at h) <;> (try exact zx)) | (with_reducible intro hz; (try exact absurd hz (Nat.succ_ne_zero _)))))
        all_goals exact ⟨by rw [w64 (by omega)]⟩
def s_a2Long : Spec := fun args S => match args, S with
  | [.opt c 0 n 0, .opt c' 1 n' 0], [.arrO (.int .u8) l 1, .arrO (.int .u8) l' 1] => ⟨n ≤ 9223372036854775807 ∧ n' ≤ 9223372036854775807, .bool (decide (3000 < n ∨ 3000 < n')), [.arrO (.int .u8) l 1, .arrO (.int .u8) l' 1]⟩
  | _, _ => noSpec
theorem ok_a2Long : SpecOk Try.prog 16 s_a2Long := by
  intro args S h; unfold s_a2Long at h ⊢; (split at h <;> first | exact False.elim h | skip)
  dsimp only at h ⊢
  refine funW tabOk (E := []) trivial [] (k := 2) (fn := Try.f16) rfl rfl rfl rfl rfl rfl ?_
  (repeat' ((try (conv => whnf)); first | (with_reducible first | refine And.intro ?_ ?_ | refine WX.of ?_) | exact zc | ((with_reducible refine VC.mk ?_); exact zw) | (with_reducible first | refine splitT ?_ | refine splitF ?_) | ((with_reducible refine splitM.mk (fun hsm => ?_) (fun hsm => ?_)) <;> (try exact zx)) | ((with_reducible refine splitB.mk (fun h => ?_) (fun h => ?_)) <;> (try simp only [zs, ne_eq] at h) <;> (try simp (disch := omega) only [w64] at h) <;> (try exact zx)) | (with_reducible intro hz; (try exact absurd hz (Nat.succ_ne_zero _)))))
  all_goals (refine ⟨congrArg SV.bool ?_⟩; first | (rw [eq_comm, decide_eq_true_iff]; omega) | (rw [Bool.eq_iff_iff]; simp; omega))
end Go.Proofs.Ytghafpklomnhlaa.Eng
set_option linter.unusedVariables false
set_option linter.unusedSimpArgs false
namespace Go.Proofs.Ytghafpklomnhlaa.Eng
open Go Go.RowKit
set_option maxRecDepth 100000
def s_a2rV (L : List Int) : Spec := fun args S => match args, S with
  | [cv], [rb] => ⟨codP 0 cv rb ∧ codL cv rb = L, .agg [.str (drN L), .int .i16 (drB L), .int .i16 (drU L), .bool (drUp L)], [rb]⟩
  | _, _ => noSpec
theorem ok_a2rV (L : List Int) : SpecOk Try.prog 19 (s_a2rV L) := by
  intro args S h; unfold s_a2rV at h ⊢; (split at h <;> first | exact False.elim h | skip)
  dsimp only at h ⊢
  rename_i cv rb
  obtain ⟨h1, h2⟩ := h
  subst h2
  exact ok_A2Reader [cv] [rb] h1
def s_insT : Spec := fun args S => match args, S with
  | [.agg [.int .i64 p, .int .i64 q, .int .i64 p', .int .i64 q'], .agg [.int .i64 r, .int .i64 s]], [] => ⟨(spOk p q p' q' = true ∧ fOk r s = true) ∧ p * s ≤ r * q ∧ r * q' ≤ p' * s, .tup [.bool true, .int .i64 0], []⟩
  | _, _ => noSpec
theorem ok_insT : SpecOk Try.prog 23 s_insT := by
  intro args S h; unfold s_insT at h ⊢; (split at h <;> first | exact False.elim h | skip)
  dsimp only at h ⊢
  rename_i p q p' q' r s
  obtain ⟨⟨h1, h2⟩, h3, h4⟩ := h
  have := ok_InSpan [.agg [.int .i64 p, .int .i64 q, .int .i64 p', .int .i64 q'], .agg [.int .i64 r, .int .i64 s]] [] trivial
  simp only [s_InSpan, h1, h2, Bool.and_self, Bool.true_and, if_true, decide_eq_true h3, decide_eq_true h4] at this
  exact this
/-- The k-th reader's bytes. -/
def cK (C : List Int) (k : Nat) : List Int := (3 * (k : Int)) :: C
def pplR (C : List Int) (m : Nat) : List RdT := (List.range m).map fun k => drR (cK C k)
theorem pplR_len (C : List Int) (m : Nat) : (pplR C m).length = m := by simp [pplR]
theorem pplR_get {C : List Int} {m k : Nat} (h : k < m) : (pplR C m)[k]? = some (drR (cK C k)) := by
  unfold pplR; rw [List.getElem?_map, List.getElem?_range h]; rfl
theorem cK_b {C : List Int} (h : ∀ a ∈ C, 0 ≤ a ∧ a ≤ (255 : Int)) {k : Nat} (hk : k ≤ 4) : ∀ a ∈ cK C k, 0 ≤ a ∧ a ≤ (255 : Int) := fun a ha => by
  unfold cK at ha
  rcases List.mem_cons.1 ha with rfl | ha
  · omega
  · exact h a ha
theorem pplR_ok {C D : List Int} (hC : ∀ a ∈ C, 0 ≤ a ∧ a ≤ (255 : Int)) (hD : ∀ a ∈ D, 0 ≤ a ∧ a ≤ (255 : Int)) {m : Nat} (h1 : 1 ≤ m) (h2 : m ≤ 4) : Ppl (pplR C m) (redP (vaP D) (vaD D)) (redQ (vaP D) (vaD D)) := by
  have hv := va_ok hD
  have hq := smF_ok hv.1
  unfold smF at hq
  have hm : ∀ r ∈ pplR C m, ∃ k, k < m ∧ r = drR (cK C k) := fun r hr => by
    obtain ⟨k, hk, rfl⟩ := List.mem_map.1 hr
    exact ⟨k, by simpa using hk, rfl⟩
  refine ⟨by rw [pplR_len]; omega, hq.2.1, fun r hr => ?_, fun r hr => ?_⟩
  · obtain ⟨k, hk, rfl⟩ := hm r hr
    have := drR_ok (cK_b hC (k := k) (by omega))
    exact ⟨this.1, this.2.2.1, this.2.2.2⟩
  · obtain ⟨k, hk, rfl⟩ := hm r hr
    have := drR_ok (cK_b hC (k := k) (by omega))
    exact rdN_small this.2.2.2 this.2.2.1 hq.2.1 hv.2
theorem in_h {s : Int × Int} {p q : Int} (h : s.1 * q ≤ 2 * p ∧ 2 * p ≤ s.2 * q) : (hS s).1.1 * q ≤ p * (hS s).1.2 ∧ p * (hS s).2.2 ≤ (hS s).2.1 * q := by
  have e1 := hal_x s.1
  have e2 := hal_x s.2
  have q1 := hal_q s.1
  have q2 := hal_q s.2
  unfold hS
  dsimp only
  generalize (hal s.1).1 = P at *
  generalize (hal s.1).2 = Q at *
  generalize (hal s.2).1 = P' at *
  generalize (hal s.2).2 = Q' at *
  have a1 : (P * q) * 2 = (s.1 * q) * Q := by grind
  have a2 : (P' * q) * 2 = (s.2 * q) * Q' := by grind
  have b1 := Int.mul_le_mul_of_nonneg_right h.1 (show 0 ≤ Q by omega)
  have b2 := Int.mul_le_mul_of_nonneg_right h.2 (show 0 ≤ Q' by omega)
  have c1 : 2 * p * Q = (p * Q) * 2 := by grind
  have c2 : 2 * p * Q' = (p * Q') * 2 := by grind
  rw [← a1, c1] at b1
  rw [← a2, c2] at b2
  omega
theorem ok_u8s {l : List Int} (h : ∀ y ∈ l, ET.Ok (.int .u8) y) : ∀ a ∈ l, 0 ≤ a ∧ a ≤ (255 : Int) := fun a ha => by
  have := h a ha
  simp [ET.Ok, Lit.wf, IntKind.min, IntKind.max, IntKind.signed, IntKind.bits] at this
  omega
theorem seg_b {l : List Int} {s n : Nat} (h : ∀ a ∈ l, 0 ≤ a ∧ a ≤ (255 : Int)) : ∀ a ∈ seg l s n, 0 ≤ a ∧ a ≤ (255 : Int) := fun a ha => h a (List.mem_of_mem_drop (List.mem_of_mem_take ha))
set_option maxHeartbeats 1600000 in
theorem law_people {c1 c2 : Bool} {n1 n2 : Nat} {l1 l2 : List Int} (hn1 : n1 ≤ l1.length) (hc1 : c1 = true → l1 = []) (ho1 : ∀ y ∈ l1, ET.Ok (.int .u8) y) (hz1 : l1.length ≤ 9223372036854775807) (hn2 : n2 ≤ l2.length) (hc2 : c2 = true → l2 = []) (ho2 : ∀ y ∈ l2, ET.Ok (.int .u8) y) (hz2 : l2.length ≤ 9223372036854775807) :
    RunsS Try.prog 4 [.opt c1 0 n1 0, .opt c2 1 n2 0] [.arrO (.int .u8) l1 1, .arrO (.int .u8) l2 1] (.bool true) [.arrO (.int .u8) l1 1, .arrO (.int .u8) l2 1] := by
  have hb1 := ok_u8s ho1
  have hb2 := ok_u8s ho2
  by_cases hlong : 3000 < n1 ∨ 3000 < n2
  · have hk : decide (3000 < n1 ∨ 3000 < n2) = true := decide_eq_true hlong
    refine funW tabOk (E := [(16, s_a2Long)]) ⟨ok_a2Long, trivial⟩ [] (k := 2) (fn := Try.f4) rfl rfl rfl rfl rfl rfl ?_
    (repeat' ((try (conv => whnf)); first | (with_reducible first | refine And.intro ?_ ?_ | refine WX.of ?_) | exact zc | ((with_reducible refine VC.mk ?_); exact zw) | ((with_reducible refine splitT_of ?_ ?_); (focus (simp only [hk, Bool.not_true, Bool.not_false, decide_true, decide_false]; done))) | ((with_reducible refine splitF_of ?_ ?_); (focus (simp only [hk, Bool.not_true, Bool.not_false, decide_true, decide_false]; done))) | (with_reducible first | refine splitT ?_ | refine splitF ?_) | ((with_reducible refine splitM.mk (fun hsm => ?_) (fun hsm => ?_)) <;> (try exact zx)) | ((with_reducible refine splitB.mk (fun h => ?_) (fun h => ?_)) <;> (try simp only [zs, ne_eq] at h) <;> (try simp (disch := omega) only [w64] at h) <;> (try exact zx)) | (with_reducible intro hz; (try exact absurd hz (Nat.succ_ne_zero _)))))
  · have hk : decide (3000 < n1 ∨ 3000 < n2) = false := decide_eq_false hlong
    have hcb := seg_b (s := 0) (n := n1) hb1
    have hdb := seg_b (s := 0) (n := n2) hb2
    have hab := atV_b hcb (t := 0) (n := 4) (by omega)
    obtain ⟨m, hm⟩ : ∃ m : Nat, (m : Int) = 1 + atV (seg l1 0 n1) 0 4 := ⟨(1 + atV (seg l1 0 n1) 0 4).toNat, by omega⟩
    have hP := pplR_ok hcb hdb (m := m) (by omega) (by omega)
    have hva := va_ok hdb
    generalize hp : redP (vaP (seg l2 0 n2)) (vaD (seg l2 0 n2)) = p at *
    generalize hq : redQ (vaP (seg l2 0 n2)) (vaD (seg l2 0 n2)) = q at *
    have hLm : (pplR (seg l1 0 n1) m).length = m := pplR_len _ _
    have hEm : (evLs (pplR (seg l1 0 n1) m) p q).length = m := by rw [evLs_len, hLm]
    obtain ⟨s, t1, t2, t3, t4, t5, t6, t7⟩ := ppl_told hP
    have hkb : ∀ k, k < m → k ≤ 4 := fun k hk => by omega
    have hsR : seg (pplR (seg l1 0 n1) m) 0 m = pplR (seg l1 0 n1) m := seg_full hLm
    have hsE : seg (evLs (pplR (seg l1 0 n1) m) p q) 0 m = evLs (pplR (seg l1 0 n1) m) p q := seg_full hEm
    have hgR : ∀ (j : Nat) (r : RdT), (pplR (seg l1 0 n1) m)[j]? = some r → rdrGood r := fun j r hr => by
      obtain ⟨k, hk, rfl⟩ := List.mem_map.1 (List.mem_of_getElem? hr)
      exact (drR_ok (cK_b hcb (k := k) (hkb k (by simpa using hk)))).2.1
    have hV : vfV (seg (pplR (seg l1 0 n1) m) 0 m) (seg (evLs (pplR (seg l1 0 n1) m) p q) 0 m) = hS s := by rw [hsR, hsE]; exact t2
    have hso := hS_ok t4 t5 t6
    have hwd := wid_h t4 t5
    have hip : (hS s).1.1 * q ≤ p * (hS s).1.2 ∧ p * (hS s).2.2 ≤ (hS s).2.1 * q := in_h t3
    have hcV : vfC (seg (pplR (seg l1 0 n1) m) 0 m) (seg (evLs (pplR (seg l1 0 n1) m) p q) 0 m) = 0 := by rw [hsR, hsE]; exact t1
    rw [← hV] at hso hwd hip
    have hins := And.intro (And.intro hso hva.1) hip
    have hwi := And.intro hso hwd
    refine funW tabOk (E := [(16, s_a2Long), (17, s_a2v), (21, s_vf), (22, s_vf), (23, s_insT), (24, (s_wid (hal (s.2 - s.1))))]) ⟨ok_a2Long, ok_A2Value, ok_ValueFromI, ok_ValueFromS, ok_insT, ok_wid _, trivial⟩ [] (k := 2) (fn := Try.f4) rfl rfl rfl rfl rfl rfl ?_
    (repeat' ((try (conv => whnf)); first | (with_reducible first | refine And.intro ?_ ?_ | refine WX.of ?_) | exact zc | ((with_reducible refine VC.mk ?_); exact zw) | ((with_reducible refine splitT_of ?_ ?_); (focus (simp only [hk, Bool.not_true, Bool.not_false, decide_true, decide_false]; done))) | ((with_reducible refine splitF_of ?_ ?_); (focus (simp only [hk, Bool.not_true, Bool.not_false, decide_true, decide_false]; done))) | ((with_reducible refine VC.mk ?_); exact ⟨rfl, ⟨hn2, hc2, by omega⟩, hb2⟩) | (with_reducible first | refine splitT ?_ | refine splitF ?_) | ((with_reducible refine splitM.mk (fun hsm => ?_) (fun hsm => ?_)) <;> (try exact zx)) | ((with_reducible refine splitB.mk (fun h => ?_) (fun h => ?_)) <;> (try simp only [zs, ne_eq] at h) <;> (try simp (disch := omega) only [w64] at h) <;> (try exact zx)) | (with_reducible intro hz; (try exact absurd hz (Nat.succ_ne_zero _)))))
    have ew : IntKind.i64.wrap (1 + atV (codL (.opt c1 0 n1 0) (.arrO (.int .u8) l1 1)) 0 4) = (m : Int) := by
      rw [codL_o, ← hm, w64 (by omega)]
    have hC1 : (seg l1 0 n1).length = n1 := seg_len (by omega)
    refine loopWs tabOk (fun k => [(18, s_a2At), (19, (s_a2rV (cK (seg l1 0 n1) k))), (20, s_ReadingOf)]) (fun k => ⟨ok_a2At, ok_a2rV _, ok_ReadingOfS, trivial⟩) [] (σ := Nat) (fun k => [(0, .opt c1 0 n1 0), (5, .ptr 2 0 0), (6, .sl 3 0 k 0), (7, .sl 4 0 k 0), (8, .int .i64 k)]) (fun k => [.arrO (.int .u8) l1 1, .arrO (.int .u8) l2 1, .arr (.prod (.int .i64) (.int .i64)) [(p, q)] 0 true, .arr (.prod .str (.prod (.int .i16) (.prod (.int .i16) .bool))) ((pplR (seg l1 0 n1) m).take k) 4 true, .arr (.int .i64) ((evLs (pplR (seg l1 0 n1) m) p q).take k) 1 true]) (fun k => m - k) (fun k => k ≤ m) 0 (Nat.zero_le _) ?_ ?_
    · (repeat' ((try (conv => whnf)); first | (with_reducible first | refine And.intro ?_ ?_ | refine WX.of ?_) | exact zc | ((with_reducible refine VC.mk ?_); exact zw) | (with_reducible first | refine splitT ?_ | refine splitF ?_) | ((with_reducible refine splitM.mk (fun hsm => ?_) (fun hsm => ?_)) <;> (try exact zx)) | ((with_reducible refine splitB.mk (fun h => ?_) (fun h => ?_)) <;> (try simp only [zs, ne_eq] at h) <;> (try simp (disch := omega) only [w64] at h) <;> (try exact zx)) | (with_reducible intro hz; (try exact absurd hz (Nat.succ_ne_zero _)))))
      all_goals exact VC.mk (by rw [codL_o, hp, hq]; rfl)
    · intro k hk2
      have hl1 : ((pplR (seg l1 0 n1) m).take k).length = k := by rw [List.length_take]; omega
      have hl2 : ((evLs (pplR (seg l1 0 n1) m) p q).take k).length = k := by rw [List.length_take]; omega
      by_cases hlt : k < m
      · have hkt : decide ((k : Int) < IntKind.i64.wrap (1 + atV (codL (.opt c1 0 n1 0) (.arrO (.int .u8) l1 1)) 0 4)) = true := by rw [ew]; exact decide_eq_true (by omega)
        have hget := pplR_get (C := seg l1 0 n1) hlt
        have hok := hP.ok _ (List.mem_of_getElem? hget)
        have hsm := hP.sm _ (List.mem_of_getElem? hget)
        have hgd := (drR_ok (cK_b hcb (k := k) (by omega))).2.1
        have hw3 : IntKind.u8.wrap (IntKind.i64.wrap (3 * (k : Int))) = 3 * (k : Int) := by rw [w64 (by omega)]; simp [IntKind.wrap, IntKind.signed, IntKind.bits]; omega
        have hrc : rdCode (drN (cK (seg l1 0 n1) k)) (drB (cK (seg l1 0 n1) k)) (drU (cK (seg l1 0 n1) k)) (drUp (cK (seg l1 0 n1) k)) p q = 0 := by
          unfold rdCode
          have h1 : rdrB (drN (cK (seg l1 0 n1) k)) (drB (cK (seg l1 0 n1) k)) (drU (cK (seg l1 0 n1) k)) = true := hok.1
          rw [h1, hva.1, Bool.and_self, if_pos rfl, if_pos (decide_eq_true (by unfold drR at hsm; dsimp only at hsm; omega))]
        have hrv : rdVal (drN (cK (seg l1 0 n1) k)) (drB (cK (seg l1 0 n1) k)) (drU (cK (seg l1 0 n1) k)) (drUp (cK (seg l1 0 n1) k)) p q = rdN (drB (cK (seg l1 0 n1) k)) (drU (cK (seg l1 0 n1) k)) (drUp (cK (seg l1 0 n1) k)) p q := by unfold rdVal; rw [if_pos hrc]
        unfold rdrGood drR at hgd
        dsimp only at hgd
        have hA1 : n1 = 0 → codP 0 (.sl 0 0 1 0) (.arr (.int .u8) [IntKind.u8.wrap (IntKind.i64.wrap (3 * (k : Int)))] 1 true) ∧ codL (.sl 0 0 1 0) (.arr (.int .u8) [IntKind.u8.wrap (IntKind.i64.wrap (3 * (k : Int)))] 1 true) = cK (seg l1 0 n1) k := fun h0 => by
          rw [hw3]
          refine ⟨⟨rfl, ⟨by simp, by omega⟩, fun a ha => ?_⟩, ?_⟩
          · have e : a = 3 * (k : Int) := by simpa using ha
            rw [e]; exact (show (0 : Int) ≤ 3 * (k : Int) ∧ 3 * (k : Int) ≤ 255 from ⟨by omega, by omega⟩)
          · unfold cK; rw [codL_s]; subst h0; rfl
        have hA2 : codP 0 (.sl 0 0 (1 + n1) 0) (.arr (.int .u8) (seg [IntKind.u8.wrap (IntKind.i64.wrap (3 * (k : Int)))] 0 1 ++ seg l1 0 n1) 1 true) ∧ codL (.sl 0 0 (1 + n1) 0) (.arr (.int .u8) (seg [IntKind.u8.wrap (IntKind.i64.wrap (3 * (k : Int)))] 0 1 ++ seg l1 0 n1) 1 true) = cK (seg l1 0 n1) k := by
          rw [hw3]
          have e : seg [3 * (k : Int)] 0 1 ++ seg l1 0 n1 = cK (seg l1 0 n1) k := rfl
          rw [e]
          refine ⟨⟨rfl, ⟨by unfold cK; simp only [List.length_cons]; omega, by omega⟩, cK_b hcb (by omega)⟩, ?_⟩
          rw [codL_s, seg_full]
          unfold cK; simp only [List.length_cons]; omega
        (repeat' ((try (conv => whnf)); first | (with_reducible first | refine And.intro ?_ ?_ | refine WX.of ?_) | exact zc | ((with_reducible refine VC.mk ?_); exact zw) | ((with_reducible refine splitT_of ?_ ?_); (focus (simp only [hkt, hrc, ne_eq, not_true_eq_false, Bool.not_true, Bool.not_false, decide_true, decide_false]; done))) | ((with_reducible refine splitF_of ?_ ?_); (focus (simp only [hkt, hrc, ne_eq, not_true_eq_false, Bool.not_true, Bool.not_false, decide_true, decide_false]; done))) | ((with_reducible refine VC.mk ?_); exact ⟨⟨rfl, ⟨hn1, hc1, by omega⟩, hb1⟩, Int.le_refl _⟩) | ((with_reducible refine VC.mk ?_); exact hgd) | ((with_reducible refine VC.mk ?_); exact hA2) | ((with_reducible refine VC.mk ?_); (refine hA1 ?_); omega) | (with_reducible first | refine splitT ?_ | refine splitF ?_) | ((with_reducible refine splitM.mk (fun hsm => ?_) (fun hsm => ?_)) <;> (try exact zx)) | ((with_reducible refine splitB.mk (fun h => ?_) (fun h => ?_)) <;> (try simp only [zs, ne_eq] at h) <;> (try simp (disch := omega) only [w64] at h) <;> (try exact zx)) | (with_reducible intro hz; (try exact absurd hz (Nat.succ_ne_zero _)))))
        all_goals
          refine ⟨k + 1, by omega, hlt, ?_⟩
        · (repeat' ((try (conv => whnf)); first | (with_reducible first | refine And.intro ?_ ?_ | refine WX.of ?_) | exact zc | ((with_reducible refine VC.mk ?_); exact zw) | (with_reducible first | refine splitT ?_ | refine splitF ?_) | ((with_reducible refine splitM.mk (fun hsm => ?_) (fun hsm => ?_)) <;> (try exact zx)) | ((with_reducible refine splitB.mk (fun h => ?_) (fun h => ?_)) <;> (try simp only [zs, ne_eq] at h) <;> (try simp (disch := omega) only [w64] at h) <;> (try exact zx)) | (with_reducible intro hz; (try exact absurd hz (Nat.succ_ne_zero _)))))
          · exact VC.mk (app_take hget)
          · exact VC.mk (by dsimp only; rw [hrv]; exact app_take (evLs_get hget))
        · (repeat' ((try (conv => whnf)); first | (with_reducible first | refine And.intro ?_ ?_ | refine WX.of ?_) | exact zc | ((with_reducible refine VC.mk ?_); exact zw) | (with_reducible first | refine splitT ?_ | refine splitF ?_) | ((with_reducible refine splitM.mk (fun hsm => ?_) (fun hsm => ?_)) <;> (try exact zx)) | ((with_reducible refine splitB.mk (fun h => ?_) (fun h => ?_)) <;> (try simp only [zs, ne_eq] at h) <;> (try simp (disch := omega) only [w64] at h) <;> (try exact zx)) | (with_reducible intro hz; (try exact absurd hz (Nat.succ_ne_zero _)))))
          · exact VC.mk (app_take hget)
          · exact VC.mk (by dsimp only; rw [hrv]; exact app_take (evLs_get hget))
      · have hkt : decide ((k : Int) < IntKind.i64.wrap (1 + atV (codL (.opt c1 0 n1 0) (.arrO (.int .u8) l1 1)) 0 4)) = false := by rw [ew]; exact decide_eq_false (by omega)
        have hkm : k = m := by omega
        rw [hkm] at hkt ⊢
        rw [List.take_of_length_le (by omega), List.take_of_length_le (by omega)]
        (repeat' ((try dsimp only); (try (conv => whnf)); first | (with_reducible first | refine And.intro ?_ ?_ | refine WX.of ?_) | exact zc | ((with_reducible refine VC.mk ?_); exact zw) | ((with_reducible refine splitT_of ?_ ?_); (focus (simp only [hkt, hcV, ne_eq, eq_self, not_true_eq_false, Bool.and_self, Bool.not_true, Bool.not_false, decide_true, decide_false]; done))) | ((with_reducible refine splitF_of ?_ ?_); (focus (simp only [hkt, hcV, ne_eq, eq_self, not_true_eq_false, Bool.and_self, Bool.not_true, Bool.not_false, decide_true, decide_false]; done))) | ((with_reducible refine VC.mk ?_); exact ⟨⟨rfl, ⟨hn1, hc1, by omega⟩, hb1⟩, Int.le_refl _⟩) | ((with_reducible refine VC.mk ?_); exact ⟨⟨by omega, by omega, hgR⟩, by omega, by omega⟩) | ((with_reducible refine VC.mk ?_); exact hins) | ((with_reducible refine VC.mk ?_); exact hwi) | (with_reducible first | refine splitT ?_ | refine splitF ?_) | ((with_reducible refine splitM.mk (fun hsm => ?_) (fun hsm => ?_)) <;> (try exact zx)) | ((with_reducible refine splitB.mk (fun h => ?_) (fun h => ?_)) <;> (try simp only [zs, ne_eq] at h) <;> (try simp (disch := omega) only [w64] at h) <;> (try exact zx)) | (with_reducible intro hz; (try exact absurd hz (Nat.succ_ne_zero _)))))
        have hwq : 0 < (hal (s.2 - s.1)).2 := hal_q _
        have hwx := hal_x (s.2 - s.1)
        have hwo := smF_ok (hal_ok (a := s.2 - s.1) (by omega))
        unfold smF at hwo
        obtain ⟨r0, hr0⟩ := get_some (l := pplR (seg l1 0 n1) m) (i := 0) (by omega)
        obtain ⟨a0, ha0⟩ := get_some (l := evLs (pplR (seg l1 0 n1) m) p q) (i := 0) (by omega)
        have hup := ev_up hP hr0 ha0
        have hso0 := hP.sm _ (List.mem_of_getElem? hr0)
        have hok0 := hP.ok _ (List.mem_of_getElem? hr0)
        have hea := ev_at hr0 ha0
        have hcd := near_C hP hup
        have hc1 := near_1 hP hup
        rw [hLm] at hc1
        have hw0 : IntKind.i64.wrap (a0 + IntKind.i64.wrap (100 * IntKind.i64.wrap r0.2.2.1)) = a0 + 100 * r0.2.2.1 := by
          rw [w64 (n := r0.2.2.1) (by omega), w64 (n := 100 * r0.2.2.1) (by omega), w64 (by omega)]
        have hsE2 : seg ((evLs (pplR (seg l1 0 n1) m) p q).set 0 (a0 + 100 * r0.2.2.1)) 0 m = (evLs (pplR (seg l1 0 n1) m) p q).set 0 (a0 + 100 * r0.2.2.1) := seg_full (by rw [List.length_set, hEm])
        have hcE : vfC (seg (pplR (seg l1 0 n1) m) 0 m) (seg ((evLs (pplR (seg l1 0 n1) m) p q).set (0 + Int.toNat 0) (IntKind.i64.wrap (a0 + IntKind.i64.wrap (100 * IntKind.i64.wrap r0.2.2.1)))) 0 m) = vfC (pplR (seg l1 0 n1) m) ((evLs (pplR (seg l1 0 n1) m) p q).set 0 (a0 + 100 * r0.2.2.1)) := by rw [hw0, show 0 + Int.toNat 0 = 0 from rfl, hsE2, hsR]
        obtain ⟨nm0, b0, u0, up0⟩ := r0
        refine loopW tabOk (E := [(16, s_a2Long), (17, s_a2v), (21, s_vf), (22, s_vf), (23, s_insT), (24, (s_wid (hal (s.2 - s.1))))]) ⟨ok_a2Long, ok_A2Value, ok_ValueFromI, ok_ValueFromS, ok_insT, ok_wid _, trivial⟩ [] (σ := Nat) (fun i => [(6, .sl 2 0 m 0), (7, .sl 3 0 m 0), (18, .ptr 4 0 0), (20, .int .i64 i)]) (fun i => [.arrO (.int .u8) l1 1, .arrO (.int .u8) l2 1, .arr (.prod .str (.prod (.int .i16) (.prod (.int .i16) .bool))) (pplR (seg l1 0 n1) m) 4 true, .arr (.int .i64) (evLs (pplR (seg l1 0 n1) m) p q) 1 true, .arr (.prod (.int .i64) (.int .i64)) [hal (s.2 - s.1)] 0 true]) (fun i => m - i) (fun i => i ≤ m) 0 (Nat.zero_le _) ?_ ?_
        · (repeat' ((try (conv => whnf)); first | (with_reducible first | refine And.intro ?_ ?_ | refine WX.of ?_) | exact zc | ((with_reducible refine VC.mk ?_); exact zw) | (with_reducible first | refine splitT ?_ | refine splitF ?_) | ((with_reducible refine splitM.mk (fun hsm => ?_) (fun hsm => ?_)) <;> (try exact zx)) | ((with_reducible refine splitB.mk (fun h => ?_) (fun h => ?_)) <;> (try simp only [zs, ne_eq] at h) <;> (try simp (disch := omega) only [w64] at h) <;> (try exact zx)) | (with_reducible intro hz; (try exact absurd hz (Nat.succ_ne_zero _)))))
        · intro i hi
          by_cases hlt2 : i < m
          · obtain ⟨r, hr⟩ := get_some (l := pplR (seg l1 0 n1) m) (i := i) (by omega)
            have hu := (hP.ok _ (List.mem_of_getElem? hr)).2.2
            have hw := t7 _ (List.mem_of_getElem? hr)
            obtain ⟨nm, b, u, up⟩ := r
            dsimp only at hu hw
            have hmu : u * (hal (s.2 - s.1)).2 ≤ 20 * 1000000000 := Int.le_trans (Int.mul_le_mul_of_nonneg_right hu.2 (by omega)) (Int.mul_le_mul_of_nonneg_left (by omega) (by omega))
            have hm0 : 0 ≤ u * (hal (s.2 - s.1)).2 := Int.mul_nonneg (by omega) (by omega)
            have hkw : decide (IntKind.i64.wrap (IntKind.i64.wrap u * (hal (s.2 - s.1)).2) < (hal (s.2 - s.1)).1) = false := by
              rw [w64 (n := u) (by omega), w64 (by omega)]
              apply decide_eq_false
              have h1 : (s.2 - s.1) * (hal (s.2 - s.1)).2 ≤ 2 * u * (hal (s.2 - s.1)).2 := Int.mul_le_mul_of_nonneg_right hw (by omega)
              have h2 : 2 * u * (hal (s.2 - s.1)).2 = 2 * (u * (hal (s.2 - s.1)).2) := Int.mul_assoc ..
              omega
            (repeat' ((try (conv => whnf)); first | (with_reducible first | refine And.intro ?_ ?_ | refine WX.of ?_) | exact zc | ((with_reducible refine VC.mk ?_); exact zw) | with_reducible refine atL_0 hr ?_ | ((with_reducible refine splitT_of ?_ ?_); (focus (simp only [hkw, Bool.not_true, Bool.not_false, decide_true, decide_false]; done))) | ((with_reducible refine splitF_of ?_ ?_); (focus (simp only [hkw, Bool.not_true, Bool.not_false, decide_true, decide_false]; done))) | (with_reducible first | refine splitT ?_ | refine splitF ?_) | ((with_reducible refine splitM.mk (fun hsm => ?_) (fun hsm => ?_)) <;> (try exact zx)) | ((with_reducible refine splitB.mk (fun h => ?_) (fun h => ?_)) <;> (try simp only [zs, ne_eq] at h) <;> (try simp (disch := omega) only [w64] at h) <;> (try exact zx)) | (with_reducible intro hz; (try exact absurd hz (Nat.succ_ne_zero _)))))
            refine ⟨i + 1, by omega, hlt2, ?_⟩
            (repeat' ((try (conv => whnf)); first | (with_reducible first | refine And.intro ?_ ?_ | refine WX.of ?_) | exact zc | ((with_reducible refine VC.mk ?_); exact zw) | (with_reducible first | refine splitT ?_ | refine splitF ?_) | ((with_reducible refine splitM.mk (fun hsm => ?_) (fun hsm => ?_)) <;> (try exact zx)) | ((with_reducible refine splitB.mk (fun h => ?_) (fun h => ?_)) <;> (try simp only [zs, ne_eq] at h) <;> (try simp (disch := omega) only [w64] at h) <;> (try exact zx)) | (with_reducible intro hz; (try exact absurd hz (Nat.succ_ne_zero _)))))
          · obtain rfl : i = m := by omega
            (repeat' ((try dsimp only); (try (conv => whnf)); first | (with_reducible first | refine And.intro ?_ ?_ | refine WX.of ?_) | exact zc | ((with_reducible refine VC.mk ?_); exact zw) | with_reducible refine atL_q hr0 (by decide) ?_ | with_reducible refine atL_q ha0 (by decide) ?_ | ((with_reducible refine VC.mk ?_); exact ⟨⟨by omega, by omega, hgR⟩, by rw [List.length_set]; omega, by omega⟩) | (with_reducible first | refine splitT ?_ | refine splitF ?_) | ((with_reducible refine splitM.mk (fun hsm => ?_) (fun hsm => ?_)) <;> (try exact zx)) | ((with_reducible refine splitB.mk (fun h => ?_) (fun h => ?_)) <;> (try simp only [zs, ne_eq] at h) <;> (try simp (disch := omega) only [w64] at h) <;> (try exact zx)) | (with_reducible intro hz; (try exact absurd hz (Nat.succ_ne_zero _)))))
            all_goals generalize vfC (seg (pplR (seg l1 0 n1) i) 0 i) (seg ((evLs (pplR (seg l1 0 n1) i) p q).set (0 + Int.toNat 0) (IntKind.i64.wrap (a0 + IntKind.i64.wrap (100 * IntKind.i64.wrap u0)))) 0 i) = V at *
            all_goals rw [← hcE] at hcd hc1
            · exact absurd (hc1 (by omega)) (by assumption)
            · exact VC.mk (congrArg SV.bool (decide_eq_true (by omega)))
end Go.Proofs.Ytghafpklomnhlaa.Eng
