/- A text of this claim (S5): lemmas for the proof, no conditions of their own. -/
import Derived.Test.YtabmmdfhhpajgaaS4
set_option linter.unusedVariables false
set_option linter.unusedSimpArgs false
namespace Go.Proofs.Ytabmmdfhhpajgaa.Eng
open Go Go.RowKit
section
variable {P : Program} {T : Ty} {Q : Nat → Bool} {ρ ρ' : Nm} {S S' : List SB} {H H' : Heap} {t : List SV} {t' : List Value} {B k : Nat} {o : Oper}

theorem all_flat_splice {ea cs : List SV} {o : Nat} (h : (spliceS ea o cs).all flatS = true) : cs.all flatS = true := by
  unfold spliceS at h
  simp only [List.all_append, Bool.and_eq_true] at h
  exact h.1.2
theorem one_dr {xs : List SV} {ys : List Value} (h : LDR ρ xs ys) (hf : xs.all (fun v => match v with | .agg _ => false | .tup _ => false | .arrV _ _ => false | _ => true) = true) : ys.all (·.oneCell') = true := by
  induction xs generalizing ys with
  | nil => rw [h.inv_nil]; rfl
  | cons v xs ih =>
    obtain ⟨v', ys', rfl, h1, h2⟩ := h.inv_cons
    simp only [List.all_cons, Bool.and_eq_true] at hf ⊢
    exact ⟨by cases h1 <;> first | rfl | simp at hf, ih h2 hf.2⟩
theorem putB_ok (hD : Den ρ S H) (hd : Dom ρ S H) (hB : ∀ b id w, k ≤ b → ρ b = some (id, w) → B ≤ id) {b i o id w : Nat} {cs : List SV} {cs' : List Value} (hb : ρ b = some (id, w)) (hc : LDR ρ cs cs') {K : List SB → Prop} (h : putB k S b i o cs K) :
    ∃ S' H', K S' ∧ storeA B H id (i * w + o) cs' = some H' ∧ Step ρ S H ρ S' H' := by
  unfold putB at h
  split at h
  · rename_i e l sz hS
    split at h
    · rename_i hle
      have hle := Nat.le_of_ble_eq_true hle
      obtain ⟨a, ha, h⟩ := atL_iff.1 h
      split at h
      · rename_i a' hdec
        rw [setK_iff] at h
        obtain ⟨kb, hk, rfl, hsz, hwr, hkf, hcells⟩ := hD.get hS rfl hb
        obtain ⟨X, Y, e1, e2, e3⟩ := flat_at ha
        have hsp := e.dec_ok _ _ _ hdec
        rw [List.append_nil] at hsp
        have hfl : cs.all flatS = true := all_flat_splice (by rw [hsp]; exact e.enc_flat a')
        have hfv : cs'.all flatV = true := hc.flat hfl
        have hlen : i * e.w + o + cs'.length ≤ kb.cells.length := by
          rw [← hcells.1, e2, ← hc.1]; simp [e1, e.enc_len]; omega
        refine ⟨_, H.set id (some { kb with cells := splice kb.cells (i * e.w + o) cs' }), h, ?_, Step.put hD hd hb fun _ => ⟨_, rfl, rfl, hsz, hwr, hkf, ?_⟩⟩
        · unfold storeA
          rw [hk]
          simp only
          rw [if_pos ⟨hwr rfl, hlen, hc.one hfl, fun _ => hfv⟩]
        · rw [e3 a', ← hsp, ← splice_at e1 (by rw [e.enc_len]; exact hle), ← e2]
          exact spliceS_ldr hcells hc _
      · exact h.elim
    · exact h.elim
  · rename_i cs0 fl hS
    split at h
    · split at h
      · rename_i hle
        have hle := Nat.le_of_ble_eq_true hle
        split at h
        · rename_i hok
          rw [forceL_iff, setK_iff] at h
          obtain ⟨kb, hk, hcells, hsz, hwr, hfl⟩ := hD.get hS rfl hb
          have hone : cs'.all (·.oneCell') = true := by
            simp only [Bool.or_eq_true, Bool.and_eq_true] at hok
            rcases hok with hok | hok
            · exact hc.one hok
            · exact one_dr hc hok.2
          have hflat : (kb.fl = true ∨ id < B) → cs'.all flatV = true := by
            simp only [Bool.or_eq_true, Bool.and_eq_true, Bool.not_eq_true'] at hok
            rcases hok with hok | ⟨⟨h1, h2⟩, _⟩
            · intro _; exact hc.flat hok
            · rintro (h3 | h3)
              · rw [hfl, h1] at h3; simp at h3
              · have := hB b id w (Nat.le_of_ble_eq_true h2) hb; omega
          refine ⟨_, H.set id (some { kb with cells := splice kb.cells (0 * w + o) cs' }), h, ?_, Step.put hD hd hb fun _ => ⟨_, rfl, ?_, hsz, hwr, hfl⟩⟩
          · unfold storeA
            rw [hk]
            simp only
            rw [if_pos ⟨hwr rfl, by rw [← hcells.1, ← hc.1]; omega, hone, hflat⟩]
          · have := spliceS_ldr hcells hc o
            simpa using this
        · exact h.elim
      · exact h.elim
    · exact h.elim
  · exact h.elim
theorem putA_ok (hD : Den ρ S H) (hd : Dom ρ S H) {d : TyD} {b id w : Nat} {e : ET} {l : List e.T} {cs' : List Value} (hb : ρ b = some (id, w)) (hc : LDR ρ (l.flatMap e.enc) cs') {K : List SB → Prop} (h : putA d S b e l K) :
    ∃ S' H', K S' ∧ storeA B H id 0 cs' = some H' ∧ cs'.length = d.size ∧ Step ρ S H ρ S' H' := by
  unfold putA at h
  split at h
  · rename_i e' l0 sz hS
    split at h
    · rename_i he
      subst he
      obtain ⟨⟨h1, h2⟩, h⟩ := h
      rw [setK_iff] at h
      obtain ⟨kb, hk, rfl, hsz, hwr, hkf, hcells⟩ := hD.get hS rfl hb
      have hlen : cs'.length = kb.cells.length := by rw [← hc.1, ← hcells.1, flat_len, flat_len, h1]
      have hsp : splice kb.cells 0 cs' = cs' := by
        unfold splice
        simp [hlen]
      refine ⟨_, H.set id (some { kb with cells := splice kb.cells 0 cs' }), h, ?_, by rw [← hc.1, flat_len, h2], Step.put hD hd hb fun _ => ⟨_, rfl, rfl, hsz, hwr, hkf, by simp only [hsp]; exact hc⟩⟩
      unfold storeA
      rw [hk]
      simp only
      rw [if_pos ⟨hwr rfl, by omega, hc.one (flat_all l), fun _ => hc.flat (flat_all l)⟩]
    · exact h.elim
  · exact h.elim
theorem storeS_ok (hD : Den ρ S H) (hd : Dom ρ S H) (hB : ∀ b id w, k ≤ b → ρ b = some (id, w) → B ≤ id) {d : TyD} {ty : Nat} (hty : tyOf P ty = some d) {v y : SV} {v' y' : Value} (hv : DR ρ v v') (hy : DR ρ y y') {K : List SB → Prop} (h : storeS k d S v y K) :
    ∃ S' H', K S' ∧ storeVarA (tyOf P) B ty v' y' H = some H' ∧ Step ρ S H ρ S' H' := by
  have fin : ∀ {b i o id w : Nat}, ρ b = some (id, w) → (cellsS y).length = d.size → putB k S b i o (cellsS y) K → ∃ S' H', K S' ∧ storeVarA (tyOf P) B ty (.pointer (some ⟨id, i * w + o, none⟩)) y' H = some H' ∧ Step ρ S H ρ S' H' := fun hb hl h => by
    have hcy := cells_dr hy
    obtain ⟨S', H', h1, h2, h3⟩ := putB_ok hD hd hB hb hcy h
    refine ⟨S', H', h1, ?_, h3⟩
    unfold storeVarA
    simp only [hty]
    rw [if_pos (by rw [← hcy.1]; exact hl)]
    exact h2
  have finA : ∀ {b id w : Nat} {e : ET} {l : List e.T}, ρ b = some (id, w) → cellsS y = l.flatMap e.enc → putA d S b e l K → ∃ S' H', K S' ∧ storeVarA (tyOf P) B ty (.pointer (some ⟨id, 0 * w + 0, none⟩)) y' H = some H' ∧ Step ρ S H ρ S' H' := fun hb hl h => by
    have hcy := cells_dr hy
    rw [hl] at hcy
    obtain ⟨S', H', h1, h2, h3, h4⟩ := putA_ok (B := B) hD hd hb hcy h
    refine ⟨S', H', h1, ?_, h4⟩
    unfold storeVarA
    simp only [hty, Nat.zero_mul, Nat.add_zero]
    rw [if_pos h3]
    exact h2
  have finV : ∀ {b i o id w : Nat}, ρ b = some (id, w) → putV k d S b i o y K → ∃ S' H', K S' ∧ storeVarA (tyOf P) B ty (.pointer (some ⟨id, i * w + o, none⟩)) y' H = some H' ∧ Step ρ S H ρ S' H' := fun hb h => by
    unfold putV at h
    rw [forceL_iff] at h
    split at h
    · rename_i hl
      exact fin hb (by simpa using hl) h
    · exact h.elim
  unfold storeS at h
  split at h
  · rename_i b i o
    cases hv with | ptr _ _ _ id w hb =>
    split at h
    · split at h
      · split at h
        · split at h
          · exact finA hb rfl h
          · rw [forceL_iff] at h
            split at h
            · rename_i hl
              have hl : (cellsS y).length = d.size := by simpa using hl
              split at h
              · split at h
                · rename_i l0 hdec
                  exact finA hb (decN_ok hdec).1.symm h
                · exact h.elim
              · exact fin hb hl h
            · exact h.elim
        · exact finV hb h
      · exact finV hb h
    · exact finV hb h
  · exact h.elim
theorem buildS_ok (hT : TabOk P T Q) {ty : Nat} {d : TyD} (hty : T ty = some d) {l : List (Nat × SV)} {l' : List (Nat × Value)} (hl : PDR ρ l l') {K : SV → Prop} (h : buildS T d l K) : ∃ v v', K v ∧ buildA (tyOf P) ty l' = some v' ∧ DR ρ v v' := by
  have offs : ∀ (fs : List Field) (pl : List (Nat × Nat)), offsL T fs = some pl → offsL (tyOf P) fs = some pl := by
    intro fs
    induction fs with
    | nil => intro pl h; exact h
    | cons f r ih =>
      intro pl h
      simp only [offsL] at h ⊢
      split at h
      · rename_i d l h1 h2
        rw [hT.1 _ _ h1, ih _ h2]; exact h
      · simp at h
  unfold buildS at h
  unfold buildA
  rw [hT.1 _ _ hty]
  simp only
  split at h
  · rename_i fs hu
    split at h
    · rename_i pl hpl
      split at h
      · rename_i z hz
        split at h
        · rename_i cs hcs
          rw [forceL_iff] at h
          obtain ⟨r', h1, h2⟩ := fillS_ok (fun i => getT_eq pl i) (ofVs_ok hz).1 hl hcs
          exact ⟨_, .agg ⟨r'⟩, h, by simp only [hu, offs _ _ hpl, h1]; rfl, .agg _ _ h2.1 h2.2⟩
        · exact h.elim
      · exact h.elim
    · exact h.elim
  · rename_i n e hu
    split at h
    · rename_i de hde
      split at h
      · rename_i z hz
        split at h
        · rename_i cs hcs
          rw [forceL_iff] at h
          obtain ⟨r', h1, h2⟩ := fillS_ok (fun i => rfl) (ofVs_ok hz).1 hl hcs
          exact ⟨_, .agg ⟨r'⟩, h, by simp only [hu, hT.1 _ _ hde, h1]; rfl, .agg _ _ h2.1 h2.2⟩
        · exact h.elim
      · exact h.elim
    · exact h.elim
  · exact h.elim
theorem maxS_ok {k : IntKind} : ∀ {r : List SV} {r' : List Value} {x : Int} {K : SV → Prop}, LDR ρ r r' → maxS k x r K → ∃ v v', K v ∧ maxA (.int k x) r' = some v' ∧ DR ρ v v'
  | [], r', x, K, hr, h => by rw [hr.inv_nil]; exact ⟨_, _, h, rfl, .int _ _⟩
  | v :: r, r', x, K, hr, h => by
    obtain ⟨v', r', rfl, h1, h2⟩ := hr.inv_cons
    cases h1 <;> simp only [maxS] at h
    obtain ⟨v, v', a, b, c⟩ := maxS_ok h2 h
    exact ⟨v, v', a, by simpa only [maxA] using b, c⟩
theorem minS_ok {k : IntKind} : ∀ {r : List SV} {r' : List Value} {x : Int} {K : SV → Prop}, LDR ρ r r' → minS k x r K → ∃ v v', K v ∧ minA (.int k x) r' = some v' ∧ DR ρ v v'
  | [], r', x, K, hr, h => by rw [hr.inv_nil]; exact ⟨_, _, h, rfl, .int _ _⟩
  | v :: r, r', x, K, hr, h => by
    obtain ⟨v', r', rfl, h1, h2⟩ := hr.inv_cons
    cases h1 <;> simp only [minS] at h
    obtain ⟨v, v', a, b, c⟩ := minS_ok h2 h
    exact ⟨v, v', a, by simpa only [minA] using b, c⟩
theorem sliceS_ok (hT : TabOk P T Q) (hD : Den ρ S H) {ty : Nat} {v : SV} {v' : Value} (hv : DR ρ v v') {lo hi mx : Option Int} {K : SV → Prop} (h : sliceS T ty S v lo hi mx K) : ∃ u u', K u ∧ sliceA (tyOf P) ty v' lo hi mx H = some u' ∧ DR ρ u u' := by
  unfold sliceS at h
  split at h
  · exact h.elim
  · rename_i d hd
    have hd' := hT.1 _ _ hd
    unfold sliceA
    rw [hd']
    simp only
    split at h
    · rename_i s
      cases hv
      split at h
      · rename_i hu
        rw [hu]
        simp only
        split at h
        · have hsz : (ByteArray.mk ⟨s⟩).size = s.length := rfl
          have ext : ∀ a b : Nat, b ≤ s.length → (ByteArray.mk ⟨s⟩).extract a b = ⟨⟨(s.take b).drop a⟩⟩ := by
            intro a b hb
            apply ByteArray.ext
            rw [ByteArray.data_extract]
            apply Array.ext'
            simp [List.extract, List.drop_take]
          split at h
          · refine ⟨_, _, h, by rw [if_pos ⟨rfl, by simp, by simp, by simp⟩], ?_⟩
            simp only [Option.getD_none]
            have := ext 0 s.length (Nat.le_refl _)
            simp only [hsz, Int.toNat_zero, Int.toNat_natCast] at this ⊢
            rw [this]; simp; exact .str _
          · rename_i l
            obtain ⟨hv, h⟩ := h; have hv := hv.h
            refine ⟨_, _, h, by rw [if_pos ⟨rfl, by simpa using hv.1, by simp [hsz]; exact hv.2, by simp⟩], ?_⟩
            have := ext l.toNat s.length (Nat.le_refl _)
            simp only [Option.getD_none, Option.getD_some, hsz, Int.toNat_natCast]
            rw [this]; simp; exact .str _
          · rename_i h1
            obtain ⟨hv, h⟩ := h; have hv := hv.h
            refine ⟨_, _, h, by rw [if_pos ⟨rfl, by simp, by simpa using hv.1, by simpa [hsz] using hv.2⟩], ?_⟩
            have := ext 0 h1.toNat (by omega)
            simp only [Option.getD_none, Option.getD_some, Int.toNat_zero]
            rw [this]; simp; exact .str _
          · rename_i l h1
            obtain ⟨hv, h⟩ := h; have hv := hv.h
            refine ⟨_, _, h, by rw [if_pos ⟨rfl, by simpa using hv.1, by simpa using hv.2.1, by simpa [hsz] using hv.2.2⟩], ?_⟩
            have := ext l.toNat h1.toNat (by omega)
            simp only [Option.getD_some]
            rw [this]; exact .str _
        · exact h.elim
      · exact h.elim
    · rename_i b s n x
      cases hv with | sl _ _ _ _ id w hb =>
      split at h
      · rename_i el hu
        rw [hu]
        simp only
        split at h
        · rename_i de hde
          rw [hT.1 _ _ hde]
          split at h
          · rename_i e l sz wr hS
            split at h
            · rename_i hw
              simp only [Bool.and_eq_true, Nat.beq_eq] at hw
              obtain ⟨kb, hk, rfl, hsz, _, _⟩ := hD.get hS rfl hb
              rw [hk]
              simp only
              rw [if_pos (by rw [hsz]; exact hw.1)]
              have addr : ∀ a : Nat, s * e.w + a * de.size = (s + a) * e.w := fun a => by rw [← hw.2, Nat.add_mul]
              split at h
              · split at h
                · refine ⟨_, _, h, by rw [if_pos ⟨by simp, by simp, .inl (by simp), by simp; omega⟩], ?_⟩
                  simpa using DR.sl b s n x id e.w hb
                · rename_i l1
                  obtain ⟨hv, h⟩ := h; have hv := hv.h
                  refine ⟨_, _, h, by rw [if_pos ⟨by simpa using hv.1, by simpa using hv.2, .inl (by simp), by simp only [Option.getD_some]; omega⟩], ?_⟩
                  simp only [Option.getD_some, Option.getD_none, addr, Int.toNat_natCast]
                  rw [show n + x + 1 - l1.toNat = (n - l1.toNat) + x + 1 by omega]
                  exact .sl b _ _ _ id e.w hb
                · rename_i h1
                  obtain ⟨hv, h⟩ := h; have hv := hv.h
                  refine ⟨_, _, h, by rw [if_pos ⟨by simp, by simpa using hv.1, by simp only [Option.getD_some]; omega, by simp only [Option.getD_none]; omega⟩], ?_⟩
                  simp only [Option.getD_some, Option.getD_none, addr, Int.toNat_zero, Nat.add_zero, Nat.sub_zero]
                  rw [show n + x + 1 = h1.toNat + (n + x - h1.toNat) + 1 by omega]
                  exact .sl b _ _ _ id e.w hb
                · rename_i l1 h1
                  obtain ⟨hv, h⟩ := h; have hv := hv.h
                  refine ⟨_, _, h, by rw [if_pos ⟨by simpa using hv.1, by simpa using hv.2.1, by simp only [Option.getD_some]; omega, by simp only [Option.getD_some]; omega⟩], ?_⟩
                  simp only [Option.getD_some, addr]
                  rw [show n + x + 1 - l1.toNat = (h1.toNat - l1.toNat) + (n + x - h1.toNat) + 1 by omega]
                  exact .sl b _ _ _ id e.w hb
              · rename_i m
                split at h
                · exact h.elim
                · rename_i h1
                  obtain ⟨hv, h⟩ := h; have hv := hv.h
                  refine ⟨_, _, h, by dsimp only; rw [if_pos ⟨rfl, hv.1, by simpa using hv.2.1, by simpa using hv.2.2.1, by omega⟩], ?_⟩
                  simp only [Option.getD_some, addr]
                  rw [show m.toNat - (lo.getD 0).toNat + 1 = (h1.toNat - (lo.getD 0).toNat) + (m.toNat - h1.toNat) + 1 by omega]
                  exact .sl b _ _ _ id e.w hb
            · exact h.elim
          · exact h.elim
        · exact h.elim
      · exact h.elim
    · exact h.elim
theorem lenS_ok {v : SV} {v' : Value} (hr : DR ρ v v') {m : Nat} (h : lenS v = some m) : ∃ a c, v' = .slice a m c := by
  cases hr <;> simp [lenS] at h <;> subst h <;> exact ⟨_, _, rfl⟩
theorem appendS_ok (hT : TabOk P T Q) (hD : Den ρ S H) (hd : Dom ρ S H) {ty ty2 : Nat} {s v : SV} {s' v' : Value} (hs : DR ρ s s') (hv : DR ρ v v') {K : SV → List SB → Prop} (h : appendS T k ty ty2 S s v K) :
    ∃ u u' S' H' ρ', K u S' ∧ appendA (tyOf P) B ty ty2 s' v' H = some (u', H') ∧ DR ρ' u u' ∧ Step ρ S H ρ' S' H' := by
  unfold appendS at h
  split at h
  · exact h.elim
  · rename_i hty
    have hty : ty = ty2 := by simpa using hty
    subst hty
    have h' := elemK_ok hT h
    clear h
    obtain ⟨e, x, de, el, h, he, hw, _, hdf⟩ := h'
    split at h
    · exact h.elim
    · rename_i m hm
      obtain ⟨xa, xc, rfl⟩ := lenS_ok hv hm
      obtain ⟨h0, h1⟩ := h
      unfold appendA
      rw [if_pos rfl, he]
      simp only
      by_cases hm0 : m = 0
      · have h0 := h0 hm0
        rw [if_pos hm0]
        split at h0
        · cases hs; exact ⟨_, _, S, H, ρ, h0, rfl, by constructor <;> assumption, .refl hD hd⟩
        · cases hs; exact ⟨_, _, S, H, ρ, h0, rfl, .nils, .refl hD hd⟩
        · exact h0.elim
      · rw [if_neg hm0]
        have h' := rowS_ok hD hm hv (h1 hm0)
        clear h0 h1
        obtain ⟨news, news', xa', xc', h, e1, e2, e3, e4⟩ := h'
        obtain ⟨rfl, _, rfl⟩ := Value.slice.inj e1
        rw [hw, e2]
        simp only
        have hone : news'.all (·.oneCell') = true := e3.one (flat_all news)
        have hnf : news'.all flatV = true := e3.flat (flat_all news)
        split at h
        · cases hs
          obtain ⟨hv1, h⟩ := h
          obtain ⟨ρ', S', g1, g2, g3⟩ := push_ok (x := .arr e news de.size true) (w := e.w) (k := ⟨news', e.w, true, de.fl && news'.all flatV⟩) hD hd (fun ρ' hm => ⟨rfl, hw.symm, fun _ => rfl, by simp [hdf, hnf], e3.mono hm⟩) h
          refine ⟨_, .slice (some ⟨H.length, 0, none⟩) m (m + 1), S', H ++ [some ⟨news', e.w, true, de.fl && news'.all flatV⟩], ρ', g1, by rw [if_pos ⟨hv1.h.1, hv1.h.2, hone⟩]; rfl, sl0 g2, g3⟩
        · rename_i b st n xx
          cases hs with | sl _ _ _ _ id w hb =>
          obtain ⟨olds, olds', ya, yc, h, k1, k2, k3, k4⟩ := rowS_ok hD (m := n) rfl (DR.sl (ρ := ρ) b st n xx id w hb) h
          obtain ⟨rfl, _, rfl⟩ := Value.slice.inj k1
          obtain ⟨hv1, h⟩ := h
          split at h
          · split at h
            · rename_i e' l' sz hS
              split at h
              · rename_i hsz
                have hsz : sz = de.size := by simpa using hsz
                unfold killK at h
                rw [setK_iff] at h
                obtain ⟨kb, hk, _, hsz', hwr, _⟩ := hD.get hS rfl hb
                have hload : loadA H id (st * w) (n * e.w) = some olds' := by simpa [rowA] using k2
                dsimp only
                rw [if_pos ⟨hv1.h.1, hv1.h.2, hone⟩]
                simp only [hload]
                have st1 : Step ρ S H ρ (S.set b .gone) (H.set id none) := Step.put hD hd hb fun e => by simp [isGone] at e
                have cells : LDR ρ ((olds ++ news).flatMap e.enc) (olds' ++ news') := by rw [List.flatMap_append]; exact k3.append e3
                obtain ⟨ρ', S', g1, g2, g3⟩ := push_ok (x := .arr e (olds ++ news) de.size true) (w := e.w) (k := ⟨olds' ++ news', e.w, true, de.fl && (olds' ++ news').all flatV⟩) st1.den st1.dom (fun ρ' hm => ⟨rfl, hw.symm, fun _ => rfl, by rw [hdf, cells.flat (flat_all _)]; rfl, cells.mono hm⟩) h
                refine ⟨_, .slice (some ⟨H.length, 0, none⟩) (n + m) (n + m + 1), S', H.set id none ++ [some ⟨olds' ++ news', e.w, true, de.fl && (olds' ++ news').all flatV⟩], ρ', g1, ?_, sl0 (by simpa using g2), st1.trans g3⟩
                rw [if_neg (by omega), if_neg (by omega), hk]
                simp only
                rw [if_pos ⟨hwr rfl, by rw [hsz', hsz, hw]⟩]
              · exact h.elim
            · exact h.elim
          · exact h.elim
        · exact h.elim
end
end Go.Proofs.Ytabmmdfhhpajgaa.Eng
