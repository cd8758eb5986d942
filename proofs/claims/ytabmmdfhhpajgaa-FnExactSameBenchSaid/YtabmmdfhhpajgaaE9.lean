/- A text of this claim (E9): lemmas for the proof, no conditions of their own. -/
import Derived.Test.YtabmmdfhhpajgaaE8
set_option linter.unusedVariables false
set_option linter.unusedSimpArgs false
namespace Go.Proofs.Ytabmmdfhhpajgaa.Eng
open Go Go.RowKit

section
variable {P : Program} {T : Ty} {w0 w : World} {ι : Ren} {H : Heap} {t : List Value} {a : Act} {B : Nat}

/-- A row that is not read any more. -/
theorem HRel.kill (h : HRel w0 ι H w) (id : Nat) : HRel w0 ι (H.set id none) w := by
  have old : ∀ (j : Nat) (b : Blk), (H.set id none)[j]? = some (some b) → H[j]? = some (some b) := fun j b hx => by
    rw [List.getElem?_set] at hx
    split at hx
    · split at hx <;> simp at hx
    · exact hx
  exact ⟨h.below, fun j L hj => by simpa using h.dom j L hj, fun j L b hj hb => h.blk j L b hj (old j b hb),
    fun i j L M b b2 hi hj hne h1 hw h2 => h.sep i j L M b b2 hi hj hne (old i b h1) hw (old j b2 h2),
    fun j b hb => h.flat j b (old j b hb), fun j b hb => h.tot j b (old j b hb)⟩

theorem rowA_rel (hH : HRel w0 ι H w) {size m : Nat} {x x' : Value} {cs : List Value} (hx : VRel ι x x') (h : rowA H size x m = some cs) :
    ∃ cs', LRel ι cs cs' ∧ cs.length = m * size ∧ (Builtin.firstCells size m x').run P w = .ok ⟨cs'⟩ w := by
  unfold rowA at h
  split at h
  · rename_i ad n c
    split at h
    · rename_i hm
      cases hx with
      | sl b o n1 c1 L a' c' hL hn hz hl hxx ha =>
        obtain ⟨vs', g1, g2, g3⟩ := hH.cells h hL
        have hlen := loadA_length h
        refine ⟨vs', g3, hlen, ?_⟩
        rcases ha with rfl | h0
        · exact run_firstCells_some w size m _ n c' vs' g1 g2
        · have hm0 : m = 0 := by omega
          subst hm0
          have : vs' = [] := List.eq_nil_of_length_eq_zero (by simpa using g1)
          subst this
          exact run_firstCells_some w size 0 _ n c' [] (by simp) (fun j v hv => by simp at hv)
    · simp at h
  · split at h
    · rename_i hm; subst hm
      obtain rfl := Option.some.inj h
      cases hx
      exact ⟨[], .nil ι, by simp, run_firstCells_none w size 0 0 0⟩
    · simp at h
  · simp at h

theorem one_of {xs ys : List Value} (hr : LRel ι xs ys) (h : xs.all (·.oneCell') = true) : ∀ v ∈ ys, v.oneCell' = true := fun v hv => by
  obtain ⟨i, hi⟩ := List.mem_iff_getElem?.1 hv
  have hlt : i < xs.length := by have := (List.getElem?_eq_some_iff.1 hi).1; have := hr.1; omega
  have := hr.2 i xs[i] v (by simp [hlt]) hi
  rw [oneCell_rel this]
  exact (List.all_eq_true.1 h) _ (List.getElem_mem hlt)

/-- A grown row in a new block. -/
theorem grow_ok (hH : HRel w0 ι H w) (hB : B ≤ H.length) {H1 : Heap} (hlen1 : H1.length = H.length) (hH1 : HRel w0 ι H1 w.drew) (hoc : OCs B H H1) {e : TypeId} {size n : Nat} {cs cs' : List Value} {tail : Array Value} {fl : Bool}
    (hc : LRel ι cs cs') (hl : cs.length = n * size) {cap : Nat} (hcap : n ≤ cap) (hn0 : n ≠ 0) (ht : tail.size = (cap - n) * size) (hfl : fl = true → ∀ v ∈ cs, flatV v = true) {r : Result Next}
    (hr : r = .ok (.value (.slice (some ⟨w.heap.size, 0, none⟩) n cap)) (w.drew.alloc (.cells (cs'.toArray ++ tail) e))) :
    StepOk w0 ι B H r (.slice (some ⟨H.length, 0, none⟩) n (n + 1)) (H1 ++ [some ⟨cs, size, true, fl⟩]) := by
  have hp := hH1.push ⟨cs, size, true, fl⟩ (cs'.toArray ++ tail) e (by simp; have := hc.1; omega) (fun j v hv => by
    obtain ⟨v', h1, h2⟩ := hc.get hv
    refine ⟨v', ?_, h2⟩
    have : j < cs'.length := (List.getElem?_eq_some_iff.1 h1).1
    rw [Array.getElem?_append_left (by simpa using this)]
    simpa using h1) hfl
  rw [hlen1] at hp
  refine ⟨_, _, _, _, hr, .inl rfl, hp, .inr ?_, upd_ext ι _ _, hoc.trans (OCs.push B H1 _ (by omega)), by simp; omega⟩
  refine .sl _ _ _ _ ⟨w.heap.size, 0, (cs'.toArray ++ tail).size, size⟩ _ _ (by simp [upd]) hcap (by omega) (by omega) ?_ (.inl rfl)
  have : cs'.length = n * size := by rw [← hc.1, hl]
  simp only [Array.size_append, List.size_toArray, this, ht, ← Nat.add_mul, Nat.zero_add]
  rw [show n + (cap - n) = cap by omega]
  exact Nat.le_refl _

theorem append_zero (hT : TyOk P T) {t1 e : Nat} {de : TyD} {ty : TypeId} (hu : P.underlying t1 = some (.slice e)) (hde : T e = some de) {s' x' : Value}
    (hs : (∃ a n c, s' = .slice (some a) n c ∧ n ≤ c) ∨ s' = .slice none 0 0) (hx : (∃ a c, x' = .slice a 0 c)) :
    (Builtin.append_ #[t1, t1] ty #[s', x']).run P w = .ok s' w := by
  obtain ⟨ax, cx, rfl⟩ := hx
  have hf : (Builtin.firstCells de.size 0 (.slice ax 0 cx)).run P w = .ok #[] w := by
    cases ax with
    | none => exact run_firstCells_none w _ _ _ _
    | some ad => exact run_firstCells_some w _ 0 ad 0 cx [] (by simp) (fun j v hv => by simp at hv)
  rcases hs with ⟨a, n, c, rfl, hn⟩ | rfl
  · simp [Builtin.append_, run_underlying hu, hT.sizeOf hde, Builtin.lenOf, hn, hf, storeCells]
  · simp [Builtin.append_, run_underlying hu, hT.sizeOf hde, Builtin.lenOf, hf]

theorem appendA_run (hT : TyOk P T) (hH : HRel w0 ι H w) (hB : B ≤ H.length) {t1 t2 : Nat} {s s' x x' v : Value} {ty : TypeId} {H' : Heap} (hs : VRel ι s s') (hx : VRel ι x x') (h : appendA T B t1 t2 s x H = some (v, H')) :
    StepOk w0 ι B H (((Builtin.append_ #[t1, t2] ty #[s', x']).run P w).andThen fun v w => .ok (.value v) w) v H' := by
  unfold appendA at h
  split at h
  · rename_i ht; subst ht
    split at h
    · rename_i e de xa m xc he
      obtain ⟨hu, hde⟩ := elemT_eq hT he
      obtain ⟨i, z, g1, g2, g3, g4, g5⟩ := (hT e de hde).info
      have hzl := (hT e de hde).zlen
      have hzs : z.cells.size = de.size := by rw [← hzl, ← g5]; simp
      split at h
      · rename_i hm0; subst hm0
        split at h
        · rename_i sa sn sc
          simp only [Option.some.injEq, Prod.mk.injEq] at h
          obtain ⟨rfl, rfl⟩ := h
          have hr := append_zero (P := P) (w := w) hT (ty := ty) hu hde (s' := s') (x' := x') (by
            cases hs with
            | nilSl => exact .inr rfl
            | sl b o n c L a' c' hL hn => exact .inl ⟨a', _, _, rfl, hn⟩) (by cases hx <;> exact ⟨_, _, rfl⟩)
          rw [hr]
          exact StepOk.pure hH rfl (.inr hs)
        · simp at h
      · rename_i hm0
        split at h
        · simp at h
        · rename_i news hnews
          have hnc : ∃ ad, xa = some ad := by cases xa with
            | none => cases hx; simp at hm0
            | some ad => exact ⟨ad, rfl⟩
          obtain ⟨ad, rfl⟩ := hnc
          cases hx with
          | sl b2 o2 n2 c2 L2 a2 c2' hL2 hn2 hz2 hl2 hxx2 ha2 =>
          have ha2' := ha2.resolve_right (by omega)
          subst ha2'
          simp only [rowA] at hnews
          rw [if_pos (Nat.le_refl _)] at hnews
          obtain ⟨news2, q1, q2, q3⟩ := hH.cells hnews hL2
          have hnl := loadA_length hnews
          simp only at h
          split at h
          · -- nothing yet
            split at h
            · rename_i hc
              obtain ⟨k1, k2, k3⟩ := hc
              simp only [Option.some.injEq, Prod.mk.injEq] at h
              obtain ⟨rfl, rfl⟩ := h
              cases hs
              have hr := run_append_nil (P := P) w t1 ty e i z hu g1 g4 _ m c2' news2 (by rw [g2]; exact q1) q2 (by omega) (by omega) (by rw [g3]; omega)
              rw [hr]
              refine grow_ok hH hB rfl (hH.drewW _) (.refl _ _) q3 hnl (grownCap_ge w m 0 e) hm0 ?_ (fun hf v hv => ?_) rfl
              · simp [size_zeroCells, hzs]
              · simp only [Bool.and_eq_true] at hf
                exact (List.all_eq_true.1 hf.2) v hv
            · simp at h
          · rename_i sa n c
            split at h
            · rename_i hc
              obtain ⟨k1, k2, k3⟩ := hc
              split at h
              · simp at h
              · rename_i olds holds
                cases hs with
                | sl b o n1 c1 L a' c' hL hn hz hl hxx ha =>
                obtain ⟨olds2, p1, p2, p3⟩ := hH.cells holds hL
                have hol := loadA_length holds
                have hlen2 : (olds ++ news).length = (n + m) * de.size := by rw [List.length_append, hol, hnl, Nat.add_mul]
                have hfla : ∀ fl, (fl && (olds ++ news).all flatV) = true → ∀ v ∈ olds ++ news, flatV v = true := fun fl hf v hv => by
                  simp only [Bool.and_eq_true] at hf
                  exact (List.all_eq_true.1 hf.2) v hv
                have hgrow : c' < n + m → ∀ (H1 : Heap), H1.length = H.length → HRel w0 ι H1 w.drew → OCs B H H1 →
                    StepOk w0 ι B H (((Builtin.append_ #[t1, t1] ty #[.slice (some a') n c', .slice (some ⟨L2.blk, L2.off + o2, none⟩) m c2']).run P w).andThen fun v w => .ok (.value v) w)
                      (.slice (some ⟨H.length, 0, none⟩) (n + m) (n + m + 1)) (H1 ++ [some ⟨olds ++ news, de.size, true, de.fl && (olds ++ news).all flatV⟩]) := by
                  intro hg H1 e1 e2 e3
                  have hho : ∀ j v, olds2[j]? = some v → w.cell? (a'.add j) = some v := by
                    rcases ha with rfl | h0
                    · exact p2
                    · have : n = 0 := by omega
                      subst this
                      have : olds2 = [] := List.eq_nil_of_length_eq_zero (by simpa using p1)
                      subst this
                      intro j v hv; simp at hv
                  have hr := run_append_grow (P := P) w t1 ty e i z hu g1 g4 a' n c' olds2 (by rw [g2]; exact p1) hho _ m c2' news2 (by rw [g2]; exact q1) q2 hg (by omega) (by rw [g3]; exact growslice_fits hg k1)
                  rw [hr]
                  refine grow_ok hH hB e1 e2 e3 (p3.append q3) hlen2 (grownCap_ge w (n + m) c' e) (by omega) ?_ (hfla de.fl) ?_ (tail := Builtin.zeroCells z.cells (grownCap w (n + m) c' e - (n + m))) (e := e)
                  · simp [size_zeroCells, hzs]
                  · simp
                split at h
                · rename_i hc0; subst hc0
                  simp only [Option.some.injEq, Prod.mk.injEq] at h
                  obtain ⟨rfl, rfl⟩ := h
                  have : c' = 0 := hz rfl
                  subst this
                  exact hgrow (by omega) H rfl (hH.drewW _) (.refl _ _)
                · rename_i hc0
                  have hroomrun : n + m ≤ c' → a' = ⟨L.blk, L.off + o, none⟩ := fun hg => ha.resolve_right (by omega)
                  split at h
                  · rename_i hlt
                    cases hst : storeA B H b (o + n * de.size) news with
                    | none => simp [hst] at h
                    | some H2 =>
                      simp only [hst, Option.map_some, Option.some.injEq, Prod.mk.injEq] at h
                      obtain ⟨rfl, rfl⟩ := h
                      obtain ⟨w', r1, r2, r3, r4⟩ := hH.store (P := P) hst hL q3
                      have hg : n + m ≤ c' := by omega
                      have := hroomrun hg; subst this
                      have hf := run_firstCells_some (P := P) w de.size m ⟨L2.blk, L2.off + o2, none⟩ m c2' news2 q1 q2
                      have hr : (Builtin.append_ #[t1, t1] ty #[.slice (some ⟨L.blk, L.off + o, none⟩) n c', .slice (some ⟨L2.blk, L2.off + o2, none⟩) m c2']).run P w = .ok (.slice (some ⟨L.blk, L.off + o, none⟩) (n + m) c') w' := by
                        simp [Builtin.append_, run_underlying hu, hT.sizeOf hde, Builtin.lenOf, hg, hf, addr_add, Nat.add_assoc, r1]
                      rw [hr]
                      exact ⟨_, _, _, ι, rfl, .inl rfl, r2, .inr (.sl _ _ _ _ L _ _ hL hg hz hl hxx (.inl rfl)), .refl _ _, r3, by omega⟩
                  · rename_i hge
                    split at h
                    · rename_i bk hbk
                      split at h
                      · rename_i hw
                        obtain ⟨hwr, hsz⟩ := hw
                        simp only [Option.some.injEq, Prod.mk.injEq] at h
                        obtain ⟨rfl, rfl⟩ := h
                        have hbk0 := getB_eq.1 hbk
                        by_cases hg : n + m ≤ c'
                        · have := hroomrun hg; subst this
                          obtain ⟨c, e0, fr, hc, hav, hbl, hLs, hcell, hwo⟩ := hH.blk b L bk hL hbk0
                          obtain ⟨hold, rfl⟩ := hwo hwr
                          have hLd : L.sz = de.size := hLs.trans hsz
                          rw [hLd] at hxx
                          have hmul : (n + m) * de.size ≤ c' * de.size := Nat.mul_le_mul_right _ hg
                          have hmul2 : (n + m) * de.size = n * de.size + m * de.size := Nat.add_mul _ _ _
                          have hf := run_firstCells_some (P := P) w de.size m ⟨L2.blk, L2.off + o2, none⟩ m c2' news2 q1 q2
                          have hst := run_storeCells_at P L.blk (L.off + o + n * de.size) e0 news2 0 c w hc (by rw [q1]; omega) (one_of q3 k3)
                          have hr : (Builtin.append_ #[t1, t1] ty #[.slice (some ⟨L.blk, L.off + o, none⟩) n c', .slice (some ⟨L2.blk, L2.off + o2, none⟩) m c2']).run P w = .ok (.slice (some ⟨L.blk, L.off + o, none⟩) (n + m) c')
                              (w.setRow L.blk (c.toList.take (L.off + o + n * de.size + 0) ++ news2 ++ c.toList.drop (L.off + o + n * de.size + 0 + news2.length)).toArray) := by
                            simp only [Nat.add_zero] at hst ⊢
                            simp [Builtin.append_, run_underlying hu, hT.sizeOf hde, Builtin.lenOf, hg, hf, addr_add, hst]
                          rw [hr]
                          have hrel := p3.append q3
                          have hcs : c.size = c.toList.length := rfl
                          have hrg := hH.regrow (o := o) (b' := ⟨olds ++ news, de.size, true, de.fl && (olds ++ news).all flatV⟩) (c' := (c.toList.take (L.off + o + n * de.size + 0) ++ news2 ++ c.toList.drop (L.off + o + n * de.size + 0 + news2.length)).toArray) hL hbk0 hwr (by omega) hLd.symm (by simp only; rw [hlen2]; omega) (hfla de.fl)
                            ⟨c, e0, hc, rfl, by simp [q1]; omega⟩ (fun j v hv => by
                              obtain ⟨v', h1, h2⟩ := hrel.get hv
                              refine ⟨v', ?_, h2⟩
                              by_cases hj : j < n * de.size
                              · rw [List.getElem?_append_left (by rw [p1]; exact hj)] at h1
                                have h1' := p2 j v' h1
                                rw [addr_add, cell_of_row w L.blk _ c e0 (0, 0) hc] at h1'
                                rw [List.getElem?_toArray, List.getElem?_append_left (by simp [q1]; omega), List.getElem?_append_left (by simp; omega), List.getElem?_take, if_pos (by omega)]
                                simpa using h1'
                              · rw [List.getElem?_append_right (by rw [p1]; omega), p1] at h1
                                have hj2 : j - n * de.size < m * de.size := by have := (List.getElem?_eq_some_iff.1 h1).1; rw [q1] at this; exact this
                                rw [List.getElem?_toArray, List.getElem?_append_left (by simp [q1]; omega), List.getElem?_append_right (by simp; omega)]
                                simp only [List.length_take, ← hcs]
                                rw [show L.off + o + j - min (L.off + o + n * de.size + 0) c.size = j - n * de.size by omega]
                                exact h1)
                          refine ⟨_, _, _, _, rfl, .inl rfl, hrg, .inr ?_, upd_ext ι _ _, (OCs.kill B H b).trans (OCs.push B _ _ (by simpa using hB)), by simp⟩
                          refine .sl _ _ _ _ ⟨L.blk, L.off + o, L.avail - o, L.sz⟩ _ _ (by simp [upd]) hg (by omega) (by omega) ?_ (.inl (by simp))
                          simp only [hLd]; omega
                        · exact hgrow (by omega) (H.set b none) (by simp) ((hH.drewW _).kill b) (OCs.kill B H b)
                      · simp at h
                    · simp at h
            · simp at h
          · simp at h
    · simp at h
  · simp at h

theorem copyA_run (hT : TyOk P T) (hH : HRel w0 ι H w) (hB : B ≤ H.length) {t1 : Nat} {tys : Array TypeId} {d d' s s' v : Value} {ty : TypeId} {H' : Heap} (hty : tys[0]? = some t1) (hd : VRel ι d d') (hs : VRel ι s s') (h : copyA T B t1 d s H = some (v, H')) :
    StepOk w0 ι B H (((Builtin.copy_ tys ty #[d', s']).run P w).andThen fun v w => .ok (.value v) w) v H' := by
  unfold copyA at h
  split at h
  · rename_i e de da n dc sa m sc he
    obtain ⟨hu, hde⟩ := elemT_eq hT he
    split at h
    · rename_i h0
      simp only [Option.some.injEq, Prod.mk.injEq] at h
      obtain ⟨rfl, rfl⟩ := h
      have hd2 : ∃ da' dc', d' = .slice da' n dc' := by cases hd <;> exact ⟨_, _, rfl⟩
      have hs2 : ∃ sa' sc', s' = .slice sa' m sc' := by cases hs <;> exact ⟨_, _, rfl⟩
      obtain ⟨da', dc', rfl⟩ := hd2
      obtain ⟨sa', sc', rfl⟩ := hs2
      have hf : (Builtin.firstCells de.size 0 (.slice sa' m sc')).run P w = .ok #[] w := by
        cases sa' with
        | none => exact run_firstCells_none w _ _ _ _
        | some ad => exact run_firstCells_some w _ 0 ad m sc' [] (by simp) (fun j v hv => by simp at hv)
      have h0' : Nat.min m n = 0 := h0
      have hr : (Builtin.copy_ tys ty #[.slice da' n dc', .slice sa' m sc']).run P w = .ok (.int .i64 0) w := by
        cases da' <;> simp [Builtin.copy_, hty, run_underlying hu, hT.sizeOf hde, Builtin.lenOf, h0', hf, storeCells, goInt]
      rw [hr]
      exact StepOk.pure hH rfl (.inr (.int _ _))
    · rename_i h0
      split at h
      · rename_i cs ad hcs
        cases hst : storeA B H ad.block ad.off cs with
        | none => simp [hst] at h
        | some H2 =>
          simp only [hst, Option.map_some, Option.some.injEq, Prod.mk.injEq] at h
          obtain ⟨rfl, rfl⟩ := h
          obtain ⟨cs', r1, r2, r3⟩ := rowA_rel (P := P) hH hs hcs
          cases hd with
          | sl b o n1 c1 L a' c' hL hn hz hl hxx ha =>
          have ha' := ha.resolve_right (by omega)
          subst ha'
          obtain ⟨w', q1, q2, q3, q4⟩ := hH.store (P := P) hst hL r1
          have hs2 : ∃ sa' sc', s' = .slice sa' m sc' := by cases hs <;> exact ⟨_, _, rfl⟩
          obtain ⟨sa', sc', rfl⟩ := hs2
          have hr3 : (Builtin.firstCells de.size (Nat.min m n) (.slice sa' m sc')).run P w = .ok ⟨cs'⟩ w := r3
          have hr : (Builtin.copy_ tys ty #[.slice (some ⟨L.blk, L.off + o, none⟩) n c', .slice sa' m sc']).run P w = .ok (.int .i64 ((min m n : Nat) : Int)) w' := by
            simp only [Builtin.copy_]
            simp [hty, run_underlying hu, hT.sizeOf hde, Builtin.lenOf, hr3, q1, goInt]
          rw [hr]
          exact ⟨_, _, _, ι, rfl, .inl rfl, q2, .inr (.int _ _), .refl _ _, q3, by omega⟩
      · simp at h
  · simp at h

theorem clearA_run (hT : TyOk P T) (hH : HRel w0 ι H w) (hB : B ≤ H.length) {t1 : Nat} {x x' v : Value} {ty : TypeId} {H' : Heap} (hx : VRel ι x x') (h : clearA T B t1 x H = some (v, H')) :
    StepOk w0 ι B H (((Builtin.clear_ #[t1] ty #[x']).run P w).andThen fun v w => .ok (.value v) w) v H' := by
  unfold clearA at h
  split at h
  · rename_i e de xa n xc he
    obtain ⟨hu, hde⟩ := elemT_eq hT he
    obtain ⟨z, hz, hzc⟩ := hT.zeroValue (w := w) hde
    split at h
    · rename_i h0; subst h0
      simp only [Option.some.injEq, Prod.mk.injEq] at h
      obtain ⟨rfl, rfl⟩ := h
      have hr : (Builtin.clear_ #[t1] ty #[x']).run P w = .ok (.tuple #[]) w := by
        cases hx <;> simp [Builtin.clear_, run_underlying hu]
      rw [hr]
      exact StepOk.pure hH rfl (.inr (.tuple _ _ rfl (fun i v v' h => by simp at h)))
    · rename_i h0
      split at h
      · rename_i ad
        cases hst : storeA B H ad.block ad.off (zerosL de.zero n) with
        | none => simp [hst] at h
        | some H2 =>
          simp only [hst, Option.map_some, Option.some.injEq, Prod.mk.injEq] at h
          obtain ⟨rfl, rfl⟩ := h
          cases hx with
          | sl b o n1 c1 L a' c' hL hn hz' hl hxx ha =>
          have ha' := ha.resolve_right (by omega)
          subst ha'
          have hfl := zerosL_flat (hT e de hde).zflat n
          obtain ⟨w', q1, q2, q3, q4⟩ := hH.store (P := P) hst hL (LRel.flat hfl)
          have hm : (Builtin.zeroCells z.cells n).toList = zerosL de.zero n := by rw [← hzc]; exact zeros_range z.cells n
          have hr : (Builtin.clear_ #[t1] ty #[.slice (some ⟨L.blk, L.off + o, none⟩) n c']).run P w = .ok (.tuple #[]) w' := by
            obtain ⟨n, rfl⟩ : ∃ k, n = k + 1 := ⟨n - 1, by omega⟩
            simp [Builtin.clear_, run_underlying hu, hz, hm, q1]
          rw [hr]
          exact ⟨_, _, _, ι, rfl, .inl rfl, q2, .inr (.tuple _ _ rfl (fun i v v' h => by simp at h)), .refl _ _, q3, by omega⟩
      · simp at h
  · simp at h
end
end Go.Proofs.Ytabmmdfhhpajgaa.Eng
