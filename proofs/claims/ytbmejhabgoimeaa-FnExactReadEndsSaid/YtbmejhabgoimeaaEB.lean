/- A text of this claim (EB): lemmas for the proof, no conditions of their own. -/
import Derived.Test.YtbmejhabgoimeaaEA
import Derived.Laws.BytesString
set_option linter.unusedVariables false
set_option linter.unusedSimpArgs false
namespace Go.Proofs.Ytbmejhabgoimeaa.Eng
open Go Go.RowKit

section
variable {P : Program} {T : Ty} {w0 w : World} {ι : Ren} {H : Heap} {t : List Value} {a : Act} {B : Nat}

/-- What a bound of a cut is, in the machine's operands. -/
def IsInt (o : Option Int) (o' : Option Value) : Prop := match o, o' with
  | none, none => True
  | some n, some (.int _ m) => n = m
  | _, _ => False

theorem sliceBounds_run {isSlice : Bool} {len cap : Nat} {lo hi mx : Option Int} {lo' hi' mx' : Option Value} (h1 : IsInt lo lo') (h2 : IsInt hi hi') (h3 : IsInt mx mx')
    (hm : ∀ m, mx = some m → hi.isSome = true ∧ 0 ≤ m ∧ m ≤ (cap : Int) ∧ hi.getD len ≤ m) (h0 : 0 ≤ lo.getD 0) (hlh : lo.getD 0 ≤ hi.getD len) (hh : hi.getD len ≤ (cap : Int)) (hlen : mx = none → True) :
    (Instr.sliceBounds isSlice len cap lo' hi' mx').run P w = .ok ((lo.getD 0).toNat, (hi.getD len).toNat, (match mx with | none => cap | some m => m.toNat)) w := by
  cases mx with
  | none =>
    cases mx' with
    | some _ => simp [IsInt] at h3
    | none =>
      cases hi with
      | none =>
        cases hi' with
        | some _ => simp [IsInt] at h2
        | none =>
          cases lo with
          | none =>
            cases lo' with
            | some _ => simp [IsInt] at h1
            | none => simp [Instr.sliceBounds]
          | some l =>
            cases lo' with
            | none => simp [IsInt] at h1
            | some v =>
              cases v <;> simp [IsInt] at h1
              subst h1
              simp at hlh h0
              simp [Instr.sliceBounds, sliceBound_run h0 hlh]
      | some h =>
        cases hi' with
        | none => simp [IsInt] at h2
        | some v =>
          cases v <;> simp [IsInt] at h2
          subst h2
          simp only [Option.getD_some] at hlh hh
          have hh0 : 0 ≤ h := by omega
          cases lo with
          | none =>
            cases lo' with
            | some _ => simp [IsInt] at h1
            | none => simp [Instr.sliceBounds, sliceBound_run hh0 hh]
          | some l =>
            cases lo' with
            | none => simp [IsInt] at h1
            | some v =>
              cases v <;> simp [IsInt] at h1
              subst h1
              simp at hlh h0
              have hq : l ≤ ((h.toNat : Nat) : Int) := by omega
              simp [Instr.sliceBounds, sliceBound_run hh0 hh, sliceBound_run h0 hq]
  | some m =>
    obtain ⟨hs, hm0, hmc, hhm⟩ := hm m rfl
    cases mx' with
    | none => simp [IsInt] at h3
    | some v =>
      cases v <;> simp [IsInt] at h3
      subst h3
      cases hi with
      | none => simp at hs
      | some h =>
        cases hi' with
        | none => simp [IsInt] at h2
        | some v =>
          cases v <;> simp [IsInt] at h2
          subst h2
          simp only [Option.getD_some] at hlh hh hhm
          have hh0 : 0 ≤ h := by omega
          have hq2 : h ≤ ((m.toNat : Nat) : Int) := by omega
          cases lo with
          | none =>
            cases lo' with
            | some _ => simp [IsInt] at h1
            | none => simp [Instr.sliceBounds, sliceBound_run hm0 hmc, sliceBound_run hh0 hq2]
          | some l =>
            cases lo' with
            | none => simp [IsInt] at h1
            | some v =>
              cases v <;> simp [IsInt] at h1
              subst h1
              simp at hlh h0
              have hq : l ≤ ((h.toNat : Nat) : Int) := by omega
              simp [Instr.sliceBounds, sliceBound_run hm0 hmc, sliceBound_run hh0 hq2, sliceBound_run h0 hq]

theorem sliceA_run (hT : TyOk P T) (hH : HRel w0 ι H w) {ty : Nat} {x x' v : Value} {lo hi mx : Option Int} {lo' hi' mx' : Option Value} (h1 : IsInt lo lo') (h2 : IsInt hi hi') (h3 : IsInt mx mx') (hx : VRel ι x x') (h : sliceA T ty x lo hi mx H = some v) :
    ∃ v', (Instr.sliceAt ty x' lo' hi' mx').run P w = .ok v' w ∧ VRel ι v v' := by
  unfold sliceA at h
  split at h
  · rename_i d hd
    have hu := (hT ty d hd).und
    split at h
    · rename_i s hu0; rw [hu0] at hu; cases hx
      split at h
      · rename_i hc
        obtain ⟨c1, c2, c3, c4⟩ := hc
        obtain rfl := Option.some.inj h
        have hmx : mx = none := by simpa using c1
        subst hmx
        have hb := sliceBounds_run (P := P) (w := w) (isSlice := false) (len := s.size) (cap := s.size) h1 h2 h3 (fun m hm => by simp at hm) c2 c3 c4 (fun _ => trivial)
        have hmx' : mx' = none := by cases mx' with | none => rfl | some _ => simp [IsInt] at h3
        subst hmx'
        refine ⟨_, ?_, .str _⟩
        simp [Instr.sliceAt, Instr.slice, run_underlying hu, hb]
      · simp at h
    · rename_i e hu0; rw [hu0] at hu
      split at h
      · rename_i de hde
        split at h
        · rename_i hc
          obtain ⟨c1, c2, c3⟩ := hc
          obtain rfl := Option.some.inj h
          have hmx : mx = none := by simpa using c3
          subst hmx
          cases hx with
          | nilSl =>
            have hb := sliceBounds_run (P := P) (w := w) (isSlice := true) (len := 0) (cap := 0) h1 h2 h3 (fun m hm => by simp at hm) (by omega) (by simp [c1, c2]) (by simp [c2]) (fun _ => trivial)
            simp only [c1] at hb
            have c2' : hi.getD ((0 : Nat) : Int) = 0 := by simpa using c2
            rw [c2'] at hb
            refine ⟨.slice none 0 0, ?_, .nilSl⟩
            simp [Instr.sliceAt, Instr.slice, run_underlying hu, hb, hT.sizeOf hde]
        · simp at h
      · simp at h
    · rename_i e ad n c hu0; rw [hu0] at hu
      split at h
      · rename_i de b1 hde hb1
        cases hx with
        | sl b o n1 c1 L a' c' hL hn hz hl hxx ha =>
          simp only at h hb1
          split at h
          · rename_i hsz
            obtain ⟨_, _, _, _, _, _, hLs, _⟩ := hH.blk b L b1 hL (getB_eq.1 hb1)
            have hLsz : L.sz = de.size := hLs.trans hsz
            rw [hLsz] at hxx
            split at h
            · split at h
              · rename_i hc
                obtain ⟨q1, q2, q3, q4⟩ := hc
                obtain rfl := Option.some.inj h
                have hcap : hi.getD (n : Int) ≤ (c' : Int) := by omega
                have hb := sliceBounds_run (P := P) (w := w) (isSlice := true) (len := n) (cap := c') h1 h2 h3 (fun m hm => by simp at hm) q1 q2 hcap (fun _ => trivial)
                simp only at hb
                have hle : (lo.getD 0).toNat ≤ c' := by omega
                have hmul : o + (lo.getD 0).toNat * de.size + (c' - (lo.getD 0).toNat) * de.size ≤ L.avail := by
                  rw [Nat.add_assoc, ← Nat.add_mul]
                  have : (lo.getD 0).toNat + (c' - (lo.getD 0).toNat) = c' := by omega
                  rw [this]; exact hxx
                by_cases he : c' = (lo.getD 0).toNat
                · refine ⟨.slice (some a') ((hi.getD n).toNat - (lo.getD 0).toNat) (c' - (lo.getD 0).toNat), by simp only [Instr.sliceAt, Instr.slice, Sem.run_bind, run_underlying hu, hb, hT.sizeOf hde, Result.andThen_ok]; rw [if_pos he]; rfl, ?_⟩
                  exact .sl _ _ _ _ L _ _ hL (by omega) (by omega) (by omega) (by rw [hLsz]; exact hmul) (.inr (by omega))
                · refine ⟨.slice (some (a'.add ((lo.getD 0).toNat * de.size))) ((hi.getD n).toNat - (lo.getD 0).toNat) (c' - (lo.getD 0).toNat), by simp only [Instr.sliceAt, Instr.slice, Sem.run_bind, run_underlying hu, hb, hT.sizeOf hde, Result.andThen_ok]; rw [if_neg he]; rfl, ?_⟩
                  refine .sl _ _ _ _ L _ _ hL (by omega) (by omega) (by omega) (by rw [hLsz]; exact hmul) ?_
                  rcases ha with rfl | h0
                  · left; rw [addr_add, Nat.add_assoc]
                  · omega
              · simp at h
            · rename_i m
              split at h
              · rename_i hc
                obtain ⟨q0, q1, q2, q3, q4⟩ := hc
                obtain rfl := Option.some.inj h
                have hmc : m ≤ (c' : Int) := by omega
                have hcap : hi.getD (n : Int) ≤ (c' : Int) := by omega
                have hb := sliceBounds_run (P := P) (w := w) (isSlice := true) (len := n) (cap := c') h1 h2 h3 (fun m' hm => by obtain rfl := Option.some.inj hm; exact ⟨q0, by omega, hmc, q3⟩) q1 q2 hcap (fun _ => trivial)
                simp only at hb
                have hle : (lo.getD 0).toNat ≤ m.toNat := by omega
                have hmul : o + (lo.getD 0).toNat * de.size + (m.toNat - (lo.getD 0).toNat) * de.size ≤ L.avail := by
                  rw [Nat.add_assoc, ← Nat.add_mul]
                  have : (lo.getD 0).toNat + (m.toNat - (lo.getD 0).toNat) = m.toNat := by omega
                  rw [this]
                  have : m.toNat * de.size ≤ c' * de.size := Nat.mul_le_mul_right _ (by omega)
                  omega
                by_cases he : m.toNat = (lo.getD 0).toNat
                · refine ⟨.slice (some a') ((hi.getD n).toNat - (lo.getD 0).toNat) (m.toNat - (lo.getD 0).toNat), by simp only [Instr.sliceAt, Instr.slice, Sem.run_bind, run_underlying hu, hb, hT.sizeOf hde, Result.andThen_ok]; rw [if_pos he]; rfl, ?_⟩
                  exact .sl _ _ _ _ L _ _ hL (by omega) (by omega) (by omega) (by rw [hLsz]; exact hmul) (.inr (by omega))
                · refine ⟨.slice (some (a'.add ((lo.getD 0).toNat * de.size))) ((hi.getD n).toNat - (lo.getD 0).toNat) (m.toNat - (lo.getD 0).toNat), by simp only [Instr.sliceAt, Instr.slice, Sem.run_bind, run_underlying hu, hb, hT.sizeOf hde, Result.andThen_ok]; rw [if_neg he]; rfl, ?_⟩
                  refine .sl _ _ _ _ L _ _ hL (by omega) (by omega) (by omega) (by rw [hLsz]; exact hmul) ?_
                  rcases ha with rfl | h0
                  · left; rw [addr_add, Nat.add_assoc]
                  · omega
              · simp at h
          · simp at h
      · simp at h
    · simp at h
  · simp at h
end
end Go.Proofs.Ytbmejhabgoimeaa.Eng
set_option linter.unusedVariables false
set_option linter.unusedSimpArgs false
namespace Go.Proofs.Ytbmejhabgoimeaa.Eng
open Go Go.RowKit

section
variable {P : Program} {T : Ty} {w0 w : World} {ι : Ren} {H : Heap} {t : List Value} {a : Act} {B : Nat}

/-- A row that is not read any more. -/
theorem HRel.kill (h : HRel w0 ι H w) (id : Nat) : HRel w0 ι (H.set id none) w := by
  have old : ∀ (j : Nat) (b : Blk), (H.set id none)[j]? = some (some b) → H[j]? = some (some b) := fun j b hx => by
    rw [List.getElem?_set] at hx
    split at hx
    · split at hx <;> simp at hx
    · exact hx
  exact ⟨h.below, fun j L hj => by simpa using h.dom j L hj, fun j L b hj hb => h.blk j L b hj (old j b hb),
    fun i j L M b b2 hi hj hne h1 hw h2 => h.sep i j L M b b2 hi hj hne (old i b h1) hw (old j b2 h2),
    fun j b hb => h.flat j b (old j b hb), fun j b hb => h.tot j b (old j b hb)⟩

theorem rowA_rel (hH : HRel w0 ι H w) {size m : Nat} {x x' : Value} {cs : List Value} (hx : VRel ι x x') (h : rowA H size x m = some cs) :
    ∃ cs', LRel ι cs cs' ∧ cs.length = m * size ∧ (Builtin.firstCells size m x').run P w = .ok ⟨cs'⟩ w := by
  unfold rowA at h
  split at h
  · rename_i ad n c
    split at h
    · rename_i hm
      cases hx with
      | sl b o n1 c1 L a' c' hL hn hz hl hxx ha =>
        obtain ⟨vs', g1, g2, g3⟩ := hH.cells h hL
        have hlen := loadA_length h
        refine ⟨vs', g3, hlen, ?_⟩
        rcases ha with rfl | h0
        · exact run_firstCells_some w size m _ n c' vs' g1 g2
        · have hm0 : m = 0 := by omega
          subst hm0
          have : vs' = [] := List.eq_nil_of_length_eq_zero (by simpa using g1)
          subst this
          exact run_firstCells_some w size 0 _ n c' [] (by simp) (fun j v hv => by simp at hv)
    · simp at h
  · split at h
    · rename_i hm; subst hm
      obtain rfl := Option.some.inj h
      cases hx
      exact ⟨[], .nil ι, by simp, run_firstCells_none w size 0 0 0⟩
    · simp at h
  · simp at h

theorem one_of {xs ys : List Value} (hr : LRel ι xs ys) (h : xs.all (·.oneCell') = true) : ∀ v ∈ ys, v.oneCell' = true := fun v hv => by
  obtain ⟨i, hi⟩ := List.mem_iff_getElem?.1 hv
  have hlt : i < xs.length := by have := (List.getElem?_eq_some_iff.1 hi).1; have := hr.1; omega
  have := hr.2 i xs[i] v (by simp [hlt]) hi
  rw [oneCell_rel this]
  exact (List.all_eq_true.1 h) _ (List.getElem_mem hlt)

/-- A grown row in a new block. -/
theorem grow_ok (hH : HRel w0 ι H w) (hB : B ≤ H.length) {H1 : Heap} (hlen1 : H1.length = H.length) (hH1 : HRel w0 ι H1 w.drew) (hoc : OCs B H H1) {e : TypeId} {size n : Nat} {cs cs' : List Value} {tail : Array Value} {fl : Bool}
    (hc : LRel ι cs cs') (hl : cs.length = n * size) {cap : Nat} (hcap : n ≤ cap) (hn0 : n ≠ 0) (ht : tail.size = (cap - n) * size) (hfl : fl = true → ∀ v ∈ cs, flatV v = true) {r : Result Next}
    (hr : r = .ok (.value (.slice (some ⟨w.heap.size, 0, none⟩) n cap)) (w.drew.alloc (.cells (cs'.toArray ++ tail) e))) :
    StepOk w0 ι B H r (.slice (some ⟨H.length, 0, none⟩) n (n + 1)) (H1 ++ [some ⟨cs, size, true, fl⟩]) := by
  have hp := hH1.push ⟨cs, size, true, fl⟩ (cs'.toArray ++ tail) e (by simp; have := hc.1; omega) (fun j v hv => by
    obtain ⟨v', h1, h2⟩ := hc.get hv
    refine ⟨v', ?_, h2⟩
    have : j < cs'.length := (List.getElem?_eq_some_iff.1 h1).1
    rw [Array.getElem?_append_left (by simpa using this)]
    simpa using h1) hfl
  rw [hlen1] at hp
  refine ⟨_, _, _, _, hr, .inl rfl, hp, .inr ?_, upd_ext ι _ _, hoc.trans (OCs.push B H1 _ (by omega)), by simp; omega⟩
  refine .sl _ _ _ _ ⟨w.heap.size, 0, (cs'.toArray ++ tail).size, size⟩ _ _ (by simp [upd]) hcap (by omega) (by omega) ?_ (.inl rfl)
  have : cs'.length = n * size := by rw [← hc.1, hl]
  simp only [Array.size_append, List.size_toArray, this, ht, ← Nat.add_mul, Nat.zero_add]
  rw [show n + (cap - n) = cap by omega]
  exact Nat.le_refl _

theorem append_zero (hT : TyOk P T) {t1 e : Nat} {de : TyD} {ty : TypeId} (hu : P.underlying t1 = some (.slice e)) (hde : T e = some de) {s' x' : Value}
    (hs : (∃ a n c, s' = .slice (some a) n c ∧ n ≤ c) ∨ s' = .slice none 0 0) (hx : (∃ a c, x' = .slice a 0 c)) :
    (Builtin.append_ #[t1, t1] ty #[s', x']).run P w = .ok s' w := by
  obtain ⟨ax, cx, rfl⟩ := hx
  have hf : (Builtin.firstCells de.size 0 (.slice ax 0 cx)).run P w = .ok #[] w := by
    cases ax with
    | none => exact run_firstCells_none w _ _ _ _
    | some ad => exact run_firstCells_some w _ 0 ad 0 cx [] (by simp) (fun j v hv => by simp at hv)
  rcases hs with ⟨a, n, c, rfl, hn⟩ | rfl
  · simp [Builtin.append_, run_underlying hu, hT.sizeOf hde, Builtin.lenOf, hn, hf, storeCells]
  · simp [Builtin.append_, run_underlying hu, hT.sizeOf hde, Builtin.lenOf, hf]

theorem appendA_run (hT : TyOk P T) (hH : HRel w0 ι H w) (hB : B ≤ H.length) {t1 t2 : Nat} {s s' x x' v : Value} {ty : TypeId} {H' : Heap} (hs : VRel ι s s') (hx : VRel ι x x') (h : appendA T B t1 t2 s x H = some (v, H')) :
    StepOk w0 ι B H (((Builtin.append_ #[t1, t2] ty #[s', x']).run P w).andThen fun v w => .ok (.value v) w) v H' := by
  unfold appendA at h
  split at h
  · rename_i ht; subst ht
    split at h
    · rename_i e de xa m xc he
      obtain ⟨hu, hde⟩ := elemT_eq hT he
      obtain ⟨i, z, g1, g2, g3, g4, g5⟩ := (hT e de hde).info
      have hzl := (hT e de hde).zlen
      have hzs : z.cells.size = de.size := by rw [← hzl, ← g5]; simp
      split at h
      · rename_i hm0; subst hm0
        split at h
        · rename_i sa sn sc
          simp only [Option.some.injEq, Prod.mk.injEq] at h
          obtain ⟨rfl, rfl⟩ := h
          have hr := append_zero (P := P) (w := w) hT (ty := ty) hu hde (s' := s') (x' := x') (by
            cases hs with
            | nilSl => exact .inr rfl
            | sl b o n c L a' c' hL hn => exact .inl ⟨a', _, _, rfl, hn⟩) (by cases hx <;> exact ⟨_, _, rfl⟩)
          rw [hr]
          exact StepOk.pure hH rfl (.inr hs)
        · simp at h
      · rename_i hm0
        split at h
        · simp at h
        · rename_i news hnews
          have hnc : ∃ ad, xa = some ad := by cases xa with
            | none => cases hx; simp at hm0
            | some ad => exact ⟨ad, rfl⟩
          obtain ⟨ad, rfl⟩ := hnc
          cases hx with
          | sl b2 o2 n2 c2 L2 a2 c2' hL2 hn2 hz2 hl2 hxx2 ha2 =>
          have ha2' := ha2.resolve_right (by omega)
          subst ha2'
          simp only [rowA] at hnews
          rw [if_pos (Nat.le_refl _)] at hnews
          obtain ⟨news2, q1, q2, q3⟩ := hH.cells hnews hL2
          have hnl := loadA_length hnews
          simp only at h
          split at h
          · -- nothing yet
            split at h
            · rename_i hc
              obtain ⟨k1, k2, k3⟩ := hc
              simp only [Option.some.injEq, Prod.mk.injEq] at h
              obtain ⟨rfl, rfl⟩ := h
              cases hs
              have hr := run_append_nil (P := P) w t1 ty e i z hu g1 g4 _ m c2' news2 (by rw [g2]; exact q1) q2 (by omega) (by omega) (by rw [g3]; omega)
              rw [hr]
              refine grow_ok hH hB rfl (hH.drewW _) (.refl _ _) q3 hnl (grownCap_ge w m 0 e) hm0 ?_ (fun hf v hv => ?_) rfl
              · simp [size_zeroCells, hzs]
              · simp only [Bool.and_eq_true] at hf
                exact (List.all_eq_true.1 hf.2) v hv
            · simp at h
          · rename_i sa n c
            split at h
            · rename_i hc
              obtain ⟨k1, k2, k3⟩ := hc
              split at h
              · simp at h
              · rename_i olds holds
                cases hs with
                | sl b o n1 c1 L a' c' hL hn hz hl hxx ha =>
                obtain ⟨olds2, p1, p2, p3⟩ := hH.cells holds hL
                have hol := loadA_length holds
                have hlen2 : (olds ++ news).length = (n + m) * de.size := by rw [List.length_append, hol, hnl, Nat.add_mul]
                have hfla : ∀ fl, (fl && (olds ++ news).all flatV) = true → ∀ v ∈ olds ++ news, flatV v = true := fun fl hf v hv => by
                  simp only [Bool.and_eq_true] at hf
                  exact (List.all_eq_true.1 hf.2) v hv
                have hgrow : c' < n + m → ∀ (H1 : Heap), H1.length = H.length → HRel w0 ι H1 w.drew → OCs B H H1 →
                    StepOk w0 ι B H (((Builtin.append_ #[t1, t1] ty #[.slice (some a') n c', .slice (some ⟨L2.blk, L2.off + o2, none⟩) m c2']).run P w).andThen fun v w => .ok (.value v) w)
                      (.slice (some ⟨H.length, 0, none⟩) (n + m) (n + m + 1)) (H1 ++ [some ⟨olds ++ news, de.size, true, de.fl && (olds ++ news).all flatV⟩]) := by
                  intro hg H1 e1 e2 e3
                  have hho : ∀ j v, olds2[j]? = some v → w.cell? (a'.add j) = some v := by
                    rcases ha with rfl | h0
                    · exact p2
                    · have : n = 0 := by omega
                      subst this
                      have : olds2 = [] := List.eq_nil_of_length_eq_zero (by simpa using p1)
                      subst this
                      intro j v hv; simp at hv
                  have hr := run_append_grow (P := P) w t1 ty e i z hu g1 g4 a' n c' olds2 (by rw [g2]; exact p1) hho _ m c2' news2 (by rw [g2]; exact q1) q2 hg (by omega) (by rw [g3]; exact growslice_fits hg k1)
                  rw [hr]
                  refine grow_ok hH hB e1 e2 e3 (p3.append q3) hlen2 (grownCap_ge w (n + m) c' e) (by omega) ?_ (hfla de.fl) ?_ (tail := Builtin.zeroCells z.cells (grownCap w (n + m) c' e - (n + m))) (e := e)
                  · simp [size_zeroCells, hzs]
                  · simp
                split at h
                · rename_i hc0; subst hc0
                  simp only [Option.some.injEq, Prod.mk.injEq] at h
                  obtain ⟨rfl, rfl⟩ := h
                  have : c' = 0 := hz rfl
                  subst this
                  exact hgrow (by omega) H rfl (hH.drewW _) (.refl _ _)
                · rename_i hc0
                  have hroomrun : n + m ≤ c' → a' = ⟨L.blk, L.off + o, none⟩ := fun hg => ha.resolve_right (by omega)
                  split at h
                  · rename_i hlt
                    cases hst : storeA B H b (o + n * de.size) news with
                    | none => simp [hst] at h
                    | some H2 =>
                      simp only [hst, Option.map_some, Option.some.injEq, Prod.mk.injEq] at h
                      obtain ⟨rfl, rfl⟩ := h
                      obtain ⟨w', r1, r2, r3, r4⟩ := hH.store (P := P) hst hL q3
                      have hg : n + m ≤ c' := by omega
                      have := hroomrun hg; subst this
                      have hf := run_firstCells_some (P := P) w de.size m ⟨L2.blk, L2.off + o2, none⟩ m c2' news2 q1 q2
                      have hr : (Builtin.append_ #[t1, t1] ty #[.slice (some ⟨L.blk, L.off + o, none⟩) n c', .slice (some ⟨L2.blk, L2.off + o2, none⟩) m c2']).run P w = .ok (.slice (some ⟨L.blk, L.off + o, none⟩) (n + m) c') w' := by
                        simp [Builtin.append_, run_underlying hu, hT.sizeOf hde, Builtin.lenOf, hg, hf, addr_add, Nat.add_assoc, r1]
                      rw [hr]
                      exact ⟨_, _, _, ι, rfl, .inl rfl, r2, .inr (.sl _ _ _ _ L _ _ hL hg hz hl hxx (.inl rfl)), .refl _ _, r3, by omega⟩
                  · rename_i hge
                    split at h
                    · rename_i bk hbk
                      split at h
                      · rename_i hw
                        obtain ⟨hwr, hsz⟩ := hw
                        simp only [Option.some.injEq, Prod.mk.injEq] at h
                        obtain ⟨rfl, rfl⟩ := h
                        have hbk0 := getB_eq.1 hbk
                        by_cases hg : n + m ≤ c'
                        · have := hroomrun hg; subst this
                          obtain ⟨c, e0, fr, hc, hav, hbl, hLs, hcell, hwo⟩ := hH.blk b L bk hL hbk0
                          obtain ⟨hold, rfl⟩ := hwo hwr
                          have hLd : L.sz = de.size := hLs.trans hsz
                          rw [hLd] at hxx
                          have hmul : (n + m) * de.size ≤ c' * de.size := Nat.mul_le_mul_right _ hg
                          have hmul2 : (n + m) * de.size = n * de.size + m * de.size := Nat.add_mul _ _ _
                          have hf := run_firstCells_some (P := P) w de.size m ⟨L2.blk, L2.off + o2, none⟩ m c2' news2 q1 q2
                          have hst := run_storeCells_at P L.blk (L.off + o + n * de.size) e0 news2 0 c w hc (by rw [q1]; omega) (one_of q3 k3)
                          have hr : (Builtin.append_ #[t1, t1] ty #[.slice (some ⟨L.blk, L.off + o, none⟩) n c', .slice (some ⟨L2.blk, L2.off + o2, none⟩) m c2']).run P w = .ok (.slice (some ⟨L.blk, L.off + o, none⟩) (n + m) c')
                              (w.setRow L.blk (c.toList.take (L.off + o + n * de.size + 0) ++ news2 ++ c.toList.drop (L.off + o + n * de.size + 0 + news2.length)).toArray) := by
                            simp only [Nat.add_zero] at hst ⊢
                            simp [Builtin.append_, run_underlying hu, hT.sizeOf hde, Builtin.lenOf, hg, hf, addr_add, hst]
                          rw [hr]
                          have hrel := p3.append q3
                          have hcs : c.size = c.toList.length := rfl
                          have hrg := hH.regrow (o := o) (b' := ⟨olds ++ news, de.size, true, de.fl && (olds ++ news).all flatV⟩) (c' := (c.toList.take (L.off + o + n * de.size + 0) ++ news2 ++ c.toList.drop (L.off + o + n * de.size + 0 + news2.length)).toArray) hL hbk0 hwr (by omega) hLd.symm (by simp only; rw [hlen2]; omega) (hfla de.fl)
                            ⟨c, e0, hc, rfl, by simp [q1]; omega⟩ (fun j v hv => by
                              obtain ⟨v', h1, h2⟩ := hrel.get hv
                              refine ⟨v', ?_, h2⟩
                              by_cases hj : j < n * de.size
                              · rw [List.getElem?_append_left (by rw [p1]; exact hj)] at h1
                                have h1' := p2 j v' h1
                                rw [addr_add, cell_of_row w L.blk _ c e0 (0, 0) hc] at h1'
                                rw [List.getElem?_toArray, List.getElem?_append_left (by simp [q1]; omega), List.getElem?_append_left (by simp; omega), List.getElem?_take, if_pos (by omega)]
                                simpa using h1'
                              · rw [List.getElem?_append_right (by rw [p1]; omega), p1] at h1
                                have hj2 : j - n * de.size < m * de.size := by have := (List.getElem?_eq_some_iff.1 h1).1; rw [q1] at this; exact this
                                rw [List.getElem?_toArray, List.getElem?_append_left (by simp [q1]; omega), List.getElem?_append_right (by simp; omega)]
                                simp only [List.length_take, ← hcs]
                                rw [show L.off + o + j - min (L.off + o + n * de.size + 0) c.size = j - n * de.size by omega]
                                exact h1)
                          refine ⟨_, _, _, _, rfl, .inl rfl, hrg, .inr ?_, upd_ext ι _ _, (OCs.kill B H b).trans (OCs.push B _ _ (by simpa using hB)), by simp⟩
                          refine .sl _ _ _ _ ⟨L.blk, L.off + o, L.avail - o, L.sz⟩ _ _ (by simp [upd]) hg (by omega) (by omega) ?_ (.inl (by simp))
                          simp only [hLd]; omega
                        · exact hgrow (by omega) (H.set b none) (by simp) ((hH.drewW _).kill b) (OCs.kill B H b)
                      · simp at h
                    · simp at h
            · simp at h
          · simp at h
    · simp at h
  · simp at h

theorem copyA_run (hT : TyOk P T) (hH : HRel w0 ι H w) (hB : B ≤ H.length) {t1 : Nat} {tys : Array TypeId} {d d' s s' v : Value} {ty : TypeId} {H' : Heap} (hty : tys[0]? = some t1) (hd : VRel ι d d') (hs : VRel ι s s') (h : copyA T B t1 d s H = some (v, H')) :
    StepOk w0 ι B H (((Builtin.copy_ tys ty #[d', s']).run P w).andThen fun v w => .ok (.value v) w) v H' := by
  unfold copyA at h
  split at h
  · rename_i e de da n dc sa m sc he
    obtain ⟨hu, hde⟩ := elemT_eq hT he
    split at h
    · rename_i h0
      simp only [Option.some.injEq, Prod.mk.injEq] at h
      obtain ⟨rfl, rfl⟩ := h
      have hd2 : ∃ da' dc', d' = .slice da' n dc' := by cases hd <;> exact ⟨_, _, rfl⟩
      have hs2 : ∃ sa' sc', s' = .slice sa' m sc' := by cases hs <;> exact ⟨_, _, rfl⟩
      obtain ⟨da', dc', rfl⟩ := hd2
      obtain ⟨sa', sc', rfl⟩ := hs2
      have hf : (Builtin.firstCells de.size 0 (.slice sa' m sc')).run P w = .ok #[] w := by
        cases sa' with
        | none => exact run_firstCells_none w _ _ _ _
        | some ad => exact run_firstCells_some w _ 0 ad m sc' [] (by simp) (fun j v hv => by simp at hv)
      have h0' : Nat.min m n = 0 := h0
      have hr : (Builtin.copy_ tys ty #[.slice da' n dc', .slice sa' m sc']).run P w = .ok (.int .i64 0) w := by
        cases da' <;> simp [Builtin.copy_, hty, run_underlying hu, hT.sizeOf hde, Builtin.lenOf, h0', hf, storeCells, goInt]
      rw [hr]
      exact StepOk.pure hH rfl (.inr (.int _ _))
    · rename_i h0
      split at h
      · rename_i cs ad hcs
        cases hst : storeA B H ad.block ad.off cs with
        | none => simp [hst] at h
        | some H2 =>
          simp only [hst, Option.map_some, Option.some.injEq, Prod.mk.injEq] at h
          obtain ⟨rfl, rfl⟩ := h
          obtain ⟨cs', r1, r2, r3⟩ := rowA_rel (P := P) hH hs hcs
          cases hd with
          | sl b o n1 c1 L a' c' hL hn hz hl hxx ha =>
          have ha' := ha.resolve_right (by omega)
          subst ha'
          obtain ⟨w', q1, q2, q3, q4⟩ := hH.store (P := P) hst hL r1
          have hs2 : ∃ sa' sc', s' = .slice sa' m sc' := by cases hs <;> exact ⟨_, _, rfl⟩
          obtain ⟨sa', sc', rfl⟩ := hs2
          have hr3 : (Builtin.firstCells de.size (Nat.min m n) (.slice sa' m sc')).run P w = .ok ⟨cs'⟩ w := r3
          have hr : (Builtin.copy_ tys ty #[.slice (some ⟨L.blk, L.off + o, none⟩) n c', .slice sa' m sc']).run P w = .ok (.int .i64 ((min m n : Nat) : Int)) w' := by
            simp only [Builtin.copy_]
            simp [hty, run_underlying hu, hT.sizeOf hde, Builtin.lenOf, hr3, q1, goInt]
          rw [hr]
          exact ⟨_, _, _, ι, rfl, .inl rfl, q2, .inr (.int _ _), .refl _ _, q3, by omega⟩
      · simp at h
  · simp at h

theorem clearA_run (hT : TyOk P T) (hH : HRel w0 ι H w) (hB : B ≤ H.length) {t1 : Nat} {x x' v : Value} {ty : TypeId} {H' : Heap} (hx : VRel ι x x') (h : clearA T B t1 x H = some (v, H')) :
    StepOk w0 ι B H (((Builtin.clear_ #[t1] ty #[x']).run P w).andThen fun v w => .ok (.value v) w) v H' := by
  unfold clearA at h
  split at h
  · rename_i e de xa n xc he
    obtain ⟨hu, hde⟩ := elemT_eq hT he
    obtain ⟨z, hz, hzc⟩ := hT.zeroValue (w := w) hde
    split at h
    · rename_i h0; subst h0
      simp only [Option.some.injEq, Prod.mk.injEq] at h
      obtain ⟨rfl, rfl⟩ := h
      have hr : (Builtin.clear_ #[t1] ty #[x']).run P w = .ok (.tuple #[]) w := by
        cases hx <;> simp [Builtin.clear_, run_underlying hu]
      rw [hr]
      exact StepOk.pure hH rfl (.inr (.tuple _ _ rfl (fun i v v' h => by simp at h)))
    · rename_i h0
      split at h
      · rename_i ad
        cases hst : storeA B H ad.block ad.off (zerosL de.zero n) with
        | none => simp [hst] at h
        | some H2 =>
          simp only [hst, Option.map_some, Option.some.injEq, Prod.mk.injEq] at h
          obtain ⟨rfl, rfl⟩ := h
          cases hx with
          | sl b o n1 c1 L a' c' hL hn hz' hl hxx ha =>
          have ha' := ha.resolve_right (by omega)
          subst ha'
          have hfl := zerosL_flat (hT e de hde).zflat n
          obtain ⟨w', q1, q2, q3, q4⟩ := hH.store (P := P) hst hL (LRel.flat hfl)
          have hm : (Builtin.zeroCells z.cells n).toList = zerosL de.zero n := by rw [← hzc]; exact zeros_range z.cells n
          have hr : (Builtin.clear_ #[t1] ty #[.slice (some ⟨L.blk, L.off + o, none⟩) n c']).run P w = .ok (.tuple #[]) w' := by
            obtain ⟨n, rfl⟩ : ∃ k, n = k + 1 := ⟨n - 1, by omega⟩
            simp [Builtin.clear_, run_underlying hu, hz, hm, q1]
          rw [hr]
          exact ⟨_, _, _, ι, rfl, .inl rfl, q2, .inr (.tuple _ _ rfl (fun i v v' h => by simp at h)), .refl _ _, q3, by omega⟩
      · simp at h
  · simp at h
end
end Go.Proofs.Ytbmejhabgoimeaa.Eng
set_option linter.unusedVariables false
set_option linter.unusedSimpArgs false
namespace Go.Proofs.Ytbmejhabgoimeaa.Eng
open Go Go.RowKit

section
variable {P : Program} {T : Ty} {w0 w : World} {ι : Ren} {H : Heap} {t : List Value} {a : Act} {B : Nat}

theorem optInt_rel (hs : TS ι t a.tmps) {x : Option Operand} {l : Option Int} (h : optInt t x = some l) : IsInt l (x.map a.eval) := by
  cases x with
  | none => simp [optInt] at h; subst h; trivial
  | some x =>
    simp only [optInt] at h
    split at h
    · rename_i k n hv
      obtain rfl := Option.some.inj h
      have := evL_rel hs hv
      simp only [Option.map_some]
      cases hq : a.eval x <;> rw [hq] at this <;> cases this
      rfl
    · simp at h

theorem stepVal {H' : Heap} {v : Value} {s : Sem Value} (h : StepOk w0 ι B H ((s.run P w).andThen fun u w => .ok (Next.value u) w) v H') : StepOk w0 ι B H ((do pure (Next.value (← s)) : Sem Next).run P w) v H' := by
  simpa [Sem.run_bind] using h

theorem builtinA_run (hT : TyOk P T) (hH : HRel w0 ι H w) (hB : B ≤ H.length) {b : Builtin} {tys : Array TypeId} {ty : TypeId} {cs : Array Bool} {args args' : List Value} {v : Value} {H' : Heap} (hr : LRel ι args args') (h : builtinA T B b tys.toList args H = some (v, H')) :
    StepOk w0 ι B H ((builtin b tys ty cs ⟨args'⟩).run P w) v H' := by
  unfold builtinA at h
  split at h
  · rename_i t1 r x r2 htys
    obtain ⟨x', r', rfl, hx, _⟩ := hr.inv_cons
    cases hl : lenA T t1 x with
    | none => simp [hl] at h
    | some u =>
      simp only [hl, Option.map_some, Option.some.injEq, Prod.mk.injEq] at h; obtain ⟨rfl, rfl⟩ := h
      obtain ⟨v', g1, g2⟩ := lenA_run (P := P) (w := w) (rt := ty) (args' := ⟨x' :: r'⟩) hT (by rw [← Array.getElem?_toList, htys]; rfl) rfl hx hl
      exact StepOk.pure hH (by simp [builtin, g1]) (.inr g2)
  · rename_i x r
    obtain ⟨x', r', rfl, hx, hr'⟩ := hr.inv_cons
    cases hl : maxA x r with
    | none => simp [hl] at h
    | some u =>
      simp only [hl, Option.map_some, Option.some.injEq, Prod.mk.injEq] at h; obtain ⟨rfl, rfl⟩ := h
      obtain ⟨v', g1, g2⟩ := maxA_run (P := P) (w := w) r r' x x' _ hx hr' hl
      exact StepOk.pure hH (by simp [builtin, Builtin.max_, g1]) (.inr g2)
  · rename_i x r
    obtain ⟨x', r', rfl, hx, hr'⟩ := hr.inv_cons
    cases hl : minA x r with
    | none => simp [hl] at h
    | some u =>
      simp only [hl, Option.map_some, Option.some.injEq, Prod.mk.injEq] at h; obtain ⟨rfl, rfl⟩ := h
      obtain ⟨v', g1, g2⟩ := minA_run (P := P) (w := w) r r' x x' _ hx hr' hl
      exact StepOk.pure hH (by simp [builtin, Builtin.min_, g1]) (.inr g2)
  · rename_i t1 t2 s x htys
    obtain ⟨s', r', rfl, hs, hr'⟩ := hr.inv_cons
    obtain ⟨x', r', rfl, hx, hr''⟩ := hr'.inv_cons
    have : r' = [] := List.eq_nil_of_length_eq_zero (by have := hr''.1; simpa using this.symm)
    subst this
    have e : tys = #[t1, t2] := Array.ext' (by simpa using htys)
    subst e
    exact stepVal (appendA_run (ty := ty) hT hH hB hs hx h)
  · rename_i t1 r d s htys
    obtain ⟨d', r', rfl, hd, hr'⟩ := hr.inv_cons
    obtain ⟨s', r', rfl, hs, hr''⟩ := hr'.inv_cons
    have : r' = [] := List.eq_nil_of_length_eq_zero (by have := hr''.1; simpa using this.symm)
    subst this
    exact stepVal (copyA_run (ty := ty) hT hH hB (by rw [← Array.getElem?_toList, htys]; rfl) hd hs h)
  · rename_i t1 x htys
    obtain ⟨x', r', rfl, hx, hr'⟩ := hr.inv_cons
    have : r' = [] := List.eq_nil_of_length_eq_zero (by have := hr'.1; simpa using this.symm)
    subst this
    have e : tys = #[t1] := Array.ext' (by simpa using htys)
    subst e
    exact stepVal (clearA_run (ty := ty) hT hH hB hx h)
  · simp at h

theorem eqA_rel {eqOk : Nat → Bool} : ∀ (n t : Nat) (x y x' y' : Value) (r : Bool), VRel ι x x' → VRel ι y y' → eqA T eqOk n t x y = some r → eqA T eqOk n t x' y' = some r
  | 0, _, _, _, _, _, _, _, _, h => by simp [eqA] at h
  | n + 1, t, x, y, x', y', r, hx, hy, h => by
    simp only [eqA] at h ⊢
    cases hd : T t with
    | none => simp [hd] at h
    | some d =>
      simp only [hd] at h ⊢
      split at h
      · cases hx; cases hy; simp_all
      · cases hx; cases hy; simp_all
      · cases hx; cases hy; simp_all
      · rename_i fs xs ys e1
        simp only [e1]
        cases hx with
        | agg xs1 xs2 hl1 h1 =>
        cases hy with
        | agg ys1 ys2 hl2 h2 =>
        simp only at h ⊢
        split at h
        · rename_i hok
          rw [if_pos hok]
          have : ∀ (fs : List Field) (r : Bool), eqFieldsA T (eqA T eqOk n) fs xs1 ys1 = some r → eqFieldsA T (eqA T eqOk n) fs xs2 ys2 = some r := by
            intro fs
            induction fs with
            | nil => intro r h; simpa [eqFieldsA] using h
            | cons f fs ih =>
              intro r h
              simp only [eqFieldsA] at h ⊢
              split at h
              · simp at h
              · rename_i hn
                rw [if_neg hn]
                split at h
                · rename_i p q hp hq
                  obtain ⟨p', g1, g2⟩ := partL_rel (ι := ι) (T := T) ⟨hl1, h1⟩ hp
                  obtain ⟨q', g3, g4⟩ := partL_rel (ι := ι) (T := T) ⟨hl2, h2⟩ hq
                  simp only [g1, g3]
                  split at h
                  · rename_i u v hu hv
                    rw [eqA_rel n _ _ _ _ _ _ g2 g4 hu, ih _ hv]
                    exact h
                  · simp at h
                · simp at h
          exact this fs.toList r h
        · simp at h
      · simp at h

theorem binA_rel {eqOk : Nat → Bool} {op : BinOp} {t : Nat} {x y x' y' v : Value} (hx : VRel ι x x') (hy : VRel ι y y') (h : binA T eqOk op t x y = some v) : binA T eqOk op t x' y' = some v := by
  have hcase : (flatV x = true ∧ flatV y = true) ∨ (∃ xs ys, x = .agg xs ∧ y = .agg ys) := by
    unfold binA at h
    split at h <;> first | exact .inl ⟨rfl, rfl⟩ | exact .inr ⟨_, _, rfl, rfl⟩ | simp at h
  rcases hcase with ⟨h1, h2⟩ | ⟨xs, ys, rfl, rfl⟩
  · rw [hx.flat_eq h1, hy.flat_eq h2]; exact h
  · obtain ⟨xs', rfl⟩ : ∃ xs', x' = .agg xs' := by cases hx; exact ⟨_, rfl⟩
    obtain ⟨ys', rfl⟩ : ∃ ys', y' = .agg ys' := by cases hy; exact ⟨_, rfl⟩
    cases op <;> simp only [binA] at h ⊢ <;> first | (simp at h; done) | skip
    all_goals
      cases he : eqA T eqOk 9 t (.agg xs) (.agg ys) with
      | none => simp [he] at h
      | some r => rw [eqA_rel 9 t _ _ _ _ r hx hy he]; simpa [he] using h

theorem map_some_pair {α : Type} {x : Option α} {H H' : Heap} {v : α} (h : x.map (·, H) = some (v, H')) : x = some v ∧ H' = H := by
  cases x <;> simp at h; exact ⟨by rw [h.1], h.2.symm⟩

set_option maxHeartbeats 4000000 in
theorem op_sound (hT : TyOk P T) {eqOk : Nat → Bool} (hE : EqOk P eqOk) (hH : HRel w0 ι H w) (hB : B ≤ H.length) (hs : TS ι t a.tmps) {o : Oper} {v : Value} {H' : Heap} (h : opA T eqOk B t H o = some (v, H')) :
    StepOk w0 ι B H ((execOp a.eval o).run P w) v H' := by
  obtain ⟨dst, op, ty0, pos, after, guard⟩ := o
  cases op with
  | move x =>
    simp only [opA] at h; simp only [execOp]
    obtain ⟨hv, rfl⟩ := map_some_pair h
    exact StepOk.pure hH rfl (ev_rel hs hv)
  | assign x =>
    simp only [opA] at h; simp only [execOp]
    obtain ⟨hv, rfl⟩ := map_some_pair h
    exact StepOk.pure hH rfl (ev_rel hs hv)
  | pick c x y =>
    simp only [opA] at h; simp only [execOp]
    split at h
    · rename_i q hq
      have := evL_rel hs hq
      have hc : a.eval c = .bool q := by cases hq2 : a.eval c <;> rw [hq2] at this <;> cases this; rfl
      split at h
      · rename_i hqt; subst hqt
        obtain ⟨hv, rfl⟩ := map_some_pair h
        exact StepOk.pure hH (v' := a.eval x) (by simp [hc, asBool]) (ev_rel hs hv)
      · rename_i hqf
        have hqf' : q = false := by simpa using hqf
        subst hqf'
        obtain ⟨hv, rfl⟩ := map_some_pair h
        exact StepOk.pure hH (v' := a.eval y) (by simp [hc, asBool]) (ev_rel hs hv)
    · simp at h
  | alloc e1 =>
    simp only [opA] at h; simp only [execOp]
    split at h
    · rename_i d hd
      obtain ⟨z, hz, hzc⟩ := hT.zeroValue (w := w) hd
      have hfl := (hT _ d hd).zflat
      refine stepVal ?_
      have hr : (Instr.alloc e1 true (.tuple #[])).run P w = .ok (.pointer (some ⟨w.heap.size, 0, none⟩)) (w.alloc (.cells ⟨d.zero⟩ e1)) := by
        have : z.cells = ⟨d.zero⟩ := Array.ext' hzc
        simp [Instr.alloc, hz, newVar, newRow, this]
      rw [hr]
      exact new_ok hH hB (LRel.flat fun v hv => (List.all_eq_true.1 hfl) v hv) (fun _ v hv => (List.all_eq_true.1 hfl) v hv) h
    · simp at h
  | box e1 x =>
    simp only [opA] at h; simp only [execOp]
    split at h
    · rename_i d u hd hu
      refine stepVal ?_
      have hr := evL_rel hs hu
      have hc := cells_rel hr
      have hr : (Instr.box e1 (a.eval x)).run P w = .ok (.pointer (some ⟨w.heap.size, 0, none⟩)) (w.alloc (.cells ⟨cellsL (a.eval x)⟩ e1)) := by
        have : (a.eval x).cells = ⟨cellsL (a.eval x)⟩ := Array.ext' (by rw [cellsL_eq])
        simp [Instr.box, newVar, newRow, this]
      rw [hr]
      exact new_ok hH hB hc (fun hf v hv => by
        simp only [Bool.and_eq_true] at hf
        exact (List.all_eq_true.1 hf.2) v hv) h
    · simp at h
  | build ty parts =>
    simp only [opA] at h; simp only [execOp]
    split at h
    · rename_i l hl
      obtain ⟨hv, rfl⟩ := map_some_pair h
      obtain ⟨e1, e2⟩ := evParts_rel hs _ _ hl
      obtain ⟨v', g1, g2⟩ := buildA_run (P := P) (w := w) (parts' := parts.map fun (i, x) => (i, a.eval x)) hT (by simpa using e1) (by simpa using e2) hv
      refine stepVal (StepOk.pure hH (v' := v') ?_ (.inr g2))
      rw [g1]; rfl
    · simp at h
  | buildSlice ty len parts =>
    simp only [opA] at h; simp only [execOp]
    split at h
    · rename_i l hl
      obtain ⟨e1, e2⟩ := evParts_rel hs _ _ hl
      refine stepVal ?_
      generalize hp : (parts.map fun (i, x) => (i, a.eval x)) = pa
      have hpl : pa.toList = parts.toList.map fun p => (p.1, a.eval p.2) := by rw [← hp]; simp
      exact buildSliceA_run hT hH hB (by rw [hpl]; simpa using e1) (by rw [hpl]; simpa using e2) h
    · simp at h
  | load ty x =>
    simp only [opA] at h; simp only [execOp]
    split at h
    · rename_i u hu
      obtain ⟨hv, rfl⟩ := map_some_pair h
      obtain ⟨v', g1, g2⟩ := loadVarA_run (P := P) hT hH (evL_rel hs hu) hv
      exact stepVal (StepOk.pure hH (v' := v') (by rw [g1]; rfl) (.inr g2))
    · simp at h
  | store ty x y =>
    simp only [opA] at h; simp only [execOp]
    split at h
    · rename_i u1 u2 hu1 hu2
      cases hst : storeVarA T B ty u1 u2 H with
      | none => simp [hst] at h
      | some H2 =>
        simp only [hst, Option.map_some, Option.some.injEq, Prod.mk.injEq] at h; obtain ⟨rfl, rfl⟩ := h
        obtain ⟨w', g1, g2, g3, g4⟩ := storeVarA_run (P := P) hT hH (evL_rel hs hu1) (evL_rel hs hu2) hst
        exact ⟨.skip, undef, w', ι, by simp [g1], .inr ⟨rfl, rfl⟩, g2, .inr (.tuple _ _ rfl (fun i v v' h => by simp at h)), .refl _ _, g3, by omega⟩
    · simp at h
  | nilCheck x =>
    simp only [opA] at h; simp only [execOp]
    split at h
    · rename_i ad hu
      simp only [Option.some.injEq, Prod.mk.injEq] at h; obtain ⟨rfl, rfl⟩ := h
      have hr := evL_rel hs hu
      cases hq : a.eval x <;> rw [hq] at hr <;> cases hr
      exact StepOk.pure hH (by simp only [hq]; rfl) (.inr (.ptr _ _ _ (by assumption)))
    · rename_i f fs cs hu
      simp only [Option.some.injEq, Prod.mk.injEq] at h; obtain ⟨rfl, rfl⟩ := h
      have hr := evL_rel hs hu
      cases hq : a.eval x <;> rw [hq] at hr <;> cases hr
      exact StepOk.pure hH (by simp only [hq]; rfl) (.inr (.func _ _ _ (by assumption) (by assumption)))
    · simp at h
  | binOp op ty x y c =>
    simp only [opA] at h; simp only [execOp]
    split at h
    · rename_i u1 u2 hu1 hu2
      obtain ⟨hv, rfl⟩ := map_some_pair h
      have h1 := evL_rel hs hu1
      have h2 := evL_rel hs hu2
      have hb := binA_rel h1 h2 hv
      obtain ⟨g1, g2⟩ := binA_run (P := P) (w := w) (ox := x) (oy := y) hT hE hb
      exact stepVal (StepOk.pure hH (v' := v) (by rw [g1]; rfl) (.inr (.flat g2)))
    · simp at h
  | unOp op ty x =>
    simp only [opA] at h; simp only [execOp]
    split at h
    · rename_i u1 hu1
      obtain ⟨hv, rfl⟩ := map_some_pair h
      have h1 := evL_rel hs hu1
      have hf : flatV u1 = true := by
        unfold unA at hv
        split at hv <;> first | rfl | simp at hv
      have h1' := h1.flat_eq hf
      obtain ⟨g1, g2⟩ := unA_run (P := P) (w := w) hv
      exact stepVal (StepOk.pure hH (v' := v) (by rw [h1', g1]; rfl) (.inr (.flat g2)))
    · simp at h
  | convert s d x =>
    simp only [opA] at h; simp only [execOp]
    split at h
    · rename_i u1 hu1
      obtain ⟨hv, rfl⟩ := map_some_pair h
      obtain ⟨v', g1, g2⟩ := convA_run (P := P) (w := w) hT (evL_rel hs hu1) hv
      exact stepVal (StepOk.pure hH (v' := v') (by rw [g1]; rfl) (.inr g2))
    · simp at h
  | makeFunc fn first caps =>
    cases fn with
    | func f =>
      simp only [opA] at h; simp only [execOp]
      split at h
      · rename_i hf0
        cases hl : evAllL t caps.toList with
        | none => simp [hl] at h
        | some l =>
          simp only [hl, Option.map_some, Option.some.injEq, Prod.mk.injEq] at h; obtain ⟨rfl, rfl⟩ := h
          have hr := evAllL_rel hs _ _ hl
          have hfe : first = #[] := Array.eq_empty_of_size_eq_zero hf0
          subst hfe
          have hc : caps.map a.eval = ⟨caps.toList.map a.eval⟩ := Array.ext' (by simp)
          exact stepVal (StepOk.pure hH (v' := .func (.func f) #[] ⟨caps.toList.map a.eval⟩) (by simp [Instr.makeFunc, hc]) (.inr (.func f _ _ hr.1 hr.2)))
      · simp at h
    | _ => simp [opA] at h
  | makeSlice ty l c =>
    simp only [opA] at h; simp only [execOp]
    split at h
    · rename_i u1 u2 hu1 hu2
      exact stepVal (makeSliceA_run hT hH hB (evL_rel hs hu1) (evL_rel hs hu2) h)
    · simp at h
  | slice ty x lo hi mx =>
    simp only [opA] at h; simp only [execOp]
    split at h
    · rename_i u l hh m hu hl hhi hm
      obtain ⟨hv, rfl⟩ := map_some_pair h
      obtain ⟨v', g1, g2⟩ := sliceA_run (P := P) (w := w) hT hH (optInt_rel hs hl) (optInt_rel hs hhi) (optInt_rel hs hm) (evL_rel hs hu) hv
      exact stepVal (StepOk.pure hH (v' := v') (by rw [g1]; rfl) (.inr g2))
    · simp at h
  | fieldAddr ty x f =>
    simp only [opA] at h; simp only [execOp]
    split at h
    · rename_i u hu
      obtain ⟨hv, rfl⟩ := map_some_pair h
      obtain ⟨v', g1, g2⟩ := fieldAtA_run (P := P) (w := w) hT (evL_rel hs hu) hv
      exact stepVal (StepOk.pure hH (v' := v') (by rw [g1]; rfl) (.inr g2))
    · simp at h
  | field ty x f =>
    simp only [opA] at h; simp only [execOp]
    split at h
    · rename_i u hu
      obtain ⟨hv, rfl⟩ := map_some_pair h
      obtain ⟨v', g1, g2⟩ := fieldA_run (P := P) (w := w) hT (evL_rel hs hu) hv
      exact stepVal (StepOk.pure hH (v' := v') (by rw [g1]; rfl) (.inr g2))
    · simp at h
  | indexAddr ty x i =>
    simp only [opA] at h; simp only [execOp]
    split at h
    · rename_i u1 u2 hu1 hu2
      obtain ⟨hv, rfl⟩ := map_some_pair h
      obtain ⟨v', g1, g2⟩ := indexAtA_run (P := P) (w := w) hT (evL_rel hs hu1) (evL_rel hs hu2) hv
      exact stepVal (StepOk.pure hH (v' := v') (by rw [g1]; rfl) (.inr g2))
    · simp at h
  | index ty x i =>
    simp only [opA] at h; simp only [execOp]
    split at h
    · rename_i u1 u2 hu1 hu2
      obtain ⟨hv, rfl⟩ := map_some_pair h
      obtain ⟨v', g1, g2⟩ := indexA_run (P := P) (w := w) hT (evL_rel hs hu1) (evL_rel hs hu2) hv
      exact stepVal (StepOk.pure hH (v' := v') (by rw [g1]; rfl) (.inr g2))
    · simp at h
  | extract x i =>
    simp only [opA] at h; simp only [execOp]
    split at h
    · rename_i vs hu
      obtain ⟨hv, rfl⟩ := map_some_pair h
      have hr := evL_rel hs hu
      cases hq : a.eval x <;> rw [hq] at hr <;> cases hr
      rename_i xs ys hl hxy
      obtain ⟨v', g1, g2⟩ := LRel.get (ι := ι) ⟨hl, hxy⟩ hv
      refine stepVal (StepOk.pure hH (v' := v') ?_ (.inr g2))
      simp [Instr.extract, hq, g1]
    · simp at h
  | call c0 =>
    obtain ⟨callee, args, tys⟩ := c0
    cases callee with
    | builtin b =>
      simp only [opA] at h; simp only [execOp]
      split at h
      · rename_i l hl
        have hr := evAllL_rel hs _ _ hl
        have hc : args.map a.eval = ⟨args.toList.map a.eval⟩ := Array.ext' (by simp)
        simp only [resolve, pure_bind, invoke, hc]
        exact builtinA_run hT hH hB hr h
      · simp at h
    | _ => simp [opA] at h
  | _ => simp [opA] at h
end
end Go.Proofs.Ytbmejhabgoimeaa.Eng
set_option linter.unusedVariables false
set_option linter.unusedSimpArgs false
namespace Go.Proofs.Ytbmejhabgoimeaa.Eng
open Go Go.RowKit

/-! ### what code does on the abstract side -/
abbrev AQ := Exit → List Value → Heap → Prop

def Post (w0 : World) (ι : Ren) (B : Nat) (H : Heap) (Q : AQ) : Exit → Act → World → Prop := fun e a w =>
  ∃ (t' : List Value) (H' : Heap) (ι' : Ren), Q e t' H' ∧ HRel w0 ι' H' w ∧ TS ι' t' a.tmps ∧ a.defers = [] ∧ Ext B ι ι' ∧ OCs B H H' ∧ B ≤ H'.length

def Ex (P : Program) (B : Nat) (c : Code) (t : List Value) (H : Heap) (Q : AQ) : Prop :=
  ∀ (w0 : World) (ι : Ren) (w : World) (a : Act), HRel w0 ι H w → TS ι t a.tmps → a.defers = [] → B ≤ H.length → OC B H → c.wp P (Post w0 ι B H Q) a w

def thenA (next : List Value → Heap → Prop) (Q : AQ) : AQ
  | .normal, t, H => next t H
  | e, t, H => Q e t H
def inBlockA (id : Nat) (Q : AQ) : AQ
  | .exit id', t, H => if id' = id then Q .normal t H else Q (.exit id') t H
  | e, t, H => Q e t H

section
variable {P : Program} {B : Nat} {t : List Value} {H : Heap} {Q : AQ}

theorem Post.mono {w0 : World} {ι ι1 : Ren} {H1 : Heap} {Q1 : AQ} (hE : Ext B ι ι1) (hO : OCs B H H1) (hq : ∀ e t H, Q1 e t H → Q e t H) {e : Exit} {a : Act} {w : World} (h : Post w0 ι1 B H1 Q1 e a w) : Post w0 ι B H Q e a w := by
  obtain ⟨t', H', ι', q, h1, h2, h3, h4, h5, h6⟩ := h
  exact ⟨t', H', ι', hq _ _ _ q, h1, h2, h3, hE.trans h4 (Nat.le_refl _), hO.trans h5, h6⟩

theorem Ex.mono {c : Code} {Q1 : AQ} (h : Ex P B c t H Q1) (hq : ∀ e t H, Q1 e t H → Q e t H) : Ex P B c t H Q :=
  fun w0 ι w a h1 h2 h3 h4 h5 => wp_mono (h w0 ι w a h1 h2 h3 h4 h5) fun e a w => Post.mono (Ext.refl _ _) (.refl _ _) hq

theorem Post.now {w0 : World} {ι : Ren} {e : Exit} {a : Act} {w : World} (hq : Q e t H) (h1 : HRel w0 ι H w) (h2 : TS ι t a.tmps) (h3 : a.defers = []) (h4 : B ≤ H.length) : Post w0 ι B H Q e a w :=
  ⟨t, H, ι, hq, h1, h2, h3, .refl _ _, .refl _ _, h4⟩

theorem Ex_skip (h : Q .normal t H) : Ex P B .skip t H Q := fun w0 ι w a h1 h2 h3 h4 h5 => wp_skip (.now h h1 h2 h3 h4)
theorem Ex_label {l : Nat} (h : Q .normal t H) : Ex P B (.label l) t H Q := fun w0 ι w a h1 h2 h3 h4 h5 => wp_label (.now h h1 h2 h3 h4)
theorem Ex_exit {id : Nat} (h : Q (.exit id) t H) : Ex P B (.exit id) t H Q := fun w0 ι w a h1 h2 h3 h4 h5 => wp_exit (.now h h1 h2 h3 h4)
theorem Ex_ret (h : Q .ret t H) : Ex P B .ret t H Q := fun w0 ι w a h1 h2 h3 h4 h5 => wp_ret (.now h h1 h2 h3 h4)
theorem Ex_seq {x y : Code} (h : Ex P B x t H (thenA (fun t H => Ex P B y t H Q) Q)) : Ex P B (.seq x y) t H Q := fun w0 ι w a h1 h2 h3 h4 h5 => by
  refine wp_seq (wp_mono (h w0 ι w a h1 h2 h3 h4 h5) fun e a' w' hp => ?_)
  obtain ⟨t', H', ι', q, k1, k2, k3, k4, k5, k6⟩ := hp
  cases e <;> first
    | exact ⟨t', H', ι', q, k1, k2, k3, k4, k5, k6⟩
    | exact wp_mono (q w0 ι' w' a' k1 k2 k3 k6 (k5 B (Nat.le_refl _) h5)) fun e a w => Post.mono k4 k5 (fun _ _ _ q => q)
theorem Ex_cond {c : Operand} {x y : Code} {q : Bool} (hc : evL t c = some (.bool q)) (h : Ex P B (if q = true then x else y) t H Q) : Ex P B (.cond c x y) t H Q := fun w0 ι w a h1 h2 h3 h4 h5 => by
  have hr := evL_rel h2 hc
  have hv : a.eval c = .bool q := by cases hq : a.eval c <;> rw [hq] at hr <;> cases hr; rfl
  exact wp_cond hv (h w0 ι w a h1 h2 h3 h4 h5)
theorem Ex_block {id : Nat} {c : Code} (h : Ex P B c t H (inBlockA id Q)) : Ex P B (.block id c) t H Q := fun w0 ι w a h1 h2 h3 h4 h5 => by
  refine wp_block (wp_mono (h w0 ι w a h1 h2 h3 h4 h5) fun e a' w' hp => ?_)
  obtain ⟨t', H', ι', q, k1, k2, k3, k4, k5, k6⟩ := hp
  cases e with
  | exit id' =>
    simp only [inBlockA] at q
    simp only [Exit.inBlock]
    split
    · rename_i he; rw [if_pos he] at q; exact ⟨t', H', ι', q, k1, k2, k3, k4, k5, k6⟩
    · rename_i he; rw [if_neg he] at q; exact ⟨t', H', ι', q, k1, k2, k3, k4, k5, k6⟩
  | _ => exact ⟨t', H', ι', q, k1, k2, k3, k4, k5, k6⟩

/-! ### loops -/
def RoundsA (P : Program) (B : Nat) (c : Code) (Q : AQ) : Nat → List Value → Heap → Prop
  | 0, _, _ => False
  | n + 1, t, H => Ex P B c t H (thenA (RoundsA P B c Q n) Q)
theorem rounds_run {c : Code} {w0 : World} : ∀ (n : Nat) (t : List Value) (H : Heap) (ι ι0 : Ren) (H0 : Heap) (w : World) (a : Act), RoundsA P B c Q n t H → HRel w0 ι H w → TS ι t a.tmps → a.defers = [] → B ≤ H.length → OC B H → Ext B ι0 ι → OCs B H0 H →
    Code.rounds P c (Post w0 ι0 B H0 Q) n a w
  | 0, t, H, ι, ι0, H0, w, a, h, _, _, _, _, _, _, _ => h
  | n + 1, t, H, ι, ι0, H0, w, a, h, h1, h2, h3, h4, h5, h6, h7 => by
    refine wp_mono (h w0 ι w a h1 h2 h3 h4 h5) fun e a' w' hp => ?_
    obtain ⟨t', H', ι', q, k1, k2, k3, k4, k5, k6⟩ := hp
    have e1 := h6.trans k4 (Nat.le_refl _)
    have e2 := h7.trans k5
    cases e <;> first
      | exact ⟨t', H', ι', q, k1, k2, k3, e1, e2, k6⟩
      | exact rounds_run n t' H' ι' ι0 H0 w' a' q k1 k2 k3 k6 (k5 B (Nat.le_refl _) h5) e1 e2
theorem Ex_rounds {c : Code} (n : Nat) (h : RoundsA P B c Q n t H) : Ex P B (.loop c) t H Q := fun w0 ι w a h1 h2 h3 h4 h5 =>
  wp_loop_rounds n (rounds_run n t H ι ι H w a h h1 h2 h3 h4 h5 (.refl _ _) (.refl _ _))
theorem thenA_mono {K K1 : List Value → Heap → Prop} (hk : ∀ t H, K1 t H → K t H) : ∀ e t H, thenA K1 Q e t H → thenA K Q e t H := fun e t H h => by
  cases e <;> first | exact h | exact hk _ _ h
theorem rounds_mono {c : Code} : ∀ (n m : Nat) (t : List Value) (H : Heap), n ≤ m → RoundsA P B c Q n t H → RoundsA P B c Q m t H
  | 0, m, t, H, _, h => h.elim
  | n + 1, 0, t, H, hn, h => by omega
  | n + 1, m + 1, t, H, hn, h => Ex.mono h (thenA_mono fun t H => rounds_mono n m t H (by omega))
/-- A loop with a count that falls. -/
theorem Ex_loop {c : Code} (I : Nat → List Value → Heap → Prop) (n : Nat) (h0 : I n t H)
    (hr : ∀ n t H, I n t H → Ex P B c t H (thenA (fun t' H' => ∃ m, m < n ∧ I m t' H') Q)) : Ex P B (.loop c) t H Q := by
  have key : ∀ n t H, I n t H → RoundsA P B c Q (n + 1) t H := by
    intro n
    induction n using Nat.strongRecOn with
    | _ n ih =>
      intro t H hI
      exact Ex.mono (hr n t H hI) (thenA_mono fun t H ⟨m, hm, hI⟩ => rounds_mono (m + 1) n t H hm (ih m hm t H hI))
  exact Ex_rounds _ (key n t H h0)

/-! ### calls -/
def Enters (P : Program) (f : FuncId) : Prop := ∃ fn, P.funcs[f]? = some fn ∧ (fn.name == "runtime.NumGoroutine") = false ∧ fn.body.isNone = false
/-- f, called with these values at this heap, answers as told. -/
def Runs (P : Program) (f : FuncId) (args : List Value) (H : Heap) (R : Value → Heap → Prop) : Prop :=
  Enters P f ∧ ∀ (w0 : World) (ι : Ren) (w : World) (args' : List Value), HRel w0 ι H w → LRel ι args args' →
    Calls P f ⟨args'⟩ w fun e w' => ∃ (v v' : Value) (H' : Heap) (ι' : Ren), e = .returned v' ∧ R v H' ∧ VRel ι' v v' ∧ HRel w0 ι' H' w' ∧ Ext H.length ι ι' ∧ OCs H.length H H' ∧ H.length ≤ H'.length
theorem Runs.mono {f : FuncId} {args : List Value} {R R1 : Value → Heap → Prop} (h : Runs P f args H R1) (hr : ∀ v H, R1 v H → R v H) : Runs P f args H R :=
  ⟨h.1, fun w0 ι w args' h1 h2 => (h.2 w0 ι w args' h1 h2).mono fun e w' ⟨v, v', H', ι', a1, a2, a3⟩ => ⟨v, v', H', ι', a1, hr _ _ a2, a3⟩⟩

/-- One operation. -/
def OpX (P : Program) (B : Nat) (o : Oper) (t : List Value) (H : Heap) (K : Value → Heap → Prop) : Prop :=
  ∀ (w0 : World) (ι : Ren) (w : World) (a : Act) (Qx : Exit → Act → World → Prop), HRel w0 ι H w → TS ι t a.tmps → B ≤ H.length →
    o.wp P a w (fun a' w' => ∃ (v v' : Value) (H' : Heap) (ι' : Ren), a' = a.put o.dst v' ∧ K v H' ∧ TRel ι' v v' ∧ HRel w0 ι' H' w' ∧ Ext H.length ι ι' ∧ OCs B H H' ∧ H.length ≤ H'.length) Qx
theorem OpX.mono {o : Oper} {K K1 : Value → Heap → Prop} (h : OpX P B o t H K1) (hk : ∀ v H, K1 v H → K v H) : OpX P B o t H K := fun w0 ι w a Qx h1 h2 h3 =>
  Oper.wp_mono (fun a' w' ⟨v, v', H', ι', a1, a2, a3⟩ => ⟨v, v', H', ι', a1, hk _ _ a2, a3⟩) (h w0 ι w a Qx h1 h2 h3)
theorem OpX_op {T : Ty} {eqOk : Nat → Bool} (hT : TyOk P T) (hE : EqOk P eqOk) {o : Oper} {K : Value → Heap → Prop} {v : Value} {H' : Heap} (h : opA T eqOk B t H o = some (v, H')) (hk : K v H') : OpX P B o t H K := fun w0 ι w a Qx h1 h2 h3 => by
  obtain ⟨nx, v', w', ι', g1, g2, g3, g4, g5, g6, g7⟩ := op_sound hT hE h1 h3 h2 h
  unfold Oper.wp
  rw [g1]
  rcases g2 with rfl | ⟨rfl, rfl⟩
  · exact ⟨v, v', H', ι', rfl, hk, g4, g3, g5, g6, g7⟩
  · exact ⟨v, undef, H', ι', rfl, hk, g4, g3, g5, g6, g7⟩
/-- The bytes of a text. -/
def bytesL (ns : List Int) : List UInt8 := ns.map fun n => UInt8.ofNat n.toNat
theorem push_fold (ns : List Int) : ∀ (s : ByteArray), ns.foldl (fun r n => r.push (UInt8.ofNat n.toNat)) s = ⟨⟨s.data.toList ++ bytesL ns⟩⟩ := by
  induction ns with
  | nil => intro s; simp [bytesL]
  | cons n ns ih =>
    intro s
    rw [List.foldl_cons, ih]
    simp [bytesL, ByteArray.push]
theorem ints_rel {ι : Ren} : ∀ {ns : List Int} {vs' : List Value}, LRel ι (ns.map (Value.int .u8)) vs' → vs' = ns.map (Value.int .u8)
  | [], vs', h => List.eq_nil_of_length_eq_zero (by have := h.1; simpa using this.symm)
  | n :: ns, [], h => by have := h.1; simp at this
  | n :: ns, v :: vs', h => by
    have h0 := h.2 0 (.int .u8 n) v (by simp) (by simp)
    cases h0
    have := ints_rel (ι := ι) (ns := ns) (vs' := vs') ⟨by have := h.1; simpa using this, fun i a b h1 h2 => h.2 (i + 1) a b (by simpa using h1) (by simpa using h2)⟩
    rw [this]; rfl
/-- Bytes turned to a text. -/
theorem OpX_bytes {T : Ty} (hT : TyOk P T) {o : Oper} {K : Value → Heap → Prop} {s d e m : Nat} {x : Operand} {ds dd de : TyD} {xa : Option Addr} {xc : Nat} {ns : List Int} (ho : o.op = .convert s d x) (hs : T s = some ds) (hsu : ds.und = .slice e) (he : T e = some de) (heu : de.und = .int .u8) (hd : T d = some dd) (hdu : dd.und = .string)
    (hx : evL t x = some (.slice xa m xc)) (hl : rowA H 1 (.slice xa m xc) m = some (ns.map (Value.int .u8))) (hk : K (.string ⟨⟨bytesL ns⟩⟩) H) : OpX P B o t H K := fun w0 ι w a Qx h1 h2 h3 => by
  have hu1 := (hT s ds hs).und; rw [hsu] at hu1
  have hu2 := (hT e de he).und; rw [heu] at hu2
  have hu3 := (hT d dd hd).und; rw [hdu] at hu3
  have hr := evL_rel h2 hx
  have key : (execOp a.eval o).run P w = .ok (.value (.string ⟨⟨bytesL ns⟩⟩)) w := by
    have hc : ∀ x', VRel ι (.slice xa m xc) x' → (convert s d x').run P w = .ok (.string ⟨⟨bytesL ns⟩⟩) w := by
      intro x' hx'
      cases hx' with
      | nilSl =>
        rw [run_convert_bytes_string w s d e _ _ _ hu1 hu2 hu3]
        simp only [rowA, if_true] at hl
        have : ns = [] := by simpa using (Option.some.inj hl).symm
        subst this
        simp [Conv.bytesToString, Sem.run_pure, bytesL]
        rfl
      | sl b o' n c L a' c' hb hn hz hl0 hx0 ha =>
        rw [run_convert_bytes_string w s d e _ _ _ hu1 hu2 hu3]
        simp only [rowA, Nat.le_refl, if_true, Nat.mul_one] at hl
        have hld : (loadCells a' m).run P w = .ok (ns.map (Value.int .u8)).toArray w := by
          rcases ha with ha | ha
          · obtain ⟨vs', g1, g2⟩ := h1.load (P := P) hl hb
            rw [ints_rel g2] at g1
            rw [ha]; exact g1
          · have hm : m = 0 := by omega
            subst hm
            have h0 : ns = [] := by
              unfold loadA at hl
              split at hl
              · split at hl
                · simpa using (Option.some.inj hl)
                · simp at hl
              · simp at hl
            subst h0
            exact run_loadCells (P := P) w a' 0 (fun _ => undef) (fun j hj => absurd hj (Nat.not_lt_zero _))
        rw [run_bytesToString w a' m c' ns hld, push_fold]
        rfl
    unfold execOp
    simp only [ho, Sem.run_bind, hc _ hr, Result.andThen_ok]
    rfl
  unfold Oper.wp
  rw [key]
  exact ⟨_, _, H, ι, rfl, hk, .inr (.str _), h1, .refl _ _, .refl _ _, Nat.le_refl _⟩
theorem OpX_call {o : Oper} {fo : Operand} {args : Array Operand} {tys : Array TypeId} {f : FuncId} {caps as : List Value} {K R : Value → Heap → Prop} (ho : o.op = .call ⟨.value fo, args, tys⟩)
    (hf : evL t fo = some (.func (.func f) #[] ⟨caps⟩)) (ha : evAllL t args.toList = some as) (hr : Runs P f (as ++ caps) H R) (hk : ∀ v H', R v H' → K v H') : OpX P B o t H K := fun w0 ι w a Qx h1 h2 h3 => by
  obtain ⟨⟨fn, e1, e2, e3⟩, hr⟩ := hr
  have hfr := evL_rel h2 hf
  have har := evAllL_rel h2 _ _ ha
  obtain ⟨caps', hfv, hcr⟩ : ∃ caps', a.eval fo = .func (.func f) #[] ⟨caps'⟩ ∧ LRel ι caps caps' := by
    cases hq : a.eval fo <;> rw [hq] at hfr <;> cases hfr
    rename_i ys hl hxy
    exact ⟨ys, rfl, hl, hxy⟩
  have hargs : args.map a.eval = ⟨args.toList.map a.eval⟩ := Array.ext' (by simp)
  have hcall := hr w0 ι w (args.toList.map a.eval ++ caps') h1 (har.append hcr)
  unfold Oper.wp
  have hx : (execOp a.eval o).run P w = .ok (.enter f ⟨args.toList.map a.eval ++ caps'⟩) w := by
    unfold execOp
    simp only [ho, resolve, Deferred.ofValue, hfv, hargs]
    have e5 : ¬ fn.name = "runtime.NumGoroutine" := by simpa using e2
    have e4 : ¬ fn.body = none := by intro hn; simp [hn] at e3
    simp [invoke, callFunc, e1, e5, e4]
  rw [hx]
  refine hcall.mono fun e w' ⟨v, v', H', ι', a1, a2, a3, a4, a5, a6, a7⟩ => ?_
  subst a1
  exact ⟨v, v', H', ι', rfl, hk _ _ a2, .inr a3, a4, a5, a6.mono h3, a7⟩
end
end Go.Proofs.Ytbmejhabgoimeaa.Eng
set_option linter.unusedVariables false
set_option linter.unusedSimpArgs false
namespace Go.Proofs.Ytbmejhabgoimeaa.Eng
open Go Go.RowKit

/-! ### regions in the order of the text -/
def boolOf : Value → Option Bool | .bool b => some b | _ => none
def wantedA (ops : Array Oper) (o : Oper) (t : List Value) : Option Bool :=
  match o.guard with
  | none => some true
  | some (j, want) => match ((ops[j]?).bind (·.dst)).bind (t[·]?) with
    | some v => if isDead v = true then none else some (boolOf v == some want)
    | none => none
def putT (t : List Value) (d : Option Tmp) (v : Value) : List Value := match d with | some i => t.set i v | none => t
def RegX (P : Program) (B : Nat) (ops : Array Oper) : List Oper → List Value → Heap → (List Value → Heap → Prop) → Prop
  | [], t, H, K => K t H
  | o :: r, t, H, K => ∃ q, wantedA ops o t = some q ∧ (if q = true then OpX P B o t H (fun v H' => RegX P B ops r (putT t o.dst v) H' K) else RegX P B ops r (putT t o.dst undef) H K)

section
variable {P : Program} {B : Nat} {t : List Value} {H : Heap} {Q : AQ}

theorem wantedA_run {ι : Ren} {ops : Array Oper} {o : Oper} {a : Act} {q : Bool} (hs : TS ι t a.tmps) (h : wantedA ops o t = some q) : Region.wanted o (yielded ops a.tmps) = q := by
  unfold wantedA at h
  unfold Region.wanted
  split at h
  · rename_i hg; rw [hg]; exact Option.some.inj h
  · rename_i j want hg
    rw [hg]
    simp only
    split at h
    · rename_i v hv
      split at h
      · simp at h
      · rename_i hd
        have hd' : isDead v = false := by simpa using hd
        obtain rfl := Option.some.inj h
        unfold yielded
        cases hb : (ops[j]?).bind (·.dst) with
        | none => simp [hb] at hv
        | some d =>
          simp only [hb, Option.bind_some] at hv ⊢
          have hlt : d < t.length := (List.getElem?_eq_some_iff.1 hv).1
          have hlt' : d < a.tmps.size := Nat.lt_of_lt_of_eq hlt hs.1
          have hr := (hs.2 d v a.tmps[d] hv (by simp [hlt'])).live hd'
          rw [Array.getElem?_eq_getElem hlt']
          generalize a.tmps[d] = u at hr
          cases hr <;> rfl
    · simp at h
theorem TS.putT {ι : Ren} {a : Act} (h : TS ι t a.tmps) (d : Option Tmp) {v v' : Value} (hv : TRel ι v v') : TS ι (putT t d v) (a.put d v').tmps := h.put d hv
theorem undef_rel (ι : Ren) : VRel ι undef undef := .tuple _ _ rfl (fun i v v' h => by simp at h)
theorem TS.ext {w0 : World} {ι ι' : Ren} {w : World} {tm : Array Value} (hH : HRel w0 ι H w) (hE : Ext H.length ι ι') (h : TS ι t tm) : TS ι' t tm := h.mono (hH.ext hE)

theorem regX_run {w0 : World} {ops : Array Oper} {ι0 : Ren} {H0 : Heap} : ∀ (n k : Nat) (t : List Value) (H : Heap) (ι : Ren) (w : World) (a : Act), k + n = ops.size → RegX P B ops (ops.toList.drop k) t H (fun t H => Q .normal t H) →
    HRel w0 ι H w → TS ι t a.tmps → a.defers = [] → B ≤ H.length → OC B H → Ext B ι0 ι → OCs B H0 H → wpOps P ops (Post w0 ι0 B H0 Q) (List.range' k n) a w
  | 0, k, t, H, ι, w, a, hk, h, h1, h2, h3, h4, h5, h6, h7 => by
    rw [List.drop_eq_nil_of_le (by simp; omega)] at h
    exact ⟨t, H, ι, h, h1, h2, h3, h6, h7, h4⟩
  | n + 1, k, t, H, ι, w, a, hk, h, h1, h2, h3, h4, h5, h6, h7 => by
    have hlt : k < ops.size := by omega
    rw [List.drop_eq_getElem_cons (by simpa using hlt)] at h
    obtain ⟨q, hq, h⟩ := h
    rw [List.range'_succ, wpOps_cons]
    unfold wpOp
    have ho : ops[k]? = some ops.toList[k] := by simp [hlt]
    rw [ho]
    simp only
    rw [wantedA_run h2 hq]
    cases q with
    | true =>
      simp only [if_true] at h ⊢
      refine .inl (Oper.wp_mono ?_ (h w0 ι w a _ h1 h2 h4))
      rintro a' w' ⟨v, v', H', ι', rfl, a2, a3, a4, a5, a6, a7⟩
      have hE : Ext B ι ι' := a5.mono h4
      exact regX_run n (k + 1) _ H' ι' w' _ (by omega) a2 a4 ((h2.ext h1 a5).putT _ a3) (by cases hd : ops.toList[k].dst <;> simp [Act.put, h3]) (by omega) (a6 B (Nat.le_refl _) h5) (h6.trans hE (Nat.le_refl _)) (h7.trans a6)
    | false =>
      simp only [Bool.false_eq_true, if_false] at h ⊢
      exact regX_run n (k + 1) _ H ι w _ (by omega) h h1 (h2.putT _ (.inr (undef_rel ι))) (by cases hd : ops.toList[k].dst <;> simp [Act.put, h3]) h4 h5 h6 h7

theorem Ex_region {id : Nat} {ops : Array Oper} (h : RegX P B ops ops.toList t H (fun t H => Q .normal t H)) : Ex P B (.region id ops false) t H Q := fun w0 ι w a h1 h2 h3 h4 h5 => by
  refine wp_region ?_
  rw [List.range_eq_range']
  exact regX_run ops.size 0 t H ι w a (by omega) (by simpa using h) h1 h2 h3 h4 h5 (.refl _ _) (.refl _ _)

/-! ### what is kept of the heap -/
inductive Rn (B : Nat) (ks : List Nat) : Value → Value → Prop
  | lt (v : Value) (h : Lt B v) : Rn B ks v v
  | ptr (b b2 i k o : Nat) (hk : ks[i]? = some k) (hb : b = B + k) (hb2 : b2 = B + i) : Rn B ks (.pointer (some ⟨b, o, none⟩)) (.pointer (some ⟨b2, o, none⟩))
  | sl (b b2 i k o n c : Nat) (hk : ks[i]? = some k) (hb : b = B + k) (hb2 : b2 = B + i) : Rn B ks (.slice (some ⟨b, o, none⟩) n c) (.slice (some ⟨b2, o, none⟩) n c)
  | agg (xs ys : List Value) (hl : xs.length = ys.length) (h : ∀ (i : Nat) (v v' : Value), xs[i]? = some v → ys[i]? = some v' → Rn B ks v v') : Rn B ks (.agg ⟨xs⟩) (.agg ⟨ys⟩)
  | tuple (xs ys : List Value) (hl : xs.length = ys.length) (h : ∀ (i : Nat) (v v' : Value), xs[i]? = some v → ys[i]? = some v' → Rn B ks v v') : Rn B ks (.tuple ⟨xs⟩) (.tuple ⟨ys⟩)
  | func (f : FuncId) (xs ys : List Value) (hl : xs.length = ys.length) (h : ∀ (i : Nat) (v v' : Value), xs[i]? = some v → ys[i]? = some v' → Rn B ks v v') : Rn B ks (.func (.func f) #[] ⟨xs⟩) (.func (.func f) #[] ⟨ys⟩)
/-- The renaming after a cut. -/
def cutR (ι : Ren) (B : Nat) (ks : List Nat) : Ren := fun j => if j < B then ι j else match ks[j - B]? with | some k => ι (B + k) | none => none
theorem cutR_lt (ι : Ren) (B : Nat) (ks : List Nat) {j : Nat} (h : j < B) : cutR ι B ks j = ι j := by simp [cutR, h]
theorem cutR_new (ι : Ren) (B : Nat) {ks : List Nat} {i k : Nat} (h : ks[i]? = some k) : cutR ι B ks (B + i) = ι (B + k) := by
  have : ¬ B + i < B := by omega
  simp [cutR, h, this]
theorem Rn.run {ι : Ren} {ks : List Nat} {v v2 : Value} (h : Rn B ks v v2) : ∀ v', VRel ι v v' → VRel (cutR ι B ks) v2 v' := by
  induction h with
  | lt v h => intro v' r; exact h ι _ v' (fun id hi => cutR_lt ι B ks hi) r
  | ptr b b2 i k o hk hb hb2 =>
    intro v' r; subst hb; subst hb2
    cases r with | ptr _ _ L hL => exact .ptr _ _ L (by rw [cutR_new ι B hk]; exact hL)
  | sl b b2 i k o n c hk hb hb2 =>
    intro v' r; subst hb; subst hb2
    cases r with | sl _ _ _ _ L a' c' hL h2 h3 h4 h5 h6 => exact .sl _ _ _ _ L a' c' (by rw [cutR_new ι B hk]; exact hL) h2 h3 h4 h5 h6
  | agg xs ys hl h ih =>
    intro v' r
    cases r with | agg _ zs hl2 h2 =>
      refine .agg _ _ (hl.symm.trans hl2) fun i v v' hv hv' => ?_
      have hi : i < xs.length := by rw [hl]; exact (List.getElem?_eq_some_iff.1 hv).1
      exact ih i xs[i] v (by simp [hi]) hv v' (h2 i xs[i] v' (by simp [hi]) hv')
  | tuple xs ys hl h ih =>
    intro v' r
    cases r with | tuple _ zs hl2 h2 =>
      refine .tuple _ _ (hl.symm.trans hl2) fun i v v' hv hv' => ?_
      have hi : i < xs.length := by rw [hl]; exact (List.getElem?_eq_some_iff.1 hv).1
      exact ih i xs[i] v (by simp [hi]) hv v' (h2 i xs[i] v' (by simp [hi]) hv')
  | func f xs ys hl h ih =>
    intro v' r
    cases r with | func _ _ zs hl2 h2 =>
      refine .func f _ _ (hl.symm.trans hl2) fun i v v' hv hv' => ?_
      have hi : i < xs.length := by rw [hl]; exact (List.getElem?_eq_some_iff.1 hv).1
      exact ih i xs[i] v (by simp [hi]) hv v' (h2 i xs[i] v' (by simp [hi]) hv')

def LRn (B : Nat) (ks : List Nat) (xs ys : List Value) : Prop := xs.length = ys.length ∧ ∀ (i : Nat) (v v' : Value), xs[i]? = some v → ys[i]? = some v' → Rn B ks v v'
/-- Rows that are kept. -/
def RnB (B : Nat) (ks : List Nat) (x : Option (Option Blk)) (y : Option Blk) : Prop :=
  match y with
  | none => True
  | some b2 => ∃ b, x = some (some b) ∧ b2.sz = b.sz ∧ b2.wr = b.wr ∧ (b2.fl = true → b.fl = true) ∧ ((b.fl = true ∧ b2.cells = b.cells) ∨ LRn B ks b.cells b2.cells)
def RnBs (B : Nat) (ks : List Nat) (bs : List (Option Blk)) : List Nat → List (Option Blk) → Prop
  | [], [] => True
  | k :: r, y :: ys => RnB B ks bs[k]? y ∧ RnBs B ks bs r ys
  | _, _ => False
theorem RnBs.at {ks : List Nat} {bs : List (Option Blk)} : ∀ {r : List Nat} {ys : List (Option Blk)}, RnBs B ks bs r ys → r.length = ys.length ∧ ∀ (i : Nat) (y : Option Blk), ys[i]? = some y → ∃ k, r[i]? = some k ∧ RnB B ks bs[k]? y
  | [], [], _ => ⟨rfl, fun i y h => by simp at h⟩
  | k :: r, y :: ys, h => by
    obtain ⟨e1, e2⟩ := RnBs.at h.2
    refine ⟨by simp [e1], fun i z hz => ?_⟩
    cases i with
    | zero => simp at hz; subst hz; exact ⟨k, by simp, h.1⟩
    | succ i => simpa using e2 i z (by simpa using hz)
  | [], _ :: _, h => h.elim
  | _ :: _, [], h => h.elim

/-- Cutting the heap. -/
theorem HRel.cut {w0 w : World} {ι : Ren} {H0 : Heap} {bs ys : List (Option Blk)} {ks : List Nat} (h : HRel w0 ι (H0 ++ bs) w) (ho : OC H0.length (H0 ++ bs)) (hd : ks.Nodup) (hk : RnBs H0.length ks bs ks ys) :
    HRel w0 (cutR ι H0.length ks) (H0 ++ ys) w := by
  obtain ⟨hlen, hat⟩ := hk.at
  -- what stands at a place of the new heap
  have place : ∀ (j : Nat) (b2 : Blk), (H0 ++ ys)[j]? = some (some b2) → ∃ (i : Nat) (b : Blk), cutR ι H0.length ks j = ι i ∧ (H0 ++ bs)[i]? = some (some b) ∧ b2.sz = b.sz ∧ b2.wr = b.wr ∧ (b2.fl = true → b.fl = true) ∧ b2.cells.length = b.cells.length ∧
      (∀ (q : Nat) (v2 : Value), b2.cells[q]? = some v2 → ∃ v, b.cells[q]? = some v ∧ (flatV v = true → v2 = v) ∧ ∀ v', VRel ι v v' → VRel (cutR ι H0.length ks) v2 v') ∧ (j < H0.length → i = j) ∧ (H0.length ≤ j → ∃ k, ks[j - H0.length]? = some k ∧ i = H0.length + k) := by
    intro j b2 hj
    by_cases hlt : j < H0.length
    · rw [List.getElem?_append_left hlt] at hj
      refine ⟨j, b2, cutR_lt _ _ _ hlt, by rw [List.getElem?_append_left hlt]; exact hj, rfl, rfl, id, rfl, fun q v2 hv => ⟨v2, hv, fun _ => rfl, fun v' hr => ?_⟩, fun _ => rfl, fun hge => by omega⟩
      have := ho j b2 v2 hlt (by rw [List.getElem?_append_left hlt]; exact hj) (List.mem_of_getElem? hv)
      exact this ι _ v' (fun id hi => cutR_lt _ _ _ hi) hr
    · have hge : H0.length ≤ j := by omega
      rw [List.getElem?_append_right hge] at hj
      obtain ⟨k, hk1, b, hb, e1, e2, e3, e4⟩ := hat _ _ hj
      have hj2 : j = H0.length + (j - H0.length) := by omega
      refine ⟨H0.length + k, b, by rw [hj2, cutR_new _ _ (by simpa using hk1)], by rw [List.getElem?_append_right (by omega)]; simpa using hb, e1, e2, e3, ?_, ?_, fun hh => by omega, fun _ => ⟨k, hk1, rfl⟩⟩
      · rcases e4 with ⟨_, e4⟩ | e4
        · rw [e4]
        · exact e4.1.symm
      · intro q v2 hv
        rcases e4 with ⟨hf, e4⟩ | e4
        · rw [e4] at hv
          have hfl := h.flat (H0.length + k) b (by rw [List.getElem?_append_right (by omega)]; simpa using hb) hf v2 (List.mem_of_getElem? hv)
          exact ⟨v2, hv, fun _ => rfl, fun v' hr => by have := hr.flat_eq hfl; subst this; exact .flat hfl⟩
        · have hq : q < b.cells.length := by rw [e4.1]; exact (List.getElem?_eq_some_iff.1 hv).1
          have hrn := e4.2 q b.cells[q] v2 (by simp [hq]) hv
          refine ⟨b.cells[q], by simp [hq], fun hf => ?_, fun v' hr => hrn.run v' hr⟩
          revert hf hrn; generalize b.cells[q] = u; intro hrn hf
          cases hrn <;> first | rfl | simp [flatV] at hf
  refine ⟨h.below, ?_, ?_, ?_, ?_, ?_⟩
  · intro j L hj
    simp only [cutR] at hj
    split at hj
    · simp; omega
    · split at hj
      · rename_i k hk2
        have := (List.getElem?_eq_some_iff.1 hk2).1
        simp; omega
      · simp at hj
  · intro j L b2 hj hb2
    obtain ⟨i, b, p1, p2, p3, p4, p5, p6, p7, _⟩ := place j b2 hb2
    rw [p1] at hj
    obtain ⟨c, e, fr, q1, q2, q3, q4, q5, q6⟩ := h.blk i L b hj p2
    refine ⟨c, e, fr, q1, q2, by rw [p6]; exact q3, by rw [q4, p3], ?_, by rw [p4]; exact q6⟩
    intro q v2 hv
    obtain ⟨v, r1, _, r2⟩ := p7 q v2 hv
    obtain ⟨v', r3, r4⟩ := q5 q v r1
    exact ⟨v', r3, r2 v' r4⟩
  · intro i j L M b b2 hi hj hne hbi hw hbj
    obtain ⟨i1, b1, p1, p2, _, p4, _, _, _, p8, p9⟩ := place i b hbi
    obtain ⟨j1, b3, r1, r2, _, r4, _, _, _, r8, r9⟩ := place j b2 hbj
    rw [p1] at hi; rw [r1] at hj
    refine h.sep i1 j1 L M b1 b3 hi hj ?_ p2 (by rw [← p4]; exact hw) r2
    intro he
    by_cases ci : i < H0.length
    · by_cases cj : j < H0.length
      · exact hne (by rw [← p8 ci, ← r8 cj]; exact he)
      · obtain ⟨k, _, rk⟩ := r9 (by omega); have := p8 ci; omega
    · by_cases cj : j < H0.length
      · obtain ⟨k, _, rk⟩ := p9 (by omega); have := r8 cj; omega
      · obtain ⟨k, k1, k2⟩ := p9 (by omega)
        obtain ⟨l, l1, l2⟩ := r9 (by omega)
        have hkl : k = l := by omega
        subst hkl
        obtain ⟨z1, z2⟩ := List.getElem?_eq_some_iff.1 k1
        obtain ⟨z3, z4⟩ := List.getElem?_eq_some_iff.1 l1
        have hp := List.pairwise_iff_getElem.1 hd
        rcases Nat.lt_trichotomy (i - H0.length) (j - H0.length) with q | q | q
        · exact hp _ _ z1 z3 q (z2.trans z4.symm)
        · exact hne (by rw [← Nat.sub_add_cancel (Nat.le_of_not_lt ci), q, Nat.sub_add_cancel (Nat.le_of_not_lt cj)])
        · exact hp _ _ z3 z1 q (z4.trans z2.symm)
  · intro j b2 hb2 hf v hv
    obtain ⟨i, b, p1, p2, p3, p4, p5, p6, p7, _⟩ := place j b2 hb2
    obtain ⟨q, hq⟩ := List.mem_iff_getElem?.1 hv
    obtain ⟨u, r1, r2, _⟩ := p7 q v hq
    have hu := h.flat i b p2 (p5 hf) u (List.mem_of_getElem? r1)
    rw [r2 hu]; exact hu
  · intro j b2 hb2
    obtain ⟨i, b, p1, p2, p3, p4, p5, p6, p7, _⟩ := place j b2 hb2
    rcases h.tot i b p2 with ⟨L, hL⟩ | hq
    · exact .inl ⟨L, by rw [p1]; exact hL⟩
    · refine .inr fun v hv => ?_
      obtain ⟨q, hq2⟩ := List.mem_iff_getElem?.1 hv
      obtain ⟨u, r1, r2, _⟩ := p7 q v hq2
      have hu := hq u (List.mem_of_getElem? r1)
      rw [r2 hu]; exact hu
theorem cut_ext (ι : Ren) (B : Nat) (ks : List Nat) : Ext B ι (cutR ι B ks) := fun id hi => cutR_lt ι B ks hi
theorem cut_oc (H0 : Heap) (bs ys : List (Option Blk)) : OCs H0.length (H0 ++ bs) (H0 ++ ys) := fun B' hB ho j b v hj hb hv => by
  rw [List.getElem?_append_left (by omega)] at hb
  exact ho j b v hj (by rw [List.getElem?_append_left (by omega)]; exact hb) hv

/-- Variables that are kept, too. -/
def TRn (B : Nat) (ks : List Nat) (t t2 : List Value) : Prop := t.length = t2.length ∧ ∀ (i : Nat) (v v2 : Value), t[i]? = some v → t2[i]? = some v2 → v2 = dead ∨ (isDead v = false ∧ Rn B ks v v2)
/-- The heap is cut in the middle of a walk. -/
theorem Ex_cut {c : Code} {H0 : Heap} {bs ys : List (Option Blk)} {t2 : List Value} (ks : List Nat) (hd : ks.Nodup) (hk : RnBs H0.length ks bs ks ys) (ht : TRn H0.length ks t t2) (h : Ex P H0.length c t2 (H0 ++ ys) Q) : Ex P H0.length c t (H0 ++ bs) Q :=
  fun w0 ι w a h1 h2 h3 h4 h5 => by
    have hc := h1.cut h5 hd hk
    refine wp_mono (h w0 _ w a hc ⟨ht.1.symm.trans h2.1, fun i v2 v' e1 e2 => ?_⟩ h3 (by simp) (cut_oc H0 bs ys _ (Nat.le_refl _) h5)) fun e a w => Post.mono (cut_ext ι _ ks) (cut_oc H0 bs ys) (fun _ _ _ q => q)
    have hi : i < t.length := by rw [ht.1]; exact (List.getElem?_eq_some_iff.1 e1).1
    rcases ht.2 i t[i] v2 (by simp [hi]) e1 with hq | ⟨hl, hq⟩
    · exact .inl hq
    · exact .inr (hq.run v' ((h2.2 i t[i] v' (by simp [hi]) e2).live hl))
end
end Go.Proofs.Ytbmejhabgoimeaa.Eng
set_option linter.unusedVariables false
set_option linter.unusedSimpArgs false
namespace Go.Proofs.Ytbmejhabgoimeaa.Eng
open Go Go.RowKit

/-! ### functions -/
def liveAt (t : List Value) (i : Nat) : Option Value := match t[i]? with | some v => if isDead v = true then none else some v | none => none
def resA (T : Ty) (t : List Value) (H : Heap) : List ResultVar → Option (List Value)
  | [] => some []
  | .tmp i :: r => match liveAt t i, resA T t H r with | some v, some l => some (v :: l) | _, _ => none
  | .cell i ty :: r => match liveAt t i, resA T t H r with
    | some p, some l => match loadVarA T ty p H with | some v => some (v :: l) | none => none
    | _, _ => none
def packR : List Value → Value | [v] => v | vs => .tuple ⟨vs⟩

def resM (tm : Array Value) : ResultVar → Sem Value
  | .tmp t => pure (tm.getD t undef)
  | .cell a t => do loadVar t (← asAddr (tm.getD a undef))
theorem results_eq (fn : Func) (tm : Array Value) : results fn tm = (do let vs ← fn.results.mapM (resM tm); pure (if h : vs.size = 1 then vs[0] else .tuple vs)) := by
  unfold results
  congr 1
section
variable {P : Program} {T : Ty} {B : Nat} {t : List Value} {H : Heap} {Q : AQ}

theorem liveAt_rel {ι : Ren} {tm : Array Value} (hs : TS ι t tm) {i : Nat} {v : Value} (h : liveAt t i = some v) : VRel ι v (tm.getD i undef) := by
  unfold liveAt at h
  split at h
  · rename_i u hu
    split at h
    · simp at h
    · rename_i hd
      obtain rfl := Option.some.inj h
      have h1 : i < t.length := (List.getElem?_eq_some_iff.1 hu).1
      have h2 : i < tm.size := by rw [← hs.1]; exact h1
      have := (hs.2 i _ tm[i] hu (by simp [h2])).live (by simpa using hd)
      simpa [Array.getD_eq_getD_getElem?, h2] using this
  · simp at h

theorem resA_run (hT : TyOk P T) {w0 w : World} {ι : Ren} {tm : Array Value} (hH : HRel w0 ι H w) (hs : TS ι t tm) : ∀ (rs : List ResultVar) (vs : List Value), resA T t H rs = some vs →
    ∃ vs', (rs.mapM (resM tm)).run P w = .ok vs' w ∧ LRel ι vs vs'
  | [], vs, h => by simp [resA] at h; subst h; exact ⟨[], by simp, .nil ι⟩
  | .tmp i :: rs, vs, h => by
    simp only [resA] at h
    split at h
    · rename_i v l hv hl
      obtain rfl := Option.some.inj h
      obtain ⟨vs', g1, g2⟩ := resA_run hT hH hs rs l hl
      exact ⟨tm.getD i undef :: vs', by rw [List.mapM_cons]; simp [resM, g1], .cons (liveAt_rel hs hv) g2⟩
    · simp at h
  | .cell i ty :: rs, vs, h => by
    simp only [resA] at h
    split at h
    · rename_i p l hp hl
      split at h
      · rename_i v hv
        obtain rfl := Option.some.inj h
        obtain ⟨vs', g1, g2⟩ := resA_run hT hH hs rs l hl
        have hr := liveAt_rel hs hp
        obtain ⟨v', k1, k2⟩ := loadVarA_run (P := P) hT hH hr hv
        refine ⟨v' :: vs', ?_, .cons k2 g2⟩
        have hload : (resM tm (.cell i ty)).run P w = .ok v' w := by
          simp only [resM]
          unfold loadVarA at hv
          split at hv
          · generalize tm.getD i undef = u at hr k1
            cases hr with
            | ptr b o L hL => simpa [Instr.loadAt, Instr.sureAddr, asAddr] using k1
          · simp at hv
        rw [List.mapM_cons, Sem.run_bind, hload]
        simp [g1]
      · simp at h
    · simp at h

/-- The heap that a caller gets. -/
def RetX (B : Nat) (v : Value) (H : Heap) (R : Value → Heap → Prop) : Prop :=
  ∃ (H0 : Heap) (bs ys : List (Option Blk)) (ks : List Nat) (v2 : Value), H = H0 ++ bs ∧ H0.length = B ∧ ks.Nodup ∧ RnBs H0.length ks bs ks ys ∧ Rn H0.length ks v v2 ∧ R v2 (H0 ++ ys)

theorem TS.start {ι : Ren} {args args' : List Value} (h : LRel ι args args') (n : Nat) : TS ι (args ++ List.replicate (n - args.length) undef) (⟨args'⟩ ++ Array.replicate (n - args'.length) undef) := by
  have hl := h.append (LRel.replicate (undef_rel ι) (n - args.length))
  refine ⟨by simp [h.1], fun i v v' h1 h2 => .inr (hl.2 i v v' h1 ?_)⟩
  rw [← Array.getElem?_toList] at h2
  simpa [h.1] using h2

theorem Runs_of_Ex (hT : TyOk P T) {f : FuncId} {fn : Func} {c : Code} {args : List Value} {R : Value → Heap → Prop} (hf : P.funcs[f]? = some fn) (hb : fn.body = some c) (hn : (fn.name == "runtime.NumGoroutine") = false)
    (h : Ex P H.length c (args ++ List.replicate (fn.ntmps - args.length) undef) H (fun e t' H' => (e = .normal ∨ e = .ret) ∧ ∃ vs, resA T t' H' fn.results.toList = some vs ∧ RetX H.length (packR vs) H' R)) : Runs P f args H R := by
  refine ⟨⟨fn, hf, hn, by simp [hb]⟩, fun w0 ι w args' h1 h2 => ?_⟩
  refine calls_of_wp hf hb ?_
  refine wp_mono (h w0 ι w _ h1 (by simpa using TS.start h2 fn.ntmps) rfl (Nat.le_refl _) h1.oc) ?_
  rintro e a w' ⟨t', H', ι', ⟨he, vs, hvs, H0, bs, ys, ks, v2, rfl, hB, hd, hk, hv2, hR⟩, k1, k2, k3, k4, k5, k6⟩
  obtain ⟨vs', g1, g2⟩ := resA_run hT k1 k2 _ _ hvs
  have hres : (results fn a.tmps).run P w' = .ok (packR vs') w' := by
    rw [results_eq, Sem.run_bind, Array.mapM_eq_mapM_toList]
    have : (List.toArray <$> List.mapM (resM a.tmps) fn.results.toList : Sem (Array Value)).run P w' = .ok vs'.toArray w' := by
      rw [map_eq_pure_bind, Sem.run_bind, g1]; rfl
    rw [this]
    simp only [Result.andThen_ok]
    match vs' with
    | [] => rfl
    | [v] => rfl
    | v :: u :: r => rfl
  have hpack : VRel ι' (packR vs) (packR vs') := by
    match vs, vs', g2 with
    | [], vs', g2 => have : vs' = [] := List.eq_nil_of_length_eq_zero (by have := g2.1; simpa using this.symm); subst this; exact .tuple _ _ rfl (fun i v v' h => by simp at h)
    | [v], vs', g2 =>
      obtain ⟨v', r, rfl, hv, hr⟩ := g2.inv_cons
      have : r = [] := List.eq_nil_of_length_eq_zero (by have := hr.1; simpa using this.symm)
      subst this; exact hv
    | v :: u :: r, vs', g2 =>
      obtain ⟨v', r', rfl, hv, hr⟩ := g2.inv_cons
      obtain ⟨u', r'', rfl, hu, hr'⟩ := hr.inv_cons
      exact .tuple _ _ g2.1 g2.2
  have hoc : OC H0.length (H0 ++ bs) := by rw [hB]; exact k5 _ (Nat.le_refl _) h1.oc
  have fin : a.defers = [] ∧ ∃ v, (results fn a.tmps).run P w' = .ok v w' ∧ ∃ (u v' : Value) (H' : Heap) (ι' : Ren), (Ending.returned v) = .returned v' ∧ R u H' ∧ VRel ι' u v' ∧ HRel w0 ι' H' w' ∧ Ext H.length ι ι' ∧ OCs H.length H H' ∧ H.length ≤ H'.length := by
    refine ⟨k3, packR vs', hres, v2, packR vs', H0 ++ ys, cutR ι' H0.length ks, rfl, hR, hv2.run _ hpack, k1.cut hoc hd hk, ?_, ?_, by simp [hB]⟩
    · rw [← hB] at k4 ⊢; exact k4.trans (cut_ext ι' _ ks) (Nat.le_refl _)
    · rw [← hB] at k5 ⊢; exact k5.trans (cut_oc H0 bs ys)
  rcases he with rfl | rfl <;> exact fin

/-! ### what is met in a walk -/
theorem getB_old {H0 : Heap} {bs : List (Option Blk)} {i : Nat} {b : Blk} (h : getB H0 i = some b) : getB (H0 ++ bs) i = some b := by
  have := getB_lt h
  rw [getB_eq] at h ⊢
  rw [List.getElem?_append_left this]; exact h
theorem getB_new (H0 : Heap) (bs : List (Option Blk)) (k : Nat) : getB (H0 ++ bs) (H0.length + k) = getB bs k := by
  unfold getB
  rw [List.getElem?_append_right (by omega)]
  simp
theorem getB_new0 (H0 : Heap) (bs : List (Option Blk)) : getB (H0 ++ bs) H0.length = getB bs 0 := getB_new H0 bs 0
theorem set_new (H0 : Heap) (bs : List (Option Blk)) (k : Nat) (x : Option Blk) : (H0 ++ bs).set (H0.length + k) x = H0 ++ bs.set k x := by
  rw [List.set_append_right _ _ (by omega)]; simp
theorem set_new0 (H0 : Heap) (bs : List (Option Blk)) (x : Option Blk) : (H0 ++ bs).set H0.length x = H0 ++ bs.set 0 x := set_new H0 bs 0 x
theorem RetX.same {v : Value} {R : Value → Heap → Prop} (h : R v H) (hv : Lt H.length v) : RetX H.length v H R := ⟨H, [], [], [], v, by simp, rfl, .nil, trivial, .lt v hv, by simpa using h⟩
theorem RetX.drop {H0 : Heap} {bs : List (Option Blk)} {v : Value} {R : Value → Heap → Prop} (h : R v H0) (hv : Lt H0.length v) : RetX H0.length v (H0 ++ bs) R := ⟨H0, bs, [], [], v, rfl, rfl, .nil, trivial, .lt v hv, by simpa using h⟩
theorem Lt.tuple {vs : List Value} (h : ∀ v ∈ vs, Lt B v) : Lt B (.tuple ⟨vs⟩) := fun ι ι' v' hE r => by
  cases r with | tuple _ ys hl hr => exact .tuple _ _ hl fun i v v' h1 h2 => h v (List.mem_of_getElem? h1) ι ι' v' hE (hr i v v' h1 h2)
theorem Lt.agg {vs : List Value} (h : ∀ v ∈ vs, Lt B v) : Lt B (.agg ⟨vs⟩) := fun ι ι' v' hE r => by
  cases r with | agg _ ys hl hr => exact .agg _ _ hl fun i v v' h1 h2 => h v (List.mem_of_getElem? h1) ι ι' v' hE (hr i v v' h1 h2)
end
end Go.Proofs.Ytbmejhabgoimeaa.Eng
set_option linter.unusedVariables false
set_option linter.unusedSimpArgs false
namespace Go.Proofs.Ytbmejhabgoimeaa.Eng
open Go Go.RowKit

/-! ### a program's types -/
def flT (P : Program) : Nat → TypeId → Bool
  | 0, _ => false
  | n + 1, t => match P.underlying t with
    | some (.int _) | some .bool | some .string => true
    | some (.struct fs) => fs.toList.all fun f => flT P n f.type
    | some (.array _ e) => flT P n e
    | _ => false
def tyOf (P : Program) (t : TypeId) : Option TyD :=
  match P.info? t, P.underlying t with
  | some i, some u => match i.zero with
    | some z => if z.cells.toList.length = i.size ∧ z.cells.toList.all flatV = true then some ⟨u, i.size, i.bytes, z.cells.toList, flT P 9 t⟩ else none
    | none => none
  | _, _ => none
theorem tyOf_ok (P : Program) : TyOk P (tyOf P) := fun t d h => by
  unfold tyOf at h
  split at h
  · rename_i i u hi hu
    split at h
    · rename_i z hz
      split at h
      · rename_i hc
        obtain rfl := Option.some.inj h
        exact ⟨hu, ⟨i, z, hi, rfl, rfl, hz, rfl⟩, hc.1, hc.2⟩
      · simp at h
    · simp at h
  · simp at h
/-- Structs that may be compared. -/
def eqOf (P : Program) (t : Nat) : Bool := !P.stoodInHeld t && !P.eqGuardType P.depth t
theorem eqOf_ok (P : Program) : EqOk P (eqOf P) := fun t ht => by
  simpa [eqOf] using ht

section
variable {P : Program} {B : Nat} {t : List Value} {H : Heap} {Q : AQ}
theorem op_step {o : Oper} {K : Value → Heap → Prop} {v : Value} {H' : Heap} (h : opA (tyOf P) (eqOf P) B t H o = some (v, H')) (hk : K v H') : OpX P B o t H K :=
  OpX_op (tyOf_ok P) (eqOf_ok P) h hk
theorem reg_nil {ops : Array Oper} {K : List Value → Heap → Prop} (h : K t H) : RegX P B ops [] t H K := h
theorem reg_plain {ops : Array Oper} {d : Option Tmp} {op : Op} {ty : TypeId} {ps : String} {af : Array Edge} {r : List Oper} {K : List Value → Heap → Prop}
    (h : OpX P B ⟨d, op, ty, ps, af, none⟩ t H (fun v H' => RegX P B ops r (putT t d v) H' K)) : RegX P B ops (⟨d, op, ty, ps, af, none⟩ :: r) t H K := ⟨true, rfl, h⟩
theorem reg_guard {ops : Array Oper} {o : Oper} {r : List Oper} {K : List Value → Heap → Prop} {q : Bool} (hw : wantedA ops o t = some q)
    (h1 : q = true → OpX P B o t H (fun v H' => RegX P B ops r (putT t o.dst v) H' K)) (h2 : q = false → RegX P B ops r (putT t o.dst undef) H K) : RegX P B ops (o :: r) t H K :=
  ⟨q, hw, by cases q <;> simp_all⟩
theorem fun_ok {f : FuncId} {fn : Func} {c : Code} {args : List Value} {R : Value → Heap → Prop} (hf : P.funcs[f]? = some fn) (hb : fn.body = some c) (hn : (fn.name == "runtime.NumGoroutine") = false)
    (h : Ex P H.length c (args ++ List.replicate (fn.ntmps - args.length) undef) H (fun e t' H' => (e = .normal ∨ e = .ret) ∧ ∃ vs, resA (tyOf P) t' H' fn.results.toList = some vs ∧ RetX H.length (packR vs) H' R)) : Runs P f args H R :=
  Runs_of_Ex (tyOf_ok P) hf hb hn h
end
end Go.Proofs.Ytbmejhabgoimeaa.Eng
