/- A text of this claim (E12): lemmas for the proof, no conditions of their own. -/
import Derived.Test.YtabmmdfhhpajgaaE11
set_option linter.unusedVariables false
set_option linter.unusedSimpArgs false
namespace Go.Proofs.Ytabmmdfhhpajgaa.Eng
open Go Go.RowKit

/-! ### regions in the order of the text -/
def boolOf : Value → Option Bool | .bool b => some b | _ => none
def wantedA (ops : Array Oper) (o : Oper) (t : List Value) : Option Bool :=
  match o.guard with
  | none => some true
  | some (j, want) => match ((ops[j]?).bind (·.dst)).bind (t[·]?) with
    | some v => if isDead v = true then none else some (boolOf v == some want)
    | none => none
def putT (t : List Value) (d : Option Tmp) (v : Value) : List Value := match d with | some i => t.set i v | none => t
def RegX (P : Program) (B : Nat) (ops : Array Oper) : List Oper → List Value → Heap → (List Value → Heap → Prop) → Prop
  | [], t, H, K => K t H
  | o :: r, t, H, K => ∃ q, wantedA ops o t = some q ∧ (if q = true then OpX P B o t H (fun v H' => RegX P B ops r (putT t o.dst v) H' K) else RegX P B ops r (putT t o.dst undef) H K)

section
variable {P : Program} {B : Nat} {t : List Value} {H : Heap} {Q : AQ}

theorem wantedA_run {ι : Ren} {ops : Array Oper} {o : Oper} {a : Act} {q : Bool} (hs : TS ι t a.tmps) (h : wantedA ops o t = some q) : Region.wanted o (yielded ops a.tmps) = q := by
  unfold wantedA at h
  unfold Region.wanted
  split at h
  · rename_i hg; rw [hg]; exact Option.some.inj h
  · rename_i j want hg
    rw [hg]
    simp only
    split at h
    · rename_i v hv
      split at h
      · simp at h
      · rename_i hd
        have hd' : isDead v = false := by simpa using hd
        obtain rfl := Option.some.inj h
        unfold yielded
        cases hb : (ops[j]?).bind (·.dst) with
        | none => simp [hb] at hv
        | some d =>
          simp only [hb, Option.bind_some] at hv ⊢
          have hlt : d < t.length := (List.getElem?_eq_some_iff.1 hv).1
          have hlt' : d < a.tmps.size := Nat.lt_of_lt_of_eq hlt hs.1
          have hr := (hs.2 d v a.tmps[d] hv (by simp [hlt'])).live hd'
          rw [Array.getElem?_eq_getElem hlt']
          generalize a.tmps[d] = u at hr
          cases hr <;> rfl
    · simp at h
theorem TS.putT {ι : Ren} {a : Act} (h : TS ι t a.tmps) (d : Option Tmp) {v v' : Value} (hv : TRel ι v v') : TS ι (putT t d v) (a.put d v').tmps := h.put d hv
theorem undef_rel (ι : Ren) : VRel ι undef undef := .tuple _ _ rfl (fun i v v' h => by simp at h)
theorem TS.ext {w0 : World} {ι ι' : Ren} {w : World} {tm : Array Value} (hH : HRel w0 ι H w) (hE : Ext H.length ι ι') (h : TS ι t tm) : TS ι' t tm := h.mono (hH.ext hE)

theorem regX_run {w0 : World} {ops : Array Oper} {ι0 : Ren} {H0 : Heap} : ∀ (n k : Nat) (t : List Value) (H : Heap) (ι : Ren) (w : World) (a : Act), k + n = ops.size → RegX P B ops (ops.toList.drop k) t H (fun t H => Q .normal t H) →
    HRel w0 ι H w → TS ι t a.tmps → a.defers = [] → B ≤ H.length → OC B H → Ext B ι0 ι → OCs B H0 H → wpOps P ops (Post w0 ι0 B H0 Q) (List.range' k n) a w
  | 0, k, t, H, ι, w, a, hk, h, h1, h2, h3, h4, h5, h6, h7 => by
    rw [List.drop_eq_nil_of_le (by simp; omega)] at h
    exact ⟨t, H, ι, h, h1, h2, h3, h6, h7, h4⟩
  | n + 1, k, t, H, ι, w, a, hk, h, h1, h2, h3, h4, h5, h6, h7 => by
    have hlt : k < ops.size := by omega
    rw [List.drop_eq_getElem_cons (by simpa using hlt)] at h
    obtain ⟨q, hq, h⟩ := h
    rw [List.range'_succ, wpOps_cons]
    unfold wpOp
    have ho : ops[k]? = some ops.toList[k] := by simp [hlt]
    rw [ho]
    simp only
    rw [wantedA_run h2 hq]
    cases q with
    | true =>
      simp only [if_true] at h ⊢
      refine .inl (Oper.wp_mono ?_ (h w0 ι w a _ h1 h2 h4))
      rintro a' w' ⟨v, v', H', ι', rfl, a2, a3, a4, a5, a6, a7⟩
      have hE : Ext B ι ι' := a5.mono h4
      exact regX_run n (k + 1) _ H' ι' w' _ (by omega) a2 a4 ((h2.ext h1 a5).putT _ a3) (by cases hd : ops.toList[k].dst <;> simp [Act.put, h3]) (by omega) (a6 B (Nat.le_refl _) h5) (h6.trans hE (Nat.le_refl _)) (h7.trans a6)
    | false =>
      simp only [Bool.false_eq_true, if_false] at h ⊢
      exact regX_run n (k + 1) _ H ι w _ (by omega) h h1 (h2.putT _ (.inr (undef_rel ι))) (by cases hd : ops.toList[k].dst <;> simp [Act.put, h3]) h4 h5 h6 h7

theorem Ex_region {id : Nat} {ops : Array Oper} (h : RegX P B ops ops.toList t H (fun t H => Q .normal t H)) : Ex P B (.region id ops false) t H Q := fun w0 ι w a h1 h2 h3 h4 h5 => by
  refine wp_region ?_
  rw [List.range_eq_range']
  exact regX_run ops.size 0 t H ι w a (by omega) (by simpa using h) h1 h2 h3 h4 h5 (.refl _ _) (.refl _ _)

/-! ### what is kept of the heap -/
inductive Rn (B : Nat) (ks : List Nat) : Value → Value → Prop
  | lt (v : Value) (h : Lt B v) : Rn B ks v v
  | ptr (b b2 i k o : Nat) (hk : ks[i]? = some k) (hb : b = B + k) (hb2 : b2 = B + i) : Rn B ks (.pointer (some ⟨b, o, none⟩)) (.pointer (some ⟨b2, o, none⟩))
  | sl (b b2 i k o n c : Nat) (hk : ks[i]? = some k) (hb : b = B + k) (hb2 : b2 = B + i) : Rn B ks (.slice (some ⟨b, o, none⟩) n c) (.slice (some ⟨b2, o, none⟩) n c)
  | agg (xs ys : List Value) (hl : xs.length = ys.length) (h : ∀ (i : Nat) (v v' : Value), xs[i]? = some v → ys[i]? = some v' → Rn B ks v v') : Rn B ks (.agg ⟨xs⟩) (.agg ⟨ys⟩)
  | tuple (xs ys : List Value) (hl : xs.length = ys.length) (h : ∀ (i : Nat) (v v' : Value), xs[i]? = some v → ys[i]? = some v' → Rn B ks v v') : Rn B ks (.tuple ⟨xs⟩) (.tuple ⟨ys⟩)
  | func (f : FuncId) (xs ys : List Value) (hl : xs.length = ys.length) (h : ∀ (i : Nat) (v v' : Value), xs[i]? = some v → ys[i]? = some v' → Rn B ks v v') : Rn B ks (.func (.func f) #[] ⟨xs⟩) (.func (.func f) #[] ⟨ys⟩)
/-- The renaming after a cut. -/
def cutR (ι : Ren) (B : Nat) (ks : List Nat) : Ren := fun j => if j < B then ι j else match ks[j - B]? with | some k => ι (B + k) | none => none
theorem cutR_lt (ι : Ren) (B : Nat) (ks : List Nat) {j : Nat} (h : j < B) : cutR ι B ks j = ι j := by simp [cutR, h]
theorem cutR_new (ι : Ren) (B : Nat) {ks : List Nat} {i k : Nat} (h : ks[i]? = some k) : cutR ι B ks (B + i) = ι (B + k) := by
  have : ¬ B + i < B := by omega
  simp [cutR, h, this]
theorem Rn.run {ι : Ren} {ks : List Nat} {v v2 : Value} (h : Rn B ks v v2) : ∀ v', VRel ι v v' → VRel (cutR ι B ks) v2 v' := by
  induction h with
  | lt v h => intro v' r; exact h ι _ v' (fun id hi => cutR_lt ι B ks hi) r
  | ptr b b2 i k o hk hb hb2 =>
    intro v' r; subst hb; subst hb2
    cases r with | ptr _ _ L hL => exact .ptr _ _ L (by rw [cutR_new ι B hk]; exact hL)
  | sl b b2 i k o n c hk hb hb2 =>
    intro v' r; subst hb; subst hb2
    cases r with | sl _ _ _ _ L a' c' hL h2 h3 h4 h5 h6 => exact .sl _ _ _ _ L a' c' (by rw [cutR_new ι B hk]; exact hL) h2 h3 h4 h5 h6
  | agg xs ys hl h ih =>
    intro v' r
    cases r with | agg _ zs hl2 h2 =>
      refine .agg _ _ (hl.symm.trans hl2) fun i v v' hv hv' => ?_
      have hi : i < xs.length := by rw [hl]; exact (List.getElem?_eq_some_iff.1 hv).1
      exact ih i xs[i] v (by simp [hi]) hv v' (h2 i xs[i] v' (by simp [hi]) hv')
  | tuple xs ys hl h ih =>
    intro v' r
    cases r with | tuple _ zs hl2 h2 =>
      refine .tuple _ _ (hl.symm.trans hl2) fun i v v' hv hv' => ?_
      have hi : i < xs.length := by rw [hl]; exact (List.getElem?_eq_some_iff.1 hv).1
      exact ih i xs[i] v (by simp [hi]) hv v' (h2 i xs[i] v' (by simp [hi]) hv')
  | func f xs ys hl h ih =>
    intro v' r
    cases r with | func _ _ zs hl2 h2 =>
      refine .func f _ _ (hl.symm.trans hl2) fun i v v' hv hv' => ?_
      have hi : i < xs.length := by rw [hl]; exact (List.getElem?_eq_some_iff.1 hv).1
      exact ih i xs[i] v (by simp [hi]) hv v' (h2 i xs[i] v' (by simp [hi]) hv')

def LRn (B : Nat) (ks : List Nat) (xs ys : List Value) : Prop := xs.length = ys.length ∧ ∀ (i : Nat) (v v' : Value), xs[i]? = some v → ys[i]? = some v' → Rn B ks v v'
/-- Rows that are kept. -/
def RnB (B : Nat) (ks : List Nat) (x : Option (Option Blk)) (y : Option Blk) : Prop :=
  match y with
  | none => True
  | some b2 => ∃ b, x = some (some b) ∧ b2.sz = b.sz ∧ b2.wr = b.wr ∧ (b2.fl = true → b.fl = true) ∧ ((b.fl = true ∧ b2.cells = b.cells) ∨ LRn B ks b.cells b2.cells)
def RnBs (B : Nat) (ks : List Nat) (bs : List (Option Blk)) : List Nat → List (Option Blk) → Prop
  | [], [] => True
  | k :: r, y :: ys => RnB B ks bs[k]? y ∧ RnBs B ks bs r ys
  | _, _ => False
theorem RnBs.at {ks : List Nat} {bs : List (Option Blk)} : ∀ {r : List Nat} {ys : List (Option Blk)}, RnBs B ks bs r ys → r.length = ys.length ∧ ∀ (i : Nat) (y : Option Blk), ys[i]? = some y → ∃ k, r[i]? = some k ∧ RnB B ks bs[k]? y
  | [], [], _ => ⟨rfl, fun i y h => by simp at h⟩
  | k :: r, y :: ys, h => by
    obtain ⟨e1, e2⟩ := RnBs.at h.2
    refine ⟨by simp [e1], fun i z hz => ?_⟩
    cases i with
    | zero => simp at hz; subst hz; exact ⟨k, by simp, h.1⟩
    | succ i => simpa using e2 i z (by simpa using hz)
  | [], _ :: _, h => h.elim
  | _ :: _, [], h => h.elim

/-- Cutting the heap. -/
theorem HRel.cut {w0 w : World} {ι : Ren} {H0 : Heap} {bs ys : List (Option Blk)} {ks : List Nat} (h : HRel w0 ι (H0 ++ bs) w) (ho : OC H0.length (H0 ++ bs)) (hd : ks.Nodup) (hk : RnBs H0.length ks bs ks ys) :
    HRel w0 (cutR ι H0.length ks) (H0 ++ ys) w := by
  obtain ⟨hlen, hat⟩ := hk.at
  -- what stands at a place of the new heap
  have place : ∀ (j : Nat) (b2 : Blk), (H0 ++ ys)[j]? = some (some b2) → ∃ (i : Nat) (b : Blk), cutR ι H0.length ks j = ι i ∧ (H0 ++ bs)[i]? = some (some b) ∧ b2.sz = b.sz ∧ b2.wr = b.wr ∧ (b2.fl = true → b.fl = true) ∧ b2.cells.length = b.cells.length ∧
      (∀ (q : Nat) (v2 : Value), b2.cells[q]? = some v2 → ∃ v, b.cells[q]? = some v ∧ (flatV v = true → v2 = v) ∧ ∀ v', VRel ι v v' → VRel (cutR ι H0.length ks) v2 v') ∧ (j < H0.length → i = j) ∧ (H0.length ≤ j → ∃ k, ks[j - H0.length]? = some k ∧ i = H0.length + k) := by
    intro j b2 hj
    by_cases hlt : j < H0.length
    · rw [List.getElem?_append_left hlt] at hj
      refine ⟨j, b2, cutR_lt _ _ _ hlt, by rw [List.getElem?_append_left hlt]; exact hj, rfl, rfl, id, rfl, fun q v2 hv => ⟨v2, hv, fun _ => rfl, fun v' hr => ?_⟩, fun _ => rfl, fun hge => by omega⟩
      have := ho j b2 v2 hlt (by rw [List.getElem?_append_left hlt]; exact hj) (List.mem_of_getElem? hv)
      exact this ι _ v' (fun id hi => cutR_lt _ _ _ hi) hr
    · have hge : H0.length ≤ j := by omega
      rw [List.getElem?_append_right hge] at hj
      obtain ⟨k, hk1, b, hb, e1, e2, e3, e4⟩ := hat _ _ hj
      have hj2 : j = H0.length + (j - H0.length) := by omega
      refine ⟨H0.length + k, b, by rw [hj2, cutR_new _ _ (by simpa using hk1)], by rw [List.getElem?_append_right (by omega)]; simpa using hb, e1, e2, e3, ?_, ?_, fun hh => by omega, fun _ => ⟨k, hk1, rfl⟩⟩
      · rcases e4 with ⟨_, e4⟩ | e4
        · rw [e4]
        · exact e4.1.symm
      · intro q v2 hv
        rcases e4 with ⟨hf, e4⟩ | e4
        · rw [e4] at hv
          have hfl := h.flat (H0.length + k) b (by rw [List.getElem?_append_right (by omega)]; simpa using hb) hf v2 (List.mem_of_getElem? hv)
          exact ⟨v2, hv, fun _ => rfl, fun v' hr => by have := hr.flat_eq hfl; subst this; exact .flat hfl⟩
        · have hq : q < b.cells.length := by rw [e4.1]; exact (List.getElem?_eq_some_iff.1 hv).1
          have hrn := e4.2 q b.cells[q] v2 (by simp [hq]) hv
          refine ⟨b.cells[q], by simp [hq], fun hf => ?_, fun v' hr => hrn.run v' hr⟩
          revert hf hrn; generalize b.cells[q] = u; intro hrn hf
          cases hrn <;> first | rfl | simp [flatV] at hf
  refine ⟨h.below, ?_, ?_, ?_, ?_, ?_⟩
  · intro j L hj
    simp only [cutR] at hj
    split at hj
    · simp; omega
    · split at hj
      · rename_i k hk2
        have := (List.getElem?_eq_some_iff.1 hk2).1
        simp; omega
      · simp at hj
  · intro j L b2 hj hb2
    obtain ⟨i, b, p1, p2, p3, p4, p5, p6, p7, _⟩ := place j b2 hb2
    rw [p1] at hj
    obtain ⟨c, e, fr, q1, q2, q3, q4, q5, q6⟩ := h.blk i L b hj p2
    refine ⟨c, e, fr, q1, q2, by rw [p6]; exact q3, by rw [q4, p3], ?_, by rw [p4]; exact q6⟩
    intro q v2 hv
    obtain ⟨v, r1, _, r2⟩ := p7 q v2 hv
    obtain ⟨v', r3, r4⟩ := q5 q v r1
    exact ⟨v', r3, r2 v' r4⟩
  · intro i j L M b b2 hi hj hne hbi hw hbj
    obtain ⟨i1, b1, p1, p2, _, p4, _, _, _, p8, p9⟩ := place i b hbi
    obtain ⟨j1, b3, r1, r2, _, r4, _, _, _, r8, r9⟩ := place j b2 hbj
    rw [p1] at hi; rw [r1] at hj
    refine h.sep i1 j1 L M b1 b3 hi hj ?_ p2 (by rw [← p4]; exact hw) r2
    intro he
    by_cases ci : i < H0.length
    · by_cases cj : j < H0.length
      · exact hne (by rw [← p8 ci, ← r8 cj]; exact he)
      · obtain ⟨k, _, rk⟩ := r9 (by omega); have := p8 ci; omega
    · by_cases cj : j < H0.length
      · obtain ⟨k, _, rk⟩ := p9 (by omega); have := r8 cj; omega
      · obtain ⟨k, k1, k2⟩ := p9 (by omega)
        obtain ⟨l, l1, l2⟩ := r9 (by omega)
        have hkl : k = l := by omega
        subst hkl
        obtain ⟨z1, z2⟩ := List.getElem?_eq_some_iff.1 k1
        obtain ⟨z3, z4⟩ := List.getElem?_eq_some_iff.1 l1
        have hp := List.pairwise_iff_getElem.1 hd
        rcases Nat.lt_trichotomy (i - H0.length) (j - H0.length) with q | q | q
        · exact hp _ _ z1 z3 q (z2.trans z4.symm)
        · exact hne (by rw [← Nat.sub_add_cancel (Nat.le_of_not_lt ci), q, Nat.sub_add_cancel (Nat.le_of_not_lt cj)])
        · exact hp _ _ z3 z1 q (z4.trans z2.symm)
  · intro j b2 hb2 hf v hv
    obtain ⟨i, b, p1, p2, p3, p4, p5, p6, p7, _⟩ := place j b2 hb2
    obtain ⟨q, hq⟩ := List.mem_iff_getElem?.1 hv
    obtain ⟨u, r1, r2, _⟩ := p7 q v hq
    have hu := h.flat i b p2 (p5 hf) u (List.mem_of_getElem? r1)
    rw [r2 hu]; exact hu
  · intro j b2 hb2
    obtain ⟨i, b, p1, p2, p3, p4, p5, p6, p7, _⟩ := place j b2 hb2
    rcases h.tot i b p2 with ⟨L, hL⟩ | hq
    · exact .inl ⟨L, by rw [p1]; exact hL⟩
    · refine .inr fun v hv => ?_
      obtain ⟨q, hq2⟩ := List.mem_iff_getElem?.1 hv
      obtain ⟨u, r1, r2, _⟩ := p7 q v hq2
      have hu := hq u (List.mem_of_getElem? r1)
      rw [r2 hu]; exact hu
theorem cut_ext (ι : Ren) (B : Nat) (ks : List Nat) : Ext B ι (cutR ι B ks) := fun id hi => cutR_lt ι B ks hi
theorem cut_oc (H0 : Heap) (bs ys : List (Option Blk)) : OCs H0.length (H0 ++ bs) (H0 ++ ys) := fun B' hB ho j b v hj hb hv => by
  rw [List.getElem?_append_left (by omega)] at hb
  exact ho j b v hj (by rw [List.getElem?_append_left (by omega)]; exact hb) hv

/-- Variables that are kept, too. -/
def TRn (B : Nat) (ks : List Nat) (t t2 : List Value) : Prop := t.length = t2.length ∧ ∀ (i : Nat) (v v2 : Value), t[i]? = some v → t2[i]? = some v2 → v2 = dead ∨ (isDead v = false ∧ Rn B ks v v2)
/-- The heap is cut in the middle of a walk. -/
theorem Ex_cut {c : Code} {H0 : Heap} {bs ys : List (Option Blk)} {t2 : List Value} (ks : List Nat) (hd : ks.Nodup) (hk : RnBs H0.length ks bs ks ys) (ht : TRn H0.length ks t t2) (h : Ex P H0.length c t2 (H0 ++ ys) Q) : Ex P H0.length c t (H0 ++ bs) Q :=
  fun w0 ι w a h1 h2 h3 h4 h5 => by
    have hc := h1.cut h5 hd hk
    refine wp_mono (h w0 _ w a hc ⟨ht.1.symm.trans h2.1, fun i v2 v' e1 e2 => ?_⟩ h3 (by simp) (cut_oc H0 bs ys _ (Nat.le_refl _) h5)) fun e a w => Post.mono (cut_ext ι _ ks) (cut_oc H0 bs ys) (fun _ _ _ q => q)
    have hi : i < t.length := by rw [ht.1]; exact (List.getElem?_eq_some_iff.1 e1).1
    rcases ht.2 i t[i] v2 (by simp [hi]) e1 with hq | ⟨hl, hq⟩
    · exact .inl hq
    · exact .inr (hq.run v' ((h2.2 i t[i] v' (by simp [hi]) e2).live hl))
end
end Go.Proofs.Ytabmmdfhhpajgaa.Eng
