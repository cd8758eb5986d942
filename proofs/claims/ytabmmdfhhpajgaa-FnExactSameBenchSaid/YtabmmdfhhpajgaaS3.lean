/- A text of this claim (S3): lemmas for the proof, no conditions of their own. -/
import Derived.Test.YtabmmdfhhpajgaaS2
set_option linter.unusedVariables false
set_option linter.unusedSimpArgs false
namespace Go.Proofs.Ytabmmdfhhpajgaa.Eng
open Go Go.RowKit

/-! ### what is computed is so: helpers -/
section
variable {α : Type} {ρ ρ' : Nm} {S S' : List SB} {H H' : Heap} {t : List SV} {t' : List Value}
theorem forceL_iff {l : List α} : ∀ {K : List α → Prop}, forceL l K ↔ K l := by
  induction l with
  | nil => intro K; rfl
  | cons v r ih => intro K; simp only [forceL]; exact ih
theorem atL_iff : ∀ {l : List α} {i : Nat} {K : α → Prop}, atL l i K ↔ ∃ a, l[i]? = some a ∧ K a
  | [], i, K => by simp [atL]
  | a :: l, 0, K => by simp [atL]
  | a :: l, n + 1, K => by simp only [atL]; rw [atL_iff]; simp
theorem setK_iff : ∀ {l : List α} {i : Nat} {v : α} {K : List α → Prop}, setK l i v K ↔ K (l.set i v)
  | [], _, _, K => by simp [setK]
  | u :: r, 0, v, K => by simp [setK]
  | u :: r, n + 1, v, K => by simp only [setK]; rw [setK_iff]; simp
theorem pushK_gen {x : SB} : ∀ {S : List SB} {ns : List Nat} {m : Nat} {K : Nat → List SB → Prop}, (∀ i n, ns[i]? = some n → n = m + i) → pushK x S ns K → K (m + S.length) (S ++ [x])
  | [], [], m, K, _, h => h.elim
  | _ :: _, [], m, K, _, h => by simp [pushK] at h
  | [], n :: ns, m, K, hn, h => by
    have := hn 0 n rfl
    simp only [pushK] at h; subst this; exact h
  | s :: r, n :: ns, m, K, hn, h => by
    simp only [pushK] at h
    have := pushK_gen (m := m + 1) (fun i n' hi => by have := hn (i + 1) n' (by simpa using hi); omega) h
    simpa [Nat.add_assoc, Nat.add_comm 1] using this
theorem nums_range : nums = List.range 100 := by decide
theorem nums_at : ∀ i n, nums[i]? = some n → n = 0 + i := by
  intro i n h
  rw [nums_range] at h
  have hi : i < (List.range 100).length := (List.getElem?_eq_some_iff.1 h).1
  rw [List.getElem?_eq_getElem hi] at h
  have := Option.some.inj h
  simp at this; omega
theorem pushK_ok {x : SB} {K : Nat → List SB → Prop} (h : pushK x S nums K) : K S.length (S ++ [x]) := by
  have := pushK_gen (m := 0) nums_at h
  simpa using this

theorem ofV_ok {v : Value} {s : SV} (h : ofV v = some s) : flatS s = true ∧ DR ρ s v := by
  unfold ofV at h
  split at h <;> first | (simp at h; done) | (obtain rfl := Option.some.inj h)
  · exact ⟨rfl, .bool _⟩
  · exact ⟨rfl, .int _ _⟩
  · exact ⟨rfl, .str _⟩
  · exact ⟨rfl, .nilp⟩
  · exact ⟨rfl, .nils⟩
  · exact ⟨rfl, .nilf⟩
  · exact ⟨rfl, .nili⟩
theorem ofVs_ok : ∀ {vs : List Value} {l : List SV}, ofVs vs = some l → LDR ρ l vs ∧ l.all flatS = true
  | [], l, h => by simp [ofVs] at h; subst h; exact ⟨.nil ρ, rfl⟩
  | v :: r, l, h => by
    simp only [ofVs] at h
    split at h
    · rename_i s hs
      split at h
      · rename_i l' hl'
        obtain rfl := Option.some.inj h
        have h1 := ofV_ok (ρ := ρ) hs
        have h2 := ofVs_ok (vs := r) hl'
        exact ⟨.cons h1.2 h2.1, by simp [h1.1, h2.2]⟩
      · simp at h
    · simp at h
theorem liveS_ok {v u : SV} (h : liveS v = some u) : u = v ∧ v ≠ .dead := by
  cases v <;> simp [liveS] at h <;> exact ⟨h.symm, by simp⟩
theorem evL_ev {x : Operand} {v : Value} (h : evL t' x = some v) : ev t' x = some v := by
  unfold evL at h
  split at h
  · rename_i u hu
    split at h
    · simp at h
    · rw [hu]; exact h
  · simp at h
theorem evS_ok (ht : TSD ρ t t') {x : Operand} {v : SV} (h : evS t x = some v) : ∃ v', evL t' x = some v' ∧ DR ρ v v' := by
  cases x with
  | tmp i =>
    simp only [evS, getT_eq] at h
    split at h
    · rename_i u hu
      obtain ⟨rfl, hd⟩ := liveS_ok h
      obtain ⟨v', hv', hr⟩ := ht.get hu
      have hr := hr.live hd
      exact ⟨v', by simp [evL, ev, hv', hr.alive], hr⟩
    · simp at h
  | const c =>
    simp only [evS] at h
    obtain ⟨h1, h2⟩ := ofV_ok (ρ := ρ) h
    exact ⟨c, by simp [evL, ev, h2.flat h1, h2.alive], h2⟩
  | func f =>
    simp only [evS] at h; obtain rfl := Option.some.inj h
    exact ⟨.func (.func f) #[] #[], by simp [evL, ev, isDead], .fn f [] [] rfl fun i v v' h => by simp at h⟩
  | global g => simp [evS] at h
theorem evK_ok (ht : TSD ρ t t') {x : Operand} {K : SV → Prop} (h : evK t x K) : ∃ v v', K v ∧ evL t' x = some v' ∧ DR ρ v v' := by
  unfold evK at h
  split at h
  · rename_i v hv
    obtain ⟨v', h1, h2⟩ := evS_ok ht hv
    exact ⟨v, v', h, h1, h2⟩
  · exact h.elim
theorem evsK_ok (ht : TSD ρ t t') : ∀ {xs : List Operand} {K : List SV → Prop}, evsK t xs K → ∃ l l', K l ∧ evAllL t' xs = some l' ∧ LDR ρ l l'
  | [], K, h => ⟨[], [], h, rfl, .nil ρ⟩
  | x :: r, K, h => by
    simp only [evsK] at h
    obtain ⟨v, v', h1, h2, h3⟩ := evK_ok ht h
    obtain ⟨l, l', h4, h5, h6⟩ := evsK_ok ht h1
    exact ⟨v :: l, v' :: l', h4, by simp [evAllL, h2, h5], .cons h3 h6⟩
def PDR (ρ : Nm) (l : List (Nat × SV)) (l' : List (Nat × Value)) : Prop := l.length = l'.length ∧ ∀ (j : Nat) p p', l[j]? = some p → l'[j]? = some p' → p.1 = p'.1 ∧ DR ρ p.2 p'.2
theorem evPK_ok (ht : TSD ρ t t') : ∀ {xs : List (Nat × Operand)} {K : List (Nat × SV) → Prop}, evPK t xs K → ∃ l l', K l ∧ evParts t' xs = some l' ∧ PDR ρ l l'
  | [], K, h => ⟨[], [], h, rfl, rfl, fun j p p' h => by simp at h⟩
  | (i, x) :: r, K, h => by
    simp only [evPK] at h
    obtain ⟨v, v', h1, h2, h3⟩ := evK_ok ht h
    obtain ⟨l, l', h4, h5, h6, h7⟩ := evPK_ok ht h1
    refine ⟨(i, v) :: l, (i, v') :: l', h4, by simp [evParts, h2, h5], by simp [h6], fun j p p' e1 e2 => ?_⟩
    cases j with
    | zero => simp at e1 e2; subst e1; subst e2; exact ⟨rfl, h3⟩
    | succ j => exact h7 j p p' (by simpa using e1) (by simpa using e2)
theorem optK_ok (ht : TSD ρ t t') {x : Option Operand} {K : Option Int → Prop} (h : optK t x K) : ∃ l, K l ∧ optInt t' x = some l := by
  cases x with
  | none => exact ⟨none, h, rfl⟩
  | some x =>
    simp only [optK] at h
    obtain ⟨v, v', h1, h2, h3⟩ := evK_ok ht h
    cases h3 <;> first | exact h1.elim | skip
    rename_i k n
    exact ⟨some n, h1, by simp [optInt, h2]⟩
theorem cells_dr {v : SV} {v' : Value} (h : DR ρ v v') : LDR ρ (cellsS v) (cellsL v') := by
  cases h <;> first | exact .cons (by constructor <;> assumption) (.nil ρ) | skip
  case agg xs ys hl h => exact ⟨hl, h⟩
  case arrV e l => exact map_toV (flat_all l) ρ
theorem spliceS_ldr {xs us : List SV} {ys vs : List Value} (h : LDR ρ xs ys) (k : LDR ρ us vs) (o : Nat) : LDR ρ (spliceS xs o us) (splice ys o vs) := h.splice k o
theorem fillS_ok {place place' : Nat → Option (Nat × Nat)} (hp : ∀ i, place i = place' i) : ∀ {l : List (Nat × SV)} {l' : List (Nat × Value)} {cs r : List SV} {cs' : List Value}, LDR ρ cs cs' → PDR ρ l l' → fillS place cs l = some r → ∃ r', fillL place' cs' l' = some r' ∧ LDR ρ r r'
  | [], l', cs, r, cs', hc, hl, h => by
    have : l' = [] := List.eq_nil_of_length_eq_zero (by have := hl.1; simpa using this.symm)
    subst this
    simp only [fillS] at h; obtain rfl := Option.some.inj h
    exact ⟨cs', rfl, hc⟩
  | (i, v) :: l, [], cs, r, cs', hc, hl, h => by have := hl.1; simp at this
  | (i, v) :: l, (i', v') :: l', cs, r, cs', hc, hl, h => by
    obtain ⟨e1, e2⟩ := hl.2 0 (i, v) (i', v') rfl rfl
    simp only at e1 e2; subst e1
    simp only [fillS] at h
    simp only [fillL]
    rw [← hp]
    split at h
    · simp at h
    · rename_i off size hpl
      have hcl := (cells_dr e2).1
      split at h
      · rename_i hcond
        simp only [Bool.and_eq_true, Nat.beq_eq, Nat.ble_eq] at hcond
        rw [hpl]
        simp only
        rw [← hcl, ← hc.1, if_neg (by omega)]
        exact fillS_ok hp (spliceS_ldr hc (cells_dr e2) off) ⟨by have := hl.1; simpa using this, fun j p p' a b => hl.2 (j + 1) p p' (by simpa using a) (by simpa using b)⟩ h
      · simp at h
theorem outS_ok {d : TyD} {cs : List SV} {cs' : List Value} {K : SV → Prop} (h : outS d cs K) (hr : LDR ρ cs cs') : ∃ v v', K v ∧ (if aggD d.und = true then some (Value.agg ⟨cs'⟩) else cs'[0]?) = some v' ∧ DR ρ v v' := by
  unfold outS at h
  rw [forceL_iff] at h
  split at h
  · rename_i ha
    exact ⟨_, _, h, by rw [if_pos ha], .agg _ _ hr.1 hr.2⟩
  · rename_i ha
    split at h
    · rename_i v
      obtain ⟨v', ys, rfl, h1, h2⟩ := hr.inv_cons
      exact ⟨v, v', h, by rw [if_neg (by simp [ha])]; rfl, h1⟩
    · exact h.elim
/-- Where an element lies in a row. -/
theorem flat_at {e : ET} : ∀ {l : List e.T} {i : Nat} {a : e.T}, l[i]? = some a → ∃ X Y, X.length = i * e.w ∧ l.flatMap e.enc = X ++ e.enc a ++ Y ∧ ∀ a', (l.set i a').flatMap e.enc = X ++ e.enc a' ++ Y
  | [], i, a, h => by simp at h
  | b :: l, 0, a, h => by
    simp at h; subst h
    exact ⟨[], l.flatMap e.enc, by simp, by simp, fun a' => by simp⟩
  | b :: l, i + 1, a, h => by
    obtain ⟨X, Y, h1, h2, h3⟩ := flat_at (l := l) (i := i) (a := a) (by simpa using h)
    exact ⟨e.enc b ++ X, Y, by simp [h1, e.enc_len, Nat.add_mul]; omega, by simp [h2], fun a' => by simp [h3]⟩
theorem seg_at {X ea Y : List SV} {p o n : Nat} (hX : X.length = p) (hn : o + n ≤ ea.length) : ((X ++ ea ++ Y).drop (p + o)).take n = seg ea o n := by
  subst hX
  unfold seg
  rw [List.append_assoc, ← List.drop_drop, List.drop_left, List.drop_append_of_le_length (by omega), List.take_append_of_le_length (by simp; omega)]
theorem splice_at {X ea Y cs : List SV} {p o : Nat} (hX : X.length = p) (hn : o + cs.length ≤ ea.length) : spliceS (X ++ ea ++ Y) (p + o) cs = X ++ spliceS ea o cs ++ Y := by
  subst hX
  unfold spliceS
  rw [List.append_assoc X ea Y, List.take_append, List.drop_append]
  rw [List.take_of_length_le (by omega), List.drop_eq_nil_of_le (by omega)]
  rw [show X.length + o - X.length = o by omega, show X.length + o + cs.length - X.length = o + cs.length by omega]
  rw [List.take_append_of_le_length (by omega), List.drop_append_of_le_length (by omega)]
  simp

theorem flat_drop {e : ET} : ∀ (l : List e.T) (s : Nat), (l.flatMap e.enc).drop (s * e.w) = (l.drop s).flatMap e.enc
  | [], s => by simp
  | a :: l, 0 => by simp
  | a :: l, s + 1 => by
    rw [List.flatMap_cons, List.drop_append, List.drop_eq_nil_of_le (by rw [e.enc_len, Nat.add_mul]; omega), List.nil_append, e.enc_len, show (s + 1) * e.w - e.w = s * e.w by rw [Nat.add_mul]; omega]
    simpa using flat_drop l s
theorem flat_take {e : ET} : ∀ (l : List e.T) (m : Nat), (l.flatMap e.enc).take (m * e.w) = (l.take m).flatMap e.enc
  | [], m => by simp
  | a :: l, 0 => by simp
  | a :: l, m + 1 => by
    rw [List.flatMap_cons, List.take_append, List.take_of_length_le (by rw [e.enc_len, Nat.add_mul]; omega), e.enc_len, show (m + 1) * e.w - e.w = m * e.w by rw [Nat.add_mul]; omega, flat_take l m]
    simp
theorem flat_len {e : ET} : ∀ (l : List e.T), (l.flatMap e.enc).length = l.length * e.w
  | [] => by simp
  | a :: l => by rw [List.flatMap_cons, List.length_append, e.enc_len, flat_len l, List.length_cons, Nat.add_mul]; omega
theorem LDR.fun2 {xs : List SV} {as bs : List Value} (h : LDR ρ xs as) (k : LDR ρ xs bs) : as = bs :=
  List.ext_getElem (by rw [← h.1, ← k.1]) fun i a b => (h.2 i (xs[i]'(by rw [h.1]; exact a)) _ (by simp) (by simp)).fun (k.2 i (xs[i]'(by rw [h.1]; exact a)) _ (by simp) (by simp))
theorem Den.get (hD : Den ρ S H) {b id w : Nat} {x : SB} (hb : getT S b = some x) (hg : isGone x = false) (hi : ρ b = some (id, w)) : ∃ k, getB H id = some k ∧ BR ρ x w k := by
  rw [getT_eq] at hb
  obtain ⟨id', w', k, h1, h2, h3⟩ := hD.blk b x hb hg
  rw [hi] at h1; obtain ⟨rfl, rfl⟩ := Prod.mk.inj (Option.some.inj h1)
  exact ⟨k, h2, h3⟩
theorem loadS_ok {P : Program} (hD : Den ρ S H) {d : TyD} {ty : Nat} (hd : tyOf P ty = some d) {v : SV} {v' : Value} (hr : DR ρ v v') {K : SV → Prop} (h : loadS d S v K) : ∃ u u', K u ∧ loadVarA (tyOf P) ty v' H = some u' ∧ DR ρ u u' := by
  have fin : ∀ {id off : Nat} {k : Blk} {cs : List SV}, getB H id = some k → off + cnt d ≤ k.cells.length → LDR ρ cs ((k.cells.drop off).take (cnt d)) → outS d cs K → ∃ u u', K u ∧ loadVarA (tyOf P) ty (.pointer (some ⟨id, off, none⟩)) H = some u' ∧ DR ρ u u' := by
    intro id off k cs h1 h2 h3 h4
    obtain ⟨u, u', g1, g2, g3⟩ := outS_ok h4 h3
    refine ⟨u, u', g1, ?_, g3⟩
    have hcnt : (if aggD d.und = true then d.size else 1) = cnt d := by unfold cnt; cases aggD d.und <;> rfl
    unfold loadVarA
    simp only [hd, hcnt, loadA, h1, if_pos h2]
    exact g2
  unfold loadS at h
  split at h
  · rename_i b i o
    cases hr with | ptr _ _ _ id w hb =>
    split at h
    · rename_i e l sz wr hS
      split at h
      · rename_i hle
        obtain ⟨a, ha, h⟩ := atL_iff.1 h
        obtain ⟨k, hk, rfl, _, _, _, hc⟩ := hD.get hS rfl hb
        obtain ⟨X, Y, e1, e2, _⟩ := flat_at ha
        have hle' : o + cnt d ≤ (e.enc a).length := by rw [e.enc_len]; exact Nat.le_of_ble_eq_true hle
        rw [e2] at hc
        refine fin hk ?_ ?_ h
        · rw [← hc.1]; simp; omega
        · have := (hc.drop (i * e.w + o)).take (cnt d)
          rw [seg_at e1 hle'] at this
          exact this
      · split at h
        · rename_i len el hu
          split at h
          · split at h
            · rename_i hsz
              have hsz : len * e.w = d.size := by simpa using hsz
              obtain ⟨⟨hv⟩, h⟩ := h
              obtain ⟨k, hk, rfl, _, _, _, hc⟩ := hD.get hS rfl hb
              have hag : aggD d.und = true := by rw [hu]; rfl
              have hlen : i * e.w + d.size ≤ k.cells.length := by
                rw [← hc.1, flat_len, ← hsz, ← Nat.add_mul]; exact Nat.mul_le_mul_right _ hv
              have hl := (hc.drop (i * e.w)).take d.size
              rw [← hsz, flat_drop, flat_take] at hl
              have e2 : (k.cells.drop (i * e.w)).take (len * e.w) = ((seg l i len).flatMap e.enc).map toV := LDR.fun2 hl (map_toV (flat_all _) ρ)
              refine ⟨_, .agg ⟨((seg l i len).flatMap e.enc).map toV⟩, h, ?_, .arrV _ _⟩
              simp only [loadVarA, hd, hag, if_true, Nat.add_zero, loadA, hk]
              rw [if_pos hlen, ← hsz]
              simp only [e2]
            · exact h.elim
          · exact h.elim
        · exact h.elim
    · rename_i cs wr fl hS
      split at h
      · split at h
        · rename_i hle
          obtain ⟨k, hk, hc, _⟩ := hD.get hS rfl hb
          refine fin hk ?_ ?_ h
          · rw [← hc.1]; have := Nat.le_of_ble_eq_true hle; omega
          · have := (hc.drop o).take (cnt d)
            simpa [seg] using this
        · exact h.elim
      · exact h.elim
    · exact h.elim
  · exact h.elim

/-! ### steps of the state -/
def Dom (ρ : Nm) (S : List SB) (H : Heap) : Prop := ∀ b id w, ρ b = some (id, w) → b < S.length ∧ id < H.length
structure Step (ρ : Nm) (S : List SB) (H : Heap) (ρ' : Nm) (S' : List SB) (H' : Heap) : Prop where
  le : NLe ρ ρ'
  den : Den ρ' S' H'
  dom : Dom ρ' S' H'
  fresh : ∀ b id w, ρ' b = some (id, w) → ρ b = some (id, w) ∨ (S.length ≤ b ∧ H.length ≤ id)
  hl : H.length ≤ H'.length
  sl : S.length ≤ S'.length
  keep : ∀ id, id < H.length → (∀ b w, ρ b ≠ some (id, w)) → H'[id]? = H[id]?
theorem Step.refl (hD : Den ρ S H) (hd : Dom ρ S H) : Step ρ S H ρ S H := ⟨.refl _, hD, hd, fun _ _ _ h => .inl h, Nat.le_refl _, Nat.le_refl _, fun _ _ _ => rfl⟩
theorem Step.trans {ρ1 ρ2 : Nm} {S1 S2 : List SB} {H1 H2 : Heap} (h : Step ρ S H ρ1 S1 H1) (k : Step ρ1 S1 H1 ρ2 S2 H2) : Step ρ S H ρ2 S2 H2 where
  le := h.le.trans k.le
  den := k.den
  dom := k.dom
  fresh := fun b id w hb => by
    rcases k.fresh b id w hb with h1 | ⟨h1, h2⟩
    · exact h.fresh b id w h1
    · exact .inr ⟨by have := h.sl; omega, by have := h.hl; omega⟩
  hl := Nat.le_trans h.hl k.hl
  sl := Nat.le_trans h.sl k.sl
  keep := fun id hi hn => by
    rw [k.keep id (by have := h.hl; omega) fun b w hb => ?_, h.keep id hi hn]
    rcases h.fresh b id w hb with h1 | ⟨_, h2⟩
    · exact hn b w h1
    · omega
theorem Den.put (hD : Den ρ S H) {b id w : Nat} {x : SB} {y : Option Blk} (hi : ρ b = some (id, w)) (hid : id < H.length) (hx : isGone x = false → ∃ k, y = some k ∧ BR ρ x w k) : Den ρ (S.set b x) (H.set id y) := by
  refine ⟨fun b' x' hb' hg => ?_, hD.inj⟩
  rw [List.getElem?_set] at hb'
  split at hb'
  · rename_i e; subst e
    split at hb'
    · obtain rfl := Option.some.inj hb'
      obtain ⟨k, rfl, hk⟩ := hx hg
      exact ⟨id, w, k, hi, by rw [getB_eq]; simp [hid], hk⟩
    · simp at hb'
  · rename_i e
    obtain ⟨id', w', k, h1, h2, h3⟩ := hD.blk b' x' hb' hg
    refine ⟨id', w', k, h1, ?_, h3⟩
    rw [getB_eq] at h2 ⊢
    rw [List.getElem?_set, if_neg (fun q => e ?_)]
    · exact h2
    · subst q; exact hD.inj b b' id w w' hi h1
theorem Step.put (hD : Den ρ S H) (hd : Dom ρ S H) {b id w : Nat} {x : SB} {y : Option Blk} (hi : ρ b = some (id, w)) (hx : isGone x = false → ∃ k, y = some k ∧ BR ρ x w k) : Step ρ S H ρ (S.set b x) (H.set id y) where
  le := .refl _
  den := hD.put hi (hd b id w hi).2 hx
  dom := fun b id w h => by simpa using hd b id w h
  fresh := fun _ _ _ h => .inl h
  hl := by simp
  sl := by simp
  keep := fun j hj hn => by
    rw [List.getElem?_set, if_neg]
    intro e; subst e; exact hn b w hi
def updN (ρ : Nm) (n : Nat) (p : Nat × Nat) : Nm := fun b => if b = n then some p else ρ b
theorem updN_le (hd : Dom ρ S H) (p : Nat × Nat) : NLe ρ (updN ρ S.length p) := fun b q h => by
  have := (hd b q.1 q.2 (by simpa using h)).1
  simp [updN, show b ≠ S.length by omega, h]
theorem Step.push (hD : Den ρ S H) (hd : Dom ρ S H) {x : SB} {k : Blk} {w : Nat} (hx : BR (updN ρ S.length (H.length, w)) x w k) : Step ρ S H (updN ρ S.length (H.length, w)) (S ++ [x]) (H ++ [some k]) where
  le := updN_le hd _
  den := by
    refine ⟨fun b x' hb hg => ?_, fun b b' id w1 w2 h1 h2 => ?_⟩
    · by_cases hl : b < S.length
      · rw [List.getElem?_append_left hl] at hb
        obtain ⟨id, w', k', h1, h2, h3⟩ := hD.blk b x' hb hg
        have hid := (hd b id w' h1).2
        exact ⟨id, w', k', updN_le hd _ _ _ h1, by rw [getB_eq] at h2 ⊢; rw [List.getElem?_append_left hid]; exact h2, h3.mono (updN_le hd _)⟩
      · have hb2 : b = S.length := by
          have := (List.getElem?_eq_some_iff.1 hb).1
          simp at this; omega
        subst hb2
        simp at hb; subst hb
        exact ⟨H.length, w, k, by simp [updN], by rw [getB_eq]; simp, hx⟩
    · simp only [updN] at h1 h2
      split at h1 <;> split at h2
      · omega
      · obtain ⟨rfl, rfl⟩ := Prod.mk.inj (Option.some.inj h1)
        have := (hd b' _ _ h2).2; omega
      · obtain ⟨rfl, rfl⟩ := Prod.mk.inj (Option.some.inj h2)
        have := (hd b _ _ h1).2; omega
      · exact hD.inj b b' id w1 w2 h1 h2
  dom := fun b id w' h => by
    simp only [updN] at h
    split at h
    · obtain ⟨rfl, rfl⟩ := Prod.mk.inj (Option.some.inj h); simp; omega
    · have := hd b id w' h; simp; omega
  fresh := fun b id w' h => by
    simp only [updN] at h
    split at h
    · obtain ⟨rfl, rfl⟩ := Prod.mk.inj (Option.some.inj h); exact .inr ⟨by omega, Nat.le_refl _⟩
    · exact .inl h
  hl := by simp
  sl := by simp
  keep := fun id hi _ => by rw [List.getElem?_append_left hi]
theorem updN_self (ρ : Nm) (n : Nat) (p : Nat × Nat) : updN ρ n p n = some p := by simp [updN]
end
end Go.Proofs.Ytabmmdfhhpajgaa.Eng
