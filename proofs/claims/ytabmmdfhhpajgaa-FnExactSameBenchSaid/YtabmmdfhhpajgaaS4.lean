/- A text of this claim (S4): lemmas for the proof, no conditions of their own. -/
import Derived.Test.YtabmmdfhhpajgaaS3
set_option linter.unusedVariables false
set_option linter.unusedSimpArgs false
namespace Go.Proofs.Ytabmmdfhhpajgaa.Eng
open Go Go.RowKit

/-- The table of types tells the program's own. -/
def TabOk (P : Program) (T : Ty) (Q : Nat → Bool) : Prop := (∀ t d, T t = some d → tyOf P t = some d) ∧ ∀ t, Q t = true → eqOf P t = true
section
variable {P : Program} {T : Ty} {Q : Nat → Bool} {ρ ρ' : Nm} {S S' : List SB} {H H' : Heap} {t : List SV} {t' : List Value} {B k : Nat} {o : Oper}

/-- The raw operation does what is told. -/
def Does (P : Program) (B : Nat) (t' : List Value) (H : Heap) (o : Oper) (ρ : Nm) (S : List SB) (K : SV → List SB → Prop) : Prop :=
  ∃ v v' S' H' ρ', K v S' ∧ opA (tyOf P) (eqOf P) B t' H o = some (v', H') ∧ DR ρ' v v' ∧ Step ρ S H ρ' S' H'
theorem does_same {K : SV → List SB → Prop} {v : SV} {v' : Value} (hD : Den ρ S H) (hd : Dom ρ S H) (hK : K v S) (ho : opA (tyOf P) (eqOf P) B t' H o = some (v', H)) (hr : DR ρ v v') : Does P B t' H o ρ S K :=
  ⟨v, v', S, H, ρ, hK, ho, hr, .refl hD hd⟩
theorem undef_dr (ρ : Nm) : DR ρ (.tup []) undef := .tup [] [] rfl fun i v v' h => by simp at h

theorem intS_ok {op : BinOp} {k : IntKind} {a b : Int} {K : SV → Prop} (h : intS op k a b K) : ∃ s v, K s ∧ intA op k a b = some v ∧ DR ρ s v := by
  cases op <;> simp only [intS] at h <;> first | exact h.elim | skip
  all_goals first
    | exact ⟨_, _, h, rfl, .int _ _⟩
    | exact ⟨_, _, h, rfl, .bool _⟩
    | exact ⟨_, _, h.2, by simp only [intA]; rw [if_neg h.1.h], .int _ _⟩
theorem strS_ok {op : BinOp} {a b : List UInt8} {K : SV → Prop} (h : strS op a b K) : ∃ s v, K s ∧ strA op ⟨⟨a⟩⟩ ⟨⟨b⟩⟩ = some v ∧ DR ρ s v := by
  have hb : ∀ a b : List UInt8, (ByteArray.mk ⟨a⟩ = ByteArray.mk ⟨b⟩) = (a = b) := fun a b => by simp
  cases op <;> simp only [strS] at h <;> first | exact h.elim | skip
  · refine ⟨_, .string (⟨⟨a⟩⟩ ++ ⟨⟨b⟩⟩), h.2, ?_, ?_⟩
    · simp only [strA]
      have : (ByteArray.mk ⟨a⟩).size + (ByteArray.mk ⟨b⟩).size ≤ 9223372036854775807 := h.1.h
      rw [if_pos this]
    · have : (ByteArray.mk ⟨a⟩ ++ ByteArray.mk ⟨b⟩) = ⟨⟨a ++ b⟩⟩ := by
        apply ByteArray.ext
        simp [ByteArray.data_append]
      rw [this]; exact .str _
  all_goals first
    | exact ⟨_, .bool (decide (a = b)), h, by simp [strA], .bool _⟩
    | exact ⟨_, .bool (decide (a ≠ b)), h, by simp [strA], .bool _⟩
    | exact ⟨_, .bool (Op.bytesLess a b), h, by simp [strA, ByteArray.toList_eq], .bool _⟩
theorem partS_ok (hT : TabOk P T Q) {ty off : Nat} {cs : List SV} {cs' : List Value} {v : SV} (hc : LDR ρ cs cs') (h : partS T ty cs off = some v) : ∃ v', partL (tyOf P) ty cs' off = some v' ∧ DR ρ v v' := by
  unfold partS at h
  split at h
  · rename_i d hd
    have hd' := hT.1 _ _ hd
    unfold partL
    rw [hd']
    simp only
    split at h
    · rename_i ha
      rw [if_pos ha]
      split at h
      · rename_i hle
        obtain rfl := Option.some.inj h
        have hle := Nat.le_of_ble_eq_true hle
        rw [if_pos (by rw [← hc.1]; exact hle)]
        have := (hc.drop off).take d.size
        exact ⟨_, rfl, .agg _ _ this.1 this.2⟩
      · simp at h
    · rename_i ha
      rw [if_neg (by simp [ha])]
      rw [getT_eq] at h
      exact hc.get h
  · simp at h
theorem eqFS_ok (hT : TabOk P T Q) {e : Nat → SV → SV → Option Bool} {e' : Nat → Value → Value → Option Bool} (he : ∀ ty x y x' y' r, DR ρ x x' → DR ρ y y' → e ty x y = some r → e' ty x' y' = some r) :
    ∀ {fs : List Field} {xs ys : List SV} {xs' ys' : List Value} {r : Bool}, LDR ρ xs xs' → LDR ρ ys ys' → eqFS T e fs xs ys = some r → eqFieldsA (tyOf P) e' fs xs' ys' = some r
  | [], xs, ys, xs', ys', r, _, _, h => by simpa [eqFS, eqFieldsA] using h
  | f :: fs, xs, ys, xs', ys', r, hx, hy, h => by
    simp only [eqFS] at h
    split at h
    · simp at h
    · rename_i hn
      split at h
      · rename_i a ha
        split at h
        · rename_i b hb
          split at h
          · rename_i p hp
            obtain ⟨a', ha', hra⟩ := partS_ok hT hx ha
            obtain ⟨b', hb', hrb⟩ := partS_ok hT hy hb
            have hp' := he _ _ _ _ _ _ hra hrb hp
            simp only [eqFieldsA]
            rw [if_neg (by simpa using hn), ha', hb']
            simp only [hp']
            split at h
            · simpa [eqFieldsA] using h
            · split at h
              · rename_i q hq
                rw [eqFS_ok hT he hx hy hq]
                exact h
              · simp at h
          · simp at h
        · simp at h
      · simp at h
theorem eqS_ok (hT : TabOk P T Q) : ∀ {n ty : Nat} {x y : SV} {x' y' : Value} {r : Bool}, DR ρ x x' → DR ρ y y' → eqS T Q n ty x y = some r → eqA (tyOf P) (eqOf P) n ty x' y' = some r
  | 0, _, _, _, _, _, _, _, _, h => by simp [eqS] at h
  | n + 1, ty, x, y, x', y', r, hx, hy, h => by
    simp only [eqS] at h
    split at h
    · simp at h
    · rename_i d hd
      have hd' := hT.1 _ _ hd
      simp only [eqA, hd']
      split at h
      · rename_i hu
        split at h
        · cases hx; cases hy; simp only [hu]; exact h
        · simp at h
      · rename_i k0 hu
        split at h
        · cases hx; cases hy; simp only [hu]; exact h
        · simp at h
      · rename_i hu
        split at h
        · cases hx; cases hy; simp only [hu]; simpa using h
        · simp at h
      · rename_i fs hu
        split at h
        · rename_i xs ys
          cases hx with | agg _ xs' hl1 h1 =>
          cases hy with | agg _ ys' hl2 h2 =>
          simp only [hu]
          split at h
          · rename_i hq
            rw [if_pos (hT.2 _ hq)]
            exact eqFS_ok (e := eqS T Q n) hT (fun ty x y x' y' r hx hy h => eqS_ok hT hx hy h) ⟨hl1, h1⟩ ⟨hl2, h2⟩ h
          · simp at h
        · simp at h
      · simp at h
theorem isBoolD_ok (hT : TabOk P T Q) {ty : Nat} (h : isBoolD (T ty) = true) : ∃ d, tyOf P ty = some d ∧ d.und = .bool := by
  unfold isBoolD at h
  split at h
  · rename_i d hd
    refine ⟨d, hT.1 _ _ hd, ?_⟩
    split at h
    · assumption
    · simp at h
  · simp at h
theorem binS_ok (hT : TabOk P T Q) {op : BinOp} {ty : Nat} {x y : SV} {x' y' : Value} {K : SV → Prop} (hx : DR ρ x x') (hy : DR ρ y y') (h : binS T Q op ty x y K) : ∃ s v, K s ∧ binA (tyOf P) (eqOf P) op ty x' y' = some v ∧ DR ρ s v := by
  unfold binS at h
  split at h
  · rename_i k a k' b
    cases hx; cases hy
    split at h
    · exact ⟨_, _, h.2, by simp only [binA, shiftA]; rw [if_neg (by have := h.1.h; omega)], .int _ _⟩
    · exact ⟨_, _, h.2, by simp only [binA, shiftA]; rw [if_neg (by have := h.1.h; omega)], .int _ _⟩
    · rename_i n1 n2
      split at h
      · rename_i hk
        have hk : k = k' := by simpa using hk
        subst hk
        obtain ⟨s, v, h1, h2, h3⟩ := intS_ok (ρ := ρ) h
        refine ⟨s, v, h1, ?_, h3⟩
        rw [← h2]
        cases op <;> first | (exact absurd rfl n1) | (exact absurd rfl n2) | simp [binA]
      · exact h.elim
  · rename_i a b
    cases hx; cases hy
    obtain ⟨s, v, h1, h2, h3⟩ := strS_ok (ρ := ρ) h
    refine ⟨s, v, h1, ?_, h3⟩
    rw [← h2]
    cases op <;> simp [binA]
  · rename_i a b
    cases hx; cases hy
    split at h
    · rename_i hb
      obtain ⟨d, hd, hu⟩ := isBoolD_ok hT hb
      split at h
      · exact ⟨_, _, h, by simp only [binA, hd, hu], .bool _⟩
      · exact ⟨_, _, h, by simp only [binA, hd, hu], .bool _⟩
      · exact h.elim
    · exact h.elim
  · rename_i xs ys
    have e1 : ∃ xs', x' = .agg xs' := by cases hx; exact ⟨_, rfl⟩
    have e2 : ∃ ys', y' = .agg ys' := by cases hy; exact ⟨_, rfl⟩
    obtain ⟨xs', rfl⟩ := e1
    obtain ⟨ys', rfl⟩ := e2
    split at h
    · split at h
      · rename_i r hr
        exact ⟨_, _, h, by simp only [binA, eqS_ok hT hx hy hr]; rfl, .bool _⟩
      · exact h.elim
    · split at h
      · rename_i r hr
        exact ⟨_, _, h, by simp only [binA, eqS_ok hT hx hy hr]; rfl, .bool _⟩
      · exact h.elim
    · exact h.elim
  · exact h.elim
theorem convS_ok (hT : TabOk P T Q) {s d : Nat} {x : SV} {x' : Value} {K : SV → Prop} (hx : DR ρ x x') (h : convS T s d x K) : ∃ u v, K u ∧ convA (tyOf P) s d x' = some v ∧ DR ρ u v := by
  unfold convS at h
  split at h
  · exact h.elim
  · rename_i ds hs
    split at h
    · exact h.elim
    · rename_i dd hd
      have hs' := hT.1 _ _ hs
      have hd' := hT.1 _ _ hd
      split at h
      · cases hx
        split at h
        · rename_i hu; exact ⟨_, _, h, by simp only [convA, hs', hd', hu], .int _ _⟩
        · exact h.elim
      · cases hx
        split at h
        · rename_i hu; exact ⟨_, _, h, by simp only [convA, hs', hd', hu], .str _⟩
        · exact h.elim
      · exact h.elim
theorem decN_ok {e : ET} : ∀ {n : Nat} {cs : List SV} {l : List e.T}, decN e n cs = some l → l.flatMap e.enc = cs ∧ l.length = n
  | 0, [], l, h => by simp [decN] at h; subst h; exact ⟨rfl, rfl⟩
  | 0, _ :: _, l, h => by simp [decN] at h
  | n + 1, cs, l, h => by
    simp only [decN] at h
    split at h
    · rename_i x r h1
      split at h
      · rename_i l' h2
        obtain rfl := Option.some.inj h
        obtain ⟨g1, g2⟩ := decN_ok h2
        rw [e.dec_ok _ _ _ h1]
        exact ⟨by simp [g1], by simp [g2]⟩
      · simp at h
    · simp at h
theorem ptr0 {b id w : Nat} (h : ρ b = some (id, w)) : DR ρ (.ptr b 0 0) (.pointer (some ⟨id, 0, none⟩)) := by
  have := DR.ptr (ρ := ρ) b 0 0 id w h
  simpa using this
theorem sl0 {b id w n : Nat} (h : ρ b = some (id, w)) : DR ρ (.sl b 0 n 0) (.slice (some ⟨id, 0, none⟩) n (n + 1)) := by
  have := DR.sl (ρ := ρ) b 0 n 0 id w h
  simpa using this
/-- A new row. -/
theorem push_ok (hD : Den ρ S H) (hd : Dom ρ S H) {x : SB} {k : Blk} {w : Nat} {K : Nat → List SB → Prop} (hx : ∀ ρ', NLe ρ ρ' → BR ρ' x w k) (h : pushK x S nums K) :
    ∃ ρ' S', K S.length S' ∧ ρ' S.length = some (H.length, w) ∧ Step ρ S H ρ' S' (H ++ [some k]) :=
  ⟨_, _, pushK_ok h, updN_self _ _ _, Step.push hD hd (hx _ (updN_le hd _))⟩
theorem newB_ok {ty : Nat} {d : TyD} {cs : List SV} {cs' : List Value} {fl : Bool} {x : SB} (hc : LDR ρ cs cs') (h : newB T ty d cs fl = some x) : ∃ w, isGone x = false ∧ ∀ ρ', NLe ρ ρ' → BR ρ' x w ⟨cs', 0, true, fl⟩ := by
  unfold newB at h
  split at h
  · obtain rfl := Option.some.inj h
    exact ⟨0, rfl, fun ρ' hm => ⟨hc.mono hm, rfl, fun _ => rfl, rfl⟩⟩
  · have arr : ∀ (e : ET) (l : List e.T), l.flatMap e.enc = cs → x = .arr e l 0 true → ∃ w, isGone x = false ∧ ∀ ρ', NLe ρ ρ' → BR ρ' x w ⟨cs', 0, true, true⟩ := fun e l hl hx => by
      subst hx; exact ⟨e.w, rfl, fun ρ' hm => ⟨rfl, rfl, fun _ => rfl, rfl, by rw [hl]; exact hc.mono hm⟩⟩
    have box : x = .box cs true true → ∃ w, isGone x = false ∧ ∀ ρ', NLe ρ ρ' → BR ρ' x w ⟨cs', 0, true, true⟩ := fun hx => by
      subst hx; exact ⟨0, rfl, fun ρ' hm => ⟨hc.mono hm, rfl, fun _ => rfl, rfl⟩⟩
    split at h
    · split at h
      · split at h
        · split at h
          · split at h
            · rename_i l hl; exact arr _ l (decN_ok hl).1 (Option.some.inj h).symm
            · simp at h
          · simp at h
        · simp at h
      · simp at h
    · split at h
      · split at h
        · rename_i y hy; exact arr _ [y] (by rw [ET.dec_ok _ _ _ _ hy]; simp) (Option.some.inj h).symm
        · exact box (Option.some.inj h).symm
      · exact box (Option.some.inj h).symm
theorem newS_ok (hT : TabOk P T Q) (hD : Den ρ S H) (hd : Dom ρ S H) {ty : Nat} {d : TyD} {cs : List SV} {cs' : List Value} {fl fl' : Bool} {K : Nat → List SB → Prop} (hc : LDR ρ cs cs') (hf : fl' = fl) (h : newS T S ty d cs fl K) :
    ∃ ρ' S' w, K S.length S' ∧ ρ' S.length = some (H.length, w) ∧ Step ρ S H ρ' S' (H ++ [some ⟨cs', 0, true, fl'⟩]) := by
  unfold newS at h
  split at h
  · rename_i x hx
    obtain ⟨w, _, hb⟩ := newB_ok hc hx
    obtain ⟨ρ', S', h1, h2, h3⟩ := push_ok (w := w) (k := ⟨cs', 0, true, fl'⟩) hD hd (fun ρ' hm => by rw [hf]; exact hb ρ' hm) h
    exact ⟨ρ', S', w, h1, h2, h3⟩
  · exact h.elim
theorem elemK_ok (hT : TabOk P T Q) {ty : Nat} {K : (e : ET) → e.T → TyD → Prop} (h : elemK T ty K) : ∃ (e : ET) (x : e.T) (de : TyD) (el : Nat), K e x de ∧ elemT (tyOf P) ty = some (el, de) ∧ de.size = e.w ∧ (∀ ρ, LDR ρ (e.enc x) de.zero) ∧ de.fl = true := by
  unfold elemK at h
  split at h
  · rename_i d hd
    split at h
    · rename_i el hu
      split at h
      · rename_i de hde
        split at h
        · rename_i e he
          split at h
          · rename_i hw
            split at h
            · rename_i hfl
              split at h
              · rename_i z hz
                split at h
                · rename_i x hx
                  refine ⟨e, x, de, el, h, by simp only [elemT, hT.1 _ _ hd, hu, hT.1 _ _ hde]; rfl, by simpa using hw, fun ρ => ?_, hfl⟩
                  have := e.dec_ok _ _ _ hx
                  rw [List.append_nil] at this
                  rw [← this]
                  exact (ofVs_ok hz).1
                · exact h.elim
              · exact h.elim
            · exact h.elim
          · exact h.elim
        · exact h.elim
      · exact h.elim
    · exact h.elim
  · exact h.elim
theorem zeros_ldr {z : List SV} {z' : List Value} (h : LDR ρ z z') : ∀ n, LDR ρ (repL z n) (zerosL z' n)
  | 0 => .nil ρ
  | n + 1 => h.append (zeros_ldr h n)
theorem rep_flat {e : ET} (x : e.T) : ∀ n, (List.replicate n x).flatMap e.enc = repL (e.enc x) n
  | 0 => rfl
  | n + 1 => by rw [List.replicate_succ, List.flatMap_cons, rep_flat x n]; rfl
theorem rowS_ok (hD : Den ρ S H) {e : ET} {v : SV} {v' : Value} {m : Nat} (hl : lenS v = some m) (hr : DR ρ v v') {K : List e.T → Prop} (h : rowS S e v K) :
    ∃ (l : List e.T) (l' : List Value) (xa : Option Addr) (xc : Nat), K l ∧ v' = .slice xa m xc ∧ rowA H e.w (.slice xa m xc) m = some l' ∧ LDR ρ (l.flatMap e.enc) l' ∧ l.length = m := by
  unfold rowS at h
  split at h
  · cases hr
    simp only [lenS, Option.some.injEq] at hl; subst hl
    exact ⟨[], [], none, 0, h, rfl, by simp [rowA], .nil ρ, rfl⟩
  · rename_i b s n x
    simp only [lenS, Option.some.injEq] at hl; subst hl
    cases hr with | sl _ _ _ _ id w hb =>
    split at h
    · rename_i e' l sz wr hS
      split at h
      · rename_i he
        subst he
        obtain ⟨k, hk, rfl, _, _, _, hcells⟩ := hD.get hS rfl hb
        obtain ⟨hlen, h⟩ := h
        have hlen := hlen.h
        simp only at h hlen
        refine ⟨seg l s n, (k.cells.drop (s * e'.w)).take (n * e'.w), _, _, h, rfl, ?_, ?_, by simp [seg]; omega⟩
        · have : s * e'.w + n * e'.w ≤ k.cells.length := by
            rw [← hcells.1, flat_len, ← Nat.add_mul]; exact Nat.mul_le_mul_right _ hlen
          simp [rowA, loadA, hk, this]
        · have := (hcells.drop (s * e'.w)).take (n * e'.w)
          rw [flat_drop, flat_take] at this
          exact this
      · exact h.elim
    · exact h.elim
  · exact h.elim
end
end Go.Proofs.Ytabmmdfhhpajgaa.Eng
