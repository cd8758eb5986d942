/- lists: lemmas for the proof, no conditions of their own. -/
import Derived.Test.YtbmejhabgoimeaaLA
import Derived.Test.YtbmejhabgoimeaaTy
set_option linter.unusedVariables false
set_option linter.unusedSimpArgs false
namespace Go.Proofs.Ytbmejhabgoimeaa.Eng
open Go Go.RowKit
set_option maxRecDepth 100000
theorem seg_get {α : Type} {l : List α} {s n i : Nat} {a : α} (h : (seg l s n)[i]? = some a) : l[s + i]? = some a ∧ i < n := by
  unfold seg at h
  rw [List.getElem?_take] at h
  split at h
  · rw [List.getElem?_drop] at h; exact ⟨h, by assumption⟩
  · simp at h
theorem seg_len {α : Type} {l : List α} {s n : Nat} (h : s + n ≤ l.length) : (seg l s n).length = n := by
  simp [seg]; omega
theorem atL_i {α : Type} {l : List α} {s n i : Nat} {a : α} {K : α → Prop} (ha : (seg l s n)[i]? = some a) (h : K a) : atL l (s + ((i : Nat) : Int).toNat) K :=
  atL_iff.2 ⟨a, by simpa using (seg_get ha).1, h⟩
theorem atL_0 {α : Type} {l : List α} {i : Nat} {a : α} {K : α → Prop} (ha : l[i]? = some a) (h : K a) : atL l (0 + ((i : Nat) : Int).toNat) K :=
  atL_iff.2 ⟨a, by simpa using ha, h⟩
theorem atL_n {α : Type} {l : List α} {i : Nat} {a : α} {K : α → Prop} (ha : l[i]? = some a) (h : K a) : atL l ((i : Nat) : Int).toNat K :=
  atL_iff.2 ⟨a, by simpa using ha, h⟩
theorem atL_p {α : Type} {l : List α} {i : Nat} {a : α} {K : α → Prop} (ha : l[i]? = some a) (h : K a) : atL l i K := atL_iff.2 ⟨a, ha, h⟩
theorem atL_e {α : Type} {l : List α} {i j : Nat} {a : α} {K : α → Prop} (e : i = j) (ha : l[j]? = some a) (h : K a) : atL l i K := by subst e; exact atL_iff.2 ⟨a, ha, h⟩
theorem seg_all {α : Type} (l : List α) : seg l 0 l.length = l := by simp [seg]
theorem seg_full {α : Type} {l : List α} {n : Nat} (h : l.length = n) : seg l 0 n = l := by simp [seg, ← h]
theorem seg_seg {α : Type} {l : List α} {s n : Nat} (h : s + n ≤ l.length) : seg (seg l s n) 0 n = seg l s n := by
  simp [seg, List.take_take]
theorem get_some {α : Type} {l : List α} {i : Nat} (h : i < l.length) : ∃ a, l[i]? = some a := ⟨l[i], by simp [h]⟩
/-- The first place where p holds, or -1. -/
def findI {α : Type} (p : α → Bool) (l : List α) : Int := if l.any p = true then (l.findIdx p : Int) else -1
theorem findI_none {α : Type} {p : α → Bool} {l : List α} (h : ∀ (j : Nat) a, l[j]? = some a → p a = false) : findI p l = -1 := by
  unfold findI
  rw [if_neg]
  rw [List.any_eq_true]
  rintro ⟨a, ha, hp⟩
  obtain ⟨j, hj⟩ := List.getElem?_of_mem ha
  rw [h j a hj] at hp; simp at hp
theorem findI_some {α : Type} {p : α → Bool} {l : List α} {i : Nat} {a : α} (ha : l[i]? = some a) (hp : p a = true) (h : ∀ (j : Nat) a, j < i → l[j]? = some a → p a = false) : findI p l = i := by
  unfold findI
  rw [if_pos (List.any_eq_true.2 ⟨a, List.mem_of_getElem? ha, hp⟩)]
  obtain ⟨hi, e⟩ := List.getElem?_eq_some_iff.1 ha
  have : l.findIdx p = i := by
    rw [List.findIdx_eq hi]
    exact ⟨by rw [e]; exact hp, fun j hj => h j _ hj (by simp)⟩
  rw [this]
theorem findI_any {α : Type} (p : α → Bool) (l : List α) : decide (0 ≤ findI p l) = l.any p := by
  unfold findI
  split
  · rename_i h; rw [h]; simp
  · rename_i h
    have : l.any p = false := by simpa using h
    rw [this]; rfl
theorem app_take {α : Type} {D : List α} {i : Nat} {w : α} (h : D[i]? = some w) : seg (D.take i) 0 i ++ seg [w] 0 1 = D.take (i + 1) := by
  have hl := (List.getElem?_eq_some_iff.1 h).1
  rw [seg_full (by rw [List.length_take]; omega), List.take_add_one, h]; rfl
theorem app_one {α : Type} {D : List α} {i : Nat} {w : α} (h : D.length = i) : seg D 0 i ++ seg [w] 0 1 = D ++ [w] := by
  rw [seg_full h]; rfl
/-- Filling a row from the left. -/
theorem fill_step {α : Type} {L : List α} {z a : α} {i n : Nat} (hn : L.length = n) (ha : L[i]? = some a) : (L.take i ++ List.replicate (n - i) z).set i a = L.take (i + 1) ++ List.replicate (n - (i + 1)) z := by
  obtain ⟨hi, e⟩ := List.getElem?_eq_some_iff.1 ha
  have h1 : (L.take i).length = i := by simp; omega
  rw [List.set_append_right _ _ (by omega), h1, Nat.sub_self, show n - i = (n - (i + 1)) + 1 by omega, List.replicate_succ, List.set_cons_zero]
  rw [List.take_add_one, ha]; simp
theorem fill_at {α : Type} {L : List α} {z : α} {i n : Nat} (hn : L.length = n) (hi : i < n) : (L.take i ++ List.replicate (n - i) z)[i]? = some z := by
  have h1 : (L.take i).length = i := by simp; omega
  rw [List.getElem?_append_right (by omega), h1, Nat.sub_self, List.getElem?_replicate, if_pos (by omega)]
theorem fill_end {α : Type} {L : List α} {z : α} {n : Nat} (hn : L.length = n) : L.take n ++ List.replicate (n - n) z = L := by
  simp [← hn]
/-- Two rows alike so far. -/
theorem same_end {α : Type} {L M : List α} {n : Nat} (h1 : L.length = n) (h2 : M.length = n) (h : L.take n = M.take n) : L = M := by
  rwa [List.take_of_length_le (by omega), List.take_of_length_le (by omega)] at h
theorem same_step {α : Type} {L M : List α} {i : Nat} {a b : α} (ha : L[i]? = some a) (hb : M[i]? = some b) (h : L.take i = M.take i) (hab : a = b) : L.take (i + 1) = M.take (i + 1) := by
  rw [List.take_add_one, List.take_add_one, h, ha, hb, hab]
theorem same_not {α : Type} {L M : List α} {i : Nat} {a b : α} (ha : L[i]? = some a) (hb : M[i]? = some b) (hab : a ≠ b) : L ≠ M := by
  rintro rfl
  rw [ha] at hb; exact hab (Option.some.inj hb)
theorem all_yes {α : Type} {p : α → Bool} {L : List α} {n : Nat} (hn : L.length ≤ n) (h : ∀ (j : Nat) a, j < n → L[j]? = some a → p a = true) : L.all p = true := by
  rw [List.all_eq_true]
  intro a ha
  obtain ⟨j, hj⟩ := List.getElem?_of_mem ha
  exact h j a (by have := (List.getElem?_eq_some_iff.1 hj).1; omega) hj
theorem all_no {α : Type} {p : α → Bool} {L : List α} {i : Nat} {a : α} (ha : L[i]? = some a) (hp : p a = false) : L.all p = false := by
  rw [List.all_eq_false]
  exact ⟨a, List.mem_of_getElem? ha, by simp [hp]⟩
/-- One more place where something holds. -/
theorem upto_step {α : Type} {p : α → Prop} {L : List α} {i : Nat} {a : α} (ha : L[i]? = some a) (hp : p a) (h : ∀ (j : Nat) b, j < i → L[j]? = some b → p b) : ∀ (j : Nat) b, j < i + 1 → L[j]? = some b → p b := fun j b hj hb => by
  by_cases e : j < i
  · exact h j b e hb
  · obtain rfl : j = i := by omega
    rw [ha] at hb; obtain rfl := Option.some.inj hb; exact hp
/-- Tests whose outcome is known. -/
theorem splitT_of {b : Bool} {A B : Prop} (h : b = true) (k : A) : splitB b A B := by subst h; exact splitT k
theorem splitF_of {b : Bool} {A B : Prop} (h : b = false) (k : B) : splitB b A B := by subst h; exact splitF k
end Go.Proofs.Ytbmejhabgoimeaa.Eng
