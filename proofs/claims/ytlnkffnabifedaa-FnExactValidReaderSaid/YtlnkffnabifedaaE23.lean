/- A text of this claim: E23. -/
import Derived.Test.YtlnkffnabifedaaE22
set_option linter.unusedVariables false
set_option linter.unusedSimpArgs false
namespace Go.Proofs.Ytlnkffnabifedaa.Eng
open Go Go.RowKit

section
variable {P : Program} {t : List Value} {H : Heap} {r : List ResultVar} {l vs : List Value} {v : Value} {i id o : Nat} {ty : TypeId} {d : TyD} {b : Blk}
theorem res_nil : resA (tyOf P) t H [] = some [] := rfl
theorem res_tmp (h : liveAt t i = some v) (k : resA (tyOf P) t H r = some l) : resA (tyOf P) t H (.tmp i :: r) = some (v :: l) := by
  simp [resA, h, k]
theorem res_cell (h : liveAt t i = some (.pointer (some ⟨id, o, none⟩))) (hT : tyOf P ty = some d) (ha : aggD d.und = false) (hb : getB H id = some b) (hv : b.cells[o]? = some v) (k : resA (tyOf P) t H r = some l) : resA (tyOf P) t H (.cell i ty :: r) = some (v :: l) := by
  have hl : o + 1 ≤ b.cells.length := (List.getElem?_eq_some_iff.1 hv).1
  have : ((b.cells.drop o).take 1)[0]? = some v := by rw [List.getElem?_take, if_pos (by omega), List.getElem?_drop]; simpa using hv
  simp only [resA, h, k, loadVarA, hT, ha, loadA, hb]
  simp [hl]
  simp [hv]
theorem res_cellA (h : liveAt t i = some (.pointer (some ⟨id, o, none⟩))) (hT : tyOf P ty = some d) (ha : aggD d.und = true) (hb : getB H id = some b) (hl : o + d.size ≤ b.cells.length) (hv : (b.cells.drop o).take d.size = vs) (k : resA (tyOf P) t H r = some l) : resA (tyOf P) t H (.cell i ty :: r) = some (.agg ⟨vs⟩ :: l) := by
  subst hv
  simp [resA, h, k, loadVarA, hT, ha, loadA, hb, hl]
/-- The results, with what comes after. -/
def RK (P : Program) (t : List Value) (H : Heap) (rs : List ResultVar) (K : List Value → Prop) : Prop := ∃ vs, resA (tyOf P) t H rs = some vs ∧ K vs
variable {K : List Value → Prop} {B : Nat} {H0 : Heap} {bs : List (Option Blk)} {R : Value → Heap → Prop}
theorem rk_nil (k : K []) : RK P t H [] K := ⟨[], rfl, k⟩
theorem rk_tmp (h : liveAt t i = some v) (k : RK P t H r fun l => K (v :: l)) : RK P t H (.tmp i :: r) K := by
  obtain ⟨l, h1, h2⟩ := k; exact ⟨_, res_tmp h h1, h2⟩
theorem rk_cell (h : liveAt t i = some (.pointer (some ⟨id, o, none⟩))) (hT : tyOf P ty = some d) (ha : aggD d.und = false) (hb : getB H id = some b) (hv : b.cells[o]? = some v) (k : RK P t H r fun l => K (v :: l)) : RK P t H (.cell i ty :: r) K := by
  obtain ⟨l, h1, h2⟩ := k; exact ⟨_, res_cell h hT ha hb hv h1, h2⟩
theorem rk_cellA (h : liveAt t i = some (.pointer (some ⟨id, o, none⟩))) (hT : tyOf P ty = some d) (ha : aggD d.und = true) (hb : getB H id = some b) (hl : o + d.size ≤ b.cells.length) (hv : (b.cells.drop o).take d.size = vs) (k : RK P t H r fun l => K (.agg ⟨vs⟩ :: l)) : RK P t H (.cell i ty :: r) K := by
  obtain ⟨l, h1, h2⟩ := k; exact ⟨_, res_cellA h hT ha hb hl hv h1, h2⟩
theorem ret_k {e : Exit} {rs : List ResultVar} (he : e = .normal ∨ e = .ret) (h : RK P t H rs fun vs => RetX B (packR vs) H R) : (e = .normal ∨ e = .ret) ∧ ∃ vs, resA (tyOf P) t H rs = some vs ∧ RetX B (packR vs) H R := ⟨he, h⟩
theorem retx_drop {v2 : Value} (hB : H0.length = B) (hp : v = v2) (hl : Lt B v2) (h : R v2 H0) : RetX B v (H0 ++ bs) R := by
  subst hB; subst hp; exact .drop h hl
end
end Go.Proofs.Ytlnkffnabifedaa.Eng
