/- A text of this claim (S7): lemmas for the proof, no conditions of their own. -/
import Derived.Test.YtabmmdfhhpajgaaS6
set_option linter.unusedVariables false
set_option linter.unusedSimpArgs false
namespace Go.Proofs.Ytabmmdfhhpajgaa.Eng
open Go Go.RowKit

/-! ### names turned -/
mutual
def renK (g : Nat → Option Nat) : SV → (SV → Prop) → Prop
  | .ptr b i o, K => match g b with | some c => K (.ptr c i o) | none => False
  | .sl b s n x, K => match g b with | some c => K (.sl c s n x) | none => False
  | .agg xs, K => renLK g xs fun ys => K (.agg ys)
  | .tup xs, K => renLK g xs fun ys => K (.tup ys)
  | .fn f xs, K => renLK g xs fun ys => K (.fn f ys)
  | .bool b, K => K (.bool b)
  | .int k n, K => K (.int k n)
  | .str s, K => K (.str s)
  | .nilp, K => K .nilp
  | .nils, K => K .nils
  | .nilf, K => K .nilf
  | .nili, K => K .nili
  | .dead, K => K .dead
  | .arrV e l, K => K (.arrV e l)
  | .opt q b n x, K => match g b with | some c => K (.opt q c n x) | none => False
def renLK (g : Nat → Option Nat) : List SV → (List SV → Prop) → Prop
  | [], K => K []
  | v :: r, K => renK g v fun v' => renLK g r fun r' => K (v' :: r')
end
section
variable {g : Nat → Option Nat} {ρ ρ' : Nm}
mutual
theorem renK_ok (hg : ∀ b c p, g b = some c → ρ b = some p → ρ' c = some p) : ∀ {v : SV} {K : SV → Prop}, renK g v K → ∃ u, K u ∧ ∀ v', DR ρ v v' → DR ρ' u v'
  | .ptr b i o, K, h => by
    simp only [renK] at h
    split at h
    · rename_i c hc
      exact ⟨_, h, fun v' r => by cases r with | ptr _ _ _ id w hb => exact .ptr c i o id w (hg _ _ _ hc hb)⟩
    · exact h.elim
  | .sl b s n x, K, h => by
    simp only [renK] at h
    split at h
    · rename_i c hc
      exact ⟨_, h, fun v' r => by cases r with | sl _ _ _ _ id w hb => exact .sl c s n x id w (hg _ _ _ hc hb)⟩
    · exact h.elim
  | .agg xs, K, h => by
    simp only [renK] at h
    obtain ⟨ys, h1, h2⟩ := renLK_ok hg h
    exact ⟨_, h1, fun v' r => by cases r with | agg _ zs hl hr => exact .agg _ _ (h2 zs ⟨hl, hr⟩).1 (h2 zs ⟨hl, hr⟩).2⟩
  | .tup xs, K, h => by
    simp only [renK] at h
    obtain ⟨ys, h1, h2⟩ := renLK_ok hg h
    exact ⟨_, h1, fun v' r => by cases r with | tup _ zs hl hr => exact .tup _ _ (h2 zs ⟨hl, hr⟩).1 (h2 zs ⟨hl, hr⟩).2⟩
  | .fn f xs, K, h => by
    simp only [renK] at h
    obtain ⟨ys, h1, h2⟩ := renLK_ok hg h
    exact ⟨_, h1, fun v' r => by cases r with | fn _ _ zs hl hr => exact .fn f _ _ (h2 zs ⟨hl, hr⟩).1 (h2 zs ⟨hl, hr⟩).2⟩
  | .bool b, K, h => ⟨_, by simpa only [renK] using h, fun v' r => r.flat_any rfl _⟩
  | .int k n, K, h => ⟨_, by simpa only [renK] using h, fun v' r => r.flat_any rfl _⟩
  | .str s, K, h => ⟨_, by simpa only [renK] using h, fun v' r => r.flat_any rfl _⟩
  | .nilp, K, h => ⟨_, by simpa only [renK] using h, fun v' r => r.flat_any rfl _⟩
  | .nils, K, h => ⟨_, by simpa only [renK] using h, fun v' r => r.flat_any rfl _⟩
  | .nilf, K, h => ⟨_, by simpa only [renK] using h, fun v' r => r.flat_any rfl _⟩
  | .nili, K, h => ⟨_, by simpa only [renK] using h, fun v' r => r.flat_any rfl _⟩
  | .dead, K, h => ⟨_, by simpa only [renK] using h, fun v' r => by cases r⟩
  | .arrV e l, K, h => ⟨_, by simpa only [renK] using h, fun v' r => by cases r; exact .arrV e l⟩
  | .opt q b n x, K, h => by
    simp only [renK] at h
    split at h
    · rename_i c hc
      exact ⟨_, h, fun v' r => by
        cases r with
        | optN _ _ _ id w hb hn hx => exact .optN c n x id w (hg _ _ _ hc hb) hn hx
        | optS _ _ _ id w hb => exact .optS c n x id w (hg _ _ _ hc hb)⟩
    · exact h.elim
theorem renLK_ok (hg : ∀ b c p, g b = some c → ρ b = some p → ρ' c = some p) : ∀ {xs : List SV} {K : List SV → Prop}, renLK g xs K → ∃ ys, K ys ∧ ∀ zs, LDR ρ xs zs → LDR ρ' ys zs
  | [], K, h => ⟨[], by simpa only [renLK] using h, fun zs r => by rw [r.inv_nil]; exact .nil _⟩
  | v :: r, K, h => by
    simp only [renLK] at h
    obtain ⟨u, h1, h2⟩ := renK_ok hg h
    obtain ⟨us, h3, h4⟩ := renLK_ok hg h1
    exact ⟨u :: us, h3, fun zs q => by obtain ⟨z, zs', rfl, q1, q2⟩ := q.inv_cons; exact .cons (h2 _ q1) (h4 _ q2)⟩
end
/-- The other way. -/
theorem renK_back (hg : ∀ b c p, g b = some c → ρ' c = some p → ρ b = some p) : (∀ {v : SV} {K : SV → Prop}, renK g v K → ∃ u, K u ∧ ∀ v', DR ρ' u v' → DR ρ v v') ∧
    ∀ {xs : List SV} {K : List SV → Prop}, renLK g xs K → ∃ ys, K ys ∧ ∀ zs, LDR ρ' ys zs → LDR ρ xs zs := by
  have key : ∀ n : Nat, (∀ (v : SV) (K : SV → Prop), SizeOf.sizeOf v < n → renK g v K → ∃ u, K u ∧ ∀ v', DR ρ' u v' → DR ρ v v') ∧
      ∀ (xs : List SV) (K : List SV → Prop), SizeOf.sizeOf xs < n → renLK g xs K → ∃ ys, K ys ∧ ∀ zs, LDR ρ' ys zs → LDR ρ xs zs := by
    intro n
    induction n with
    | zero => exact ⟨fun v K h => by omega, fun v K h => by omega⟩
    | succ n ih =>
      refine ⟨fun v K hs h => ?_, fun xs K hs h => ?_⟩
      · cases v with
        | ptr b i o =>
          simp only [renK] at h
          split at h
          · rename_i c hc
            exact ⟨_, h, fun v' r => by cases r with | ptr _ _ _ id w hb => exact .ptr b i o id w (hg _ _ _ hc hb)⟩
          · exact h.elim
        | sl b s m x =>
          simp only [renK] at h
          split at h
          · rename_i c hc
            exact ⟨_, h, fun v' r => by cases r with | sl _ _ _ _ id w hb => exact .sl b s m x id w (hg _ _ _ hc hb)⟩
          · exact h.elim
        | agg xs =>
          simp only [renK] at h
          obtain ⟨ys, h1, h2⟩ := ih.2 xs _ (by simp at hs; omega) h
          exact ⟨_, h1, fun v' r => by cases r with | agg _ zs hl hr => exact .agg _ _ (h2 zs ⟨hl, hr⟩).1 (h2 zs ⟨hl, hr⟩).2⟩
        | tup xs =>
          simp only [renK] at h
          obtain ⟨ys, h1, h2⟩ := ih.2 xs _ (by simp at hs; omega) h
          exact ⟨_, h1, fun v' r => by cases r with | tup _ zs hl hr => exact .tup _ _ (h2 zs ⟨hl, hr⟩).1 (h2 zs ⟨hl, hr⟩).2⟩
        | fn f xs =>
          simp only [renK] at h
          obtain ⟨ys, h1, h2⟩ := ih.2 xs _ (by simp at hs; omega) h
          exact ⟨_, h1, fun v' r => by cases r with | fn _ _ zs hl hr => exact .fn f _ _ (h2 zs ⟨hl, hr⟩).1 (h2 zs ⟨hl, hr⟩).2⟩
        | dead => simp only [renK] at h; exact ⟨_, h, fun v' r => by cases r⟩
        | arrV e l => simp only [renK] at h; exact ⟨_, h, fun v' r => by cases r; exact .arrV e l⟩
        | opt q b m x =>
          simp only [renK] at h
          split at h
          · rename_i c hc
            exact ⟨_, h, fun v' r => by
              cases r with
              | optN _ _ _ id w hb hn hx => exact .optN b m x id w (hg _ _ _ hc hb) hn hx
              | optS _ _ _ id w hb => exact .optS b m x id w (hg _ _ _ hc hb)⟩
          · exact h.elim
        | _ => simp only [renK] at h; exact ⟨_, h, fun v' r => r.flat_any rfl _⟩
      · cases xs with
        | nil => simp only [renLK] at h; exact ⟨[], h, fun zs r => by rw [r.inv_nil]; exact .nil _⟩
        | cons v r =>
          simp only [renLK] at h
          obtain ⟨u, h1, h2⟩ := ih.1 v _ (by simp at hs; omega) h
          obtain ⟨us, h3, h4⟩ := ih.2 r _ (by simp at hs; omega) h1
          exact ⟨u :: us, h3, fun zs q => by obtain ⟨z, zs', rfl, q1, q2⟩ := q.inv_cons; exact .cons (h2 _ q1) (h4 _ q2)⟩
  exact ⟨fun h => (key _).1 _ _ (Nat.lt_succ_self _) h, fun h => (key _).2 _ _ (Nat.lt_succ_self _) h⟩
end
def renB (g : Nat → Option Nat) : SB → (SB → Prop) → Prop
  | .gone, K => K .gone
  | .arr e l sz wr, K => K (.arr e l sz wr)
  | .arrO e l sz, K => K (.arrO e l sz)
  | .box cs wr fl, K => renLK g cs fun cs' => K (.box cs' wr fl)
theorem renB_ok {g : Nat → Option Nat} {ρ ρ' : Nm} (hg : ∀ b c p, g b = some c → ρ b = some p → ρ' c = some p) {x : SB} {K : SB → Prop} (h : renB g x K) : ∃ y, K y ∧ isGone y = isGone x ∧ ∀ w k, BR ρ x w k → BR ρ' y w k := by
  cases x with
  | gone => exact ⟨_, h, rfl, fun w k r => trivial⟩
  | arr e l sz wr => exact ⟨_, h, rfl, fun w k r => ⟨r.1, r.2.1, r.2.2.1, r.2.2.2.1, ⟨r.2.2.2.2.1, fun i v v' a b => (r.2.2.2.2.2 i v v' a b).flat_any (List.all_eq_true.1 (flat_all l) v (List.mem_of_getElem? a)) _⟩⟩⟩
  | arrO e l sz => exact ⟨_, h, rfl, fun w k r => ⟨r.1, r.2.1, r.2.2.1, ⟨r.2.2.2.1, fun i v v' a b => (r.2.2.2.2 i v v' a b).flat_any (List.all_eq_true.1 (flat_all l) v (List.mem_of_getElem? a)) _⟩⟩⟩
  | box cs wr fl =>
    simp only [renB] at h
    obtain ⟨ys, h1, h2⟩ := renLK_ok hg h
    exact ⟨_, h1, rfl, fun w k r => ⟨h2 _ r.1, r.2⟩⟩

/-! ### what is told of a function -/
structure Res where
  pre : Prop
  v : SV
  S : List SB
abbrev Spec := List SV → List SB → Res
def noSpec : Res := ⟨False, .dead, []⟩
/-- f, called with these values at these rows, answers v and leaves S'. -/
def RunsS (P : Program) (f : FuncId) (args : List SV) (S : List SB) (v : SV) (S' : List SB) : Prop :=
  ∀ (H : Heap) (ρ : Nm) (args' : List Value), Den ρ S H → Dom ρ S H → LDR ρ args args' → ∃ v' H' ρ', Runs P f args' H (fun u G => u = v' ∧ G = H') ∧ DR ρ' v v' ∧ Step ρ S H ρ' S' H'
def SpecOk (P : Program) (f : FuncId) (s : Spec) : Prop := ∀ args S, (s args S).pre → RunsS P f args S (s args S).v (s args S).S
abbrev Env := List (Nat × Spec)
def EnvOk (P : Program) : Env → Prop
  | [] => True
  | p :: r => SpecOk P p.1 p.2 ∧ EnvOk P r
def lookE : Env → Nat → Option Spec
  | [], _ => none
  | p :: r, f => match Nat.beq p.1 f with | true => some p.2 | false => lookE r f
theorem lookE_ok {P : Program} : ∀ {E : Env} {f : Nat} {s : Spec}, EnvOk P E → lookE E f = some s → SpecOk P f s
  | [], f, s, _, h => by simp [lookE] at h
  | p :: r, f, s, he, h => by
    simp only [lookE] at h
    split at h
    · rename_i e
      have e : p.1 = f := by simpa using e
      obtain rfl := Option.some.inj h
      rw [← e]; exact he.1
    · exact lookE_ok he.2 h

/-- A slice that may be nil, or without a row. -/
theorem RunsS.opt {P : Program} {f : FuncId} {c : Bool} {b n x : Nat} {pre post : List SV} {S S' : List SB} {v : SV} {e : ET} {l : List e.T} {sz : Nat} (hb : S[b]? = some (.arrO e l sz)) (hb' : S'[b]? = some (.arrO e l sz)) (hn : n + x ≤ l.length)
    (h1 : n = 0 → x = 0 → l = [] → RunsS P f (pre ++ .nils :: post) (S.set b .gone) v (S'.set b .gone)) (h2 : n = 0 → x = 0 → l = [] → RunsS P f (pre ++ .sl b 0 0 0 :: post) (S.set b .gone) v (S'.set b .gone))
    (h3 : RunsS P f (pre ++ .sl b 0 n x :: post) (S.set b (.arr e l sz false)) v (S'.set b (.arr e l sz false))) (hc : c = true → l = []) : RunsS P f (pre ++ .opt c b n x :: post) S v S' := fun H ρ args' hD hd ha => by
  have conv : ∀ u : SV, (∀ a, DR ρ (.opt c b n x) a → DR ρ u a) → LDR ρ (pre ++ u :: post) args' := fun u hu => by
    refine ⟨by rw [← ha.1]; simp, fun i w w' e1 e2 => ?_⟩
    have hat := ha.2 i
    rcases Nat.lt_trichotomy i pre.length with hi | hi | hi
    · rw [List.getElem?_append_left hi] at e1 hat; exact hat _ _ e1 e2
    · subst hi
      rw [List.getElem?_append_right (Nat.le_refl _)] at e1
      simp at e1
      subst e1
      exact hu _ (hat (.opt c b n x) _ (by simp) e2)
    · rw [List.getElem?_append_right (by omega)] at e1 hat
      obtain ⟨m, hm⟩ : ∃ m, i - pre.length = m + 1 := ⟨i - pre.length - 1, by omega⟩
      rw [hm] at e1 hat
      simp only [List.getElem?_cons_succ] at e1 hat
      exact hat _ _ e1 e2
  have hi : pre.length < args'.length := by rw [← ha.1]; simp
  have hme : DR ρ (.opt c b n x) args'[pre.length] := ha.2 pre.length _ _ (by simp) (by simp [hi])
  have hlt : b < S.length := (List.getElem?_eq_some_iff.1 hb).1
  have hlt' : b < S'.length := (List.getElem?_eq_some_iff.1 hb').1
  -- the row turned to another of the same meaning, and back
  have via : ∀ (y : SB) (u : SV), (isGone y = false → isGone (.arrO e l sz) = false) → (∀ w k, isGone y = false → BR ρ (.arrO e l sz) w k → BR ρ y w k) → (∀ ρ' w k, isGone (SB.arrO e l sz) = false → BR ρ' y w k → BR ρ' (.arrO e l sz) w k) → (isGone (SB.arrO e l sz) = false → isGone y = false) →
      (∀ a, DR ρ (.opt c b n x) a → DR ρ u a) → RunsS P f (pre ++ u :: post) (S.set b y) v (S'.set b y) → ∃ v' H' ρ', Runs P f args' H (fun u G => u = v' ∧ G = H') ∧ DR ρ' v v' ∧ Step ρ S H ρ' S' H' := fun y u g1 g2 g3 g4 hu hr => by
    have hD2 : Den ρ (S.set b y) H := by
      refine ⟨fun b' x' hx' hg => ?_, hD.inj⟩
      rw [List.getElem?_set] at hx'
      split at hx'
      · rename_i eb; subst eb
        obtain rfl := Option.some.inj hx'
        obtain ⟨id, w, k, q1, q2, q3⟩ := hD.blk b _ hb (g1 hg)
        exact ⟨id, w, k, q1, q2, g2 w k hg q3⟩
      · exact hD.blk b' x' hx' hg
    obtain ⟨v', H', ρ', r1, r2, r3⟩ := hr H ρ args' hD2 (fun b id w h => by simpa using hd b id w h) (conv u hu)
    refine ⟨v', H', ρ', r1, r2, r3.le, ⟨fun b' x' hx' hg => ?_, r3.den.inj⟩, fun b id w h => by simpa using r3.dom b id w h, fun b id w h => by simpa using r3.fresh b id w h, r3.hl, by simpa using r3.sl, r3.keep⟩
    by_cases eb : b = b'
    · subst eb
      rw [hb'] at hx'
      obtain rfl := Option.some.inj hx'
      obtain ⟨id, w, k, q1, q2, q3⟩ := r3.den.blk b y (by simp [hlt']) (g4 hg)
      exact ⟨id, w, k, q1, q2, g3 ρ' w k hg q3⟩
    · exact r3.den.blk b' x' (by rw [List.getElem?_set, if_neg eb]; exact hx') hg
  generalize args'[pre.length] = a at hme
  cases hme with
  | optN _ _ _ id w hbb hn0 hx0 =>
    have hl := hc rfl
    exact via .gone .nils (fun h => by simp [isGone] at h) (fun w k h => by simp [isGone] at h) (fun _ _ _ h => by simp [isGone, hl] at h) (fun h => by simp [isGone, hl] at h) (fun a ha => by cases ha; exact .nils) (h1 hn0 hx0 hl)
  | optS _ _ _ id w hbb =>
    by_cases hl : l = []
    · have hn0 : n = 0 := by rw [hl] at hn; simp at hn; omega
      have hx0 : x = 0 := by rw [hl] at hn; simp at hn; omega
      refine via .gone (.sl b 0 0 0) (fun h => by simp [isGone] at h) (fun w k h => by simp [isGone] at h) (fun _ _ _ h => by simp [isGone, hl] at h) (fun h => by simp [isGone, hl] at h) (fun a ha => ?_) (h2 hn0 hx0 hl)
      subst hn0; subst hx0
      cases ha with | optS _ _ _ id w hb => simpa using DR.sl (ρ := ρ) b 0 0 0 id w hb
    · refine via (.arr e l sz false) (.sl b 0 n x) (fun _ => by simp [isGone, hl]) (fun w k _ r => ⟨r.1, r.2.1, fun h => by simp at h, r.2.2⟩) (fun ρ' w k _ r => ⟨r.1, r.2.1, r.2.2.2⟩) (fun _ => rfl) (fun a ha => ?_) h3
      cases ha with | optS _ _ _ id w hb => simpa using DR.sl (ρ := ρ) b 0 n x id w hb

/-! ### a call -/
def hasN : List Nat → Nat → Bool
  | [], _ => false
  | c :: r, b => match Nat.beq c b with | true => true | false => hasN r b
def addN : List Nat → Nat → List Nat
  | [], b => [b]
  | c :: r, b => match Nat.beq c b with | true => c :: r | false => c :: addN r b
mutual
def namesV : SV → List Nat → List Nat
  | .ptr b _ _, acc => addN acc b
  | .sl b _ _ _, acc => addN acc b
  | .opt _ b _ _, acc => addN acc b
  | .agg xs, acc => namesL xs acc
  | .tup xs, acc => namesL xs acc
  | .fn _ xs, acc => namesL xs acc
  | _, acc => acc
def namesL : List SV → List Nat → List Nat
  | [], acc => acc
  | v :: r, acc => namesL r (namesV v acc)
end
def closeN (S : List SB) : Nat → List Nat → Nat → List Nat
  | 0, acc, _ => acc
  | f + 1, acc, i => match getT acc i with
    | none => acc
    | some b => match getT S b with
      | some (.box cs _ _) => closeN S f (namesL cs acc) (i + 1)
      | _ => closeN S f acc (i + 1)
def nodB : List Nat → Bool
  | [] => true
  | c :: r => match hasN r c with | true => false | false => nodB r
def idxN : List Nat → List Nat → Nat → Option Nat
  | c :: ks, n :: ns, b => match Nat.beq c b with | true => some n | false => idxN ks ns b
  | _, _, _ => none
def pickK (g : Nat → Option Nat) (S : List SB) : List Nat → (List SB → Prop) → Prop
  | [], K => K []
  | b :: ks, K => match getT S b with
    | some x => renB g x fun y => pickK g S ks fun r => K (y :: r)
    | none => False
def mergeK (g : Nat → Option Nat) : List Nat → List SB → List SB → (List SB → List SB → Prop) → Prop
  | [], S', S, K => K S S'
  | b :: ks, x :: S', S, K => renB g x fun y => setK S b y fun S1 => mergeK g ks S' S1 K
  | _ :: _, [], _, _ => False
def renBs (g : Nat → Option Nat) : List SB → (List SB → Prop) → Prop
  | [], K => K []
  | x :: r, K => renB g x fun y => renBs g r fun r' => K (y :: r')
def appK {α : Type} : List α → List α → (List α → Prop) → Prop
  | [], b, K => K b
  | x :: a, b, K => appK a b fun r => K (x :: r)
def afterK : List SB → List Nat → (List Nat → Prop) → Prop
  | [], ns, K => K ns
  | _ :: S, _ :: ns, K => afterK S ns K
  | _ :: _, [], _ => False
def callK (s : Spec) (args : List SV) (S : List SB) (K : SV → List SB → Prop) : Prop :=
  forceL (closeN S 30 (namesL args []) 0) fun ks => match nodB ks with
    | false => False
    | true => renLK (idxN ks nums) args fun args' => pickK (idxN ks nums) S ks fun Sc => match s args' Sc with
      | ⟨pre, v, S'⟩ => VC pre ∧ afterK S nums fun rn => appK ks rn fun kn => renK (getT kn) v fun v' => mergeK (getT kn) ks S' S fun S1 rest => renBs (getT kn) rest fun rest' => appK S1 rest' fun S2 => K v' S2

section
variable {P : Program} {ρ ρ' : Nm} {S S' : List SB} {H H' : Heap}
theorem nodup_at {l : List Nat} (h : l.Nodup) {i j b : Nat} (e1 : l[i]? = some b) (e2 : l[j]? = some b) : i = j := by
  obtain ⟨l1, e1⟩ := List.getElem?_eq_some_iff.1 e1
  obtain ⟨l2, e2⟩ := List.getElem?_eq_some_iff.1 e2
  exact (List.getElem_inj h).1 (e1.trans e2.symm)
theorem hasN_iff : ∀ {l : List Nat} {b : Nat}, hasN l b = true ↔ b ∈ l
  | [], b => by simp [hasN]
  | c :: r, b => by
    simp only [hasN]
    split
    · rename_i e
      have : c = b := by simpa using e
      simp [this]
    · rename_i e
      have : ¬ c = b := by intro h; rw [h] at e; simp at e
      rw [hasN_iff]
      simp
      intro h; exact absurd h.symm this
theorem nodB_ok : ∀ {l : List Nat}, nodB l = true → l.Nodup
  | [], _ => .nil
  | c :: r, h => by
    simp only [nodB] at h
    split at h
    · simp at h
    · rename_i e
      rw [List.nodup_cons]
      exact ⟨fun hm => by rw [hasN_iff.2 hm] at e; simp at e, nodB_ok h⟩
theorem idxN_ok : ∀ {ks ns : List Nat} {m b j : Nat}, (∀ i n, ns[i]? = some n → n = m + i) → idxN ks ns b = some j → ∃ i, j = m + i ∧ ks[i]? = some b
  | [], ns, m, b, j, _, h => by cases ns <;> simp [idxN] at h
  | c :: ks, [], m, b, j, _, h => by simp [idxN] at h
  | c :: ks, n :: ns, m, b, j, hn, h => by
    simp only [idxN] at h
    split at h
    · rename_i e
      have e : c = b := by simpa using e
      obtain rfl := Option.some.inj h
      exact ⟨0, hn 0 n rfl, by simp [e]⟩
    · obtain ⟨i, h1, h2⟩ := idxN_ok (m := m + 1) (fun i n' hi => by have := hn (i + 1) n' (by simpa using hi); omega) h
      exact ⟨i + 1, by omega, by simpa using h2⟩
theorem appK_iff {α : Type} : ∀ {a b : List α} {K : List α → Prop}, appK a b K ↔ K (a ++ b)
  | [], b, K => by simp [appK]
  | x :: a, b, K => by simp only [appK]; rw [appK_iff]; simp
theorem afterK_ok : ∀ {S : List SB} {ns : List Nat} {K : List Nat → Prop}, afterK S ns K → K (ns.drop S.length) ∧ S.length ≤ ns.length
  | [], ns, K, h => by simpa [afterK] using h
  | x :: S, [], K, h => by simp [afterK] at h
  | x :: S, n :: ns, K, h => by
    simp only [afterK] at h
    have := afterK_ok h
    simpa using this
theorem pickK_ok {g : Nat → Option Nat} (hg : ∀ b c p, g b = some c → ρ b = some p → ρ' c = some p) : ∀ {ks : List Nat} {K : List SB → Prop}, pickK g S ks K →
    ∃ Sc, K Sc ∧ Sc.length = ks.length ∧ (∀ b ∈ ks, b < S.length) ∧ ∀ (j b : Nat) (y : SB), ks[j]? = some b → Sc[j]? = some y → ∃ x, S[b]? = some x ∧ isGone y = isGone x ∧ ∀ w k, BR ρ x w k → BR ρ' y w k
  | [], K, h => ⟨[], h, rfl, by simp, fun j b y h => by simp at h⟩
  | b :: ks, K, h => by
    simp only [pickK, getT_eq] at h
    split at h
    · rename_i x hx
      obtain ⟨y, h1, h2, h3⟩ := renB_ok hg h
      obtain ⟨Sc, g1, g2, g3, g4⟩ := pickK_ok hg h1
      refine ⟨y :: Sc, g1, by simp [g2], fun b' hb' => ?_, fun j b' y' e1 e2 => ?_⟩
      · rcases List.mem_cons.1 hb' with rfl | hb'
        · exact (List.getElem?_eq_some_iff.1 hx).1
        · exact g3 b' hb'
      · cases j with
        | zero => simp at e1 e2; subst e1; subst e2; exact ⟨x, hx, h2, h3⟩
        | succ j => exact g4 j b' y' (by simpa using e1) (by simpa using e2)
    · exact h.elim
theorem mergeK_ok {g : Nat → Option Nat} (hg : ∀ b c p, g b = some c → ρ b = some p → ρ' c = some p) : ∀ {ks : List Nat} {S' S : List SB} {K : List SB → List SB → Prop}, ks.Nodup → mergeK g ks S' S K →
    ∃ S1, K S1 (S'.drop ks.length) ∧ ks.length ≤ S'.length ∧ S1.length = S.length ∧ (∀ b, b ∉ ks → S1[b]? = S[b]?) ∧ ∀ (j b : Nat) (y : SB), ks[j]? = some b → S1[b]? = some y → ∃ x, S'[j]? = some x ∧ isGone y = isGone x ∧ ∀ w k, BR ρ x w k → BR ρ' y w k
  | [], S', S, K, _, h => ⟨S, by simpa [mergeK] using h, by simp, rfl, fun _ _ => rfl, fun j b y h => by simp at h⟩
  | b :: ks, [], S, K, _, h => by simp [mergeK] at h
  | b :: ks, x :: S', S, K, hn, h => by
    simp only [mergeK] at h
    obtain ⟨y, h1, h2, h3⟩ := renB_ok hg h
    rw [setK_iff] at h1
    rw [List.nodup_cons] at hn
    obtain ⟨S1, g1, g2, g3, g4, g5⟩ := mergeK_ok hg hn.2 h1
    refine ⟨S1, by simpa using g1, by simp; omega, by simpa using g3, fun b' hb' => ?_, fun j b' y' e1 e2 => ?_⟩
    · simp only [List.mem_cons, not_or] at hb'
      rw [g4 b' hb'.2, List.getElem?_set, if_neg (fun e => hb'.1 e.symm)]
    · cases j with
      | zero =>
        simp at e1; subst e1
        rw [g4 b hn.1, List.getElem?_set, if_pos rfl] at e2
        split at e2
        · obtain rfl := Option.some.inj e2
          exact ⟨x, by simp, h2, h3⟩
        · simp at e2
      | succ j => 
        obtain ⟨x', q1, q2⟩ := g5 j b' y' (by simpa using e1) e2
        exact ⟨x', by simpa using q1, q2⟩
theorem renBs_ok {g : Nat → Option Nat} (hg : ∀ b c p, g b = some c → ρ b = some p → ρ' c = some p) : ∀ {xs : List SB} {K : List SB → Prop}, renBs g xs K →
    ∃ ys, K ys ∧ ys.length = xs.length ∧ ∀ (j : Nat) (y : SB), ys[j]? = some y → ∃ x, xs[j]? = some x ∧ isGone y = isGone x ∧ ∀ w k, BR ρ x w k → BR ρ' y w k
  | [], K, h => ⟨[], h, rfl, fun j y h => by simp at h⟩
  | x :: r, K, h => by
    simp only [renBs] at h
    obtain ⟨y, h1, h2, h3⟩ := renB_ok hg h
    obtain ⟨ys, g1, g2, g3⟩ := renBs_ok hg h1
    refine ⟨y :: ys, g1, by simp [g2], fun j y' e => ?_⟩
    cases j with
    | zero => simp at e; subst e; exact ⟨x, by simp, h2, h3⟩
    | succ j => obtain ⟨x', q1, q2⟩ := g3 j y' (by simpa using e); exact ⟨x', by simpa using q1, q2⟩

theorem callK_ok {f : FuncId} {s : Spec} (hs : SpecOk P f s) {args : List SV} {args' : List Value} {K : SV → List SB → Prop} (hD : Den ρ S H) (hd : Dom ρ S H) (ha : LDR ρ args args') (h : callK s args S K) :
    ∃ v v' S2 H' ρ2, K v S2 ∧ Runs P f args' H (fun u G => u = v' ∧ G = H') ∧ DR ρ2 v v' ∧ Step ρ S H ρ2 S2 H' := by
  unfold callK at h
  rw [forceL_iff] at h
  generalize closeN S 30 (namesL args []) 0 = ks at h
  split at h
  · exact h.elim
  · rename_i hnod
    have hnd := nodB_ok hnod
    -- the callee's names
    let ρc : Nm := fun j => (ks[j]?).bind ρ
    have hg : ∀ b c p, idxN ks nums b = some c → ρ b = some p → ρc c = some p := fun b c p e1 e2 => by
      obtain ⟨i, rfl, hi⟩ := idxN_ok nums_at e1
      simp [ρc, hi, e2]
    obtain ⟨argsc, h, hargs⟩ := renLK_ok hg h
    obtain ⟨Sc, h, hlen, hin, hpick⟩ := pickK_ok hg h
    have hinj : ∀ i j b, ks[i]? = some b → ks[j]? = some b → i = j := fun i j b e1 e2 => nodup_at hnd e1 e2
    have ρc_at : ∀ j p, ρc j = some p → ∃ b, ks[j]? = some b ∧ ρ b = some p := fun j p e => by
      simp only [ρc] at e
      cases hb : ks[j]? with
      | none => simp [hb] at e
      | some b => exact ⟨b, rfl, by simpa [hb] using e⟩
    have hDc : Den ρc Sc H := by
      refine ⟨fun j y hy hgy => ?_, fun i j id w w' e1 e2 => ?_⟩
      · have hj : j < ks.length := by rw [← hlen]; exact (List.getElem?_eq_some_iff.1 hy).1
        obtain ⟨x, h1, h2, h3⟩ := hpick j ks[j] y (by simp [hj]) hy
        obtain ⟨id, w, k, g1, g2, g3⟩ := hD.blk _ x h1 (by rw [← h2]; exact hgy)
        exact ⟨id, w, k, by simp [ρc, hj, g1], g2, h3 w k g3⟩
      · obtain ⟨b, a1, a2⟩ := ρc_at _ _ e1
        obtain ⟨b', b1, b2⟩ := ρc_at _ _ e2
        have := hD.inj _ _ _ _ _ a2 b2
        subst this
        exact hinj i j b a1 b1
    have hdc : Dom ρc Sc H := fun j id w e => by
      obtain ⟨b, a1, a2⟩ := ρc_at _ _ e
      exact ⟨by rw [hlen]; exact (List.getElem?_eq_some_iff.1 a1).1, (hd b id w a2).2⟩
    have hrun := hs argsc Sc
    cases hres : s argsc Sc with | mk pre v S' =>
    rw [hres] at h hrun
    obtain ⟨hpre, h⟩ := h
    obtain ⟨v', H', ρc', r1, r2, r3⟩ := hrun hpre.h H ρc args' hDc hdc (hargs _ ha)
    simp only at r2 r3
    obtain ⟨h, hnl⟩ := afterK_ok h
    rw [appK_iff] at h
    -- the caller's names behind the call
    let ρ2 : Nm := fun b => if b < S.length then ρ b else ρc' (ks.length + (b - S.length))
    have hle : NLe ρ ρ2 := fun b p e => by
      have := (hd b p.1 p.2 e).1
      simp [ρ2, this, e]
    have hold : ∀ j, j < ks.length → ∀ p, ρc' j = some p → ρc j = some p := fun j hj p e => by
      rcases r3.fresh j p.1 p.2 e with e | ⟨e, _⟩
      · exact e
      · omega
    have hback : ∀ j c p, getT (ks ++ nums.drop S.length) j = some c → ρc' j = some p → ρ2 c = some p := fun j c p e1 e2 => by
      rw [getT_eq] at e1
      by_cases hj : j < ks.length
      · rw [List.getElem?_append_left hj] at e1
        obtain ⟨b, a1, a2⟩ := ρc_at _ _ (hold j hj p e2)
        rw [a1] at e1; obtain rfl := Option.some.inj e1
        exact hle _ _ a2
      · rw [List.getElem?_append_right (by omega), List.getElem?_drop] at e1
        have := nums_at _ _ e1
        have hc : c = S.length + (j - ks.length) := by omega
        subst hc
        simp only [ρ2]
        rw [if_neg (by omega), show ks.length + (S.length + (j - ks.length) - S.length) = j by omega]
        exact e2
    obtain ⟨u, h, hu⟩ := renK_ok hback h
    obtain ⟨S1, h, hl1, hl2, hother, hmine⟩ := mergeK_ok hback hnd h
    obtain ⟨rest', h, hl3, hrest⟩ := renBs_ok hback h
    rw [appK_iff] at h
    refine ⟨u, v', S1 ++ rest', H', ρ2, h, r1, hu _ r2, hle, ⟨fun b y hy hgy => ?_, fun b b' id w w' e1 e2 => ?_⟩, fun b id w e => ?_, fun b id w e => ?_, r3.hl, by simp; omega, fun id hid hn => ?_⟩
    · -- rows
      by_cases hb : b < S.length
      · rw [List.getElem?_append_left (by omega)] at hy
        by_cases hk : b ∈ ks
        · obtain ⟨j, hj, hjb⟩ := List.getElem_of_mem hk
          have hjb' : ks[j]? = some b := by simp [hj, hjb]
          obtain ⟨x, a1, a2, a3⟩ := hmine j b y hjb' hy
          obtain ⟨id, w, k, b1, b2, b3⟩ := r3.den.blk j x a1 (by rw [← a2]; exact hgy)
          obtain ⟨b', c1, c2⟩ := ρc_at _ _ (hold j hj _ b1)
          rw [hjb'] at c1; obtain rfl := Option.some.inj c1
          exact ⟨id, w, k, hle _ _ c2, b2, a3 w k b3⟩
        · rw [hother b hk] at hy
          obtain ⟨id, w, k, b1, b2, b3⟩ := hD.blk b y hy hgy
          refine ⟨id, w, k, hle _ _ b1, ?_, b3.mono hle⟩
          rw [getB_eq] at b2 ⊢
          rw [r3.keep id (hd b id w b1).2 fun j w' e => ?_]
          · exact b2
          · obtain ⟨b', c1, c2⟩ := ρc_at _ _ e
            have := hD.inj _ _ _ _ _ b1 c2
            subst this
            exact hk (List.mem_of_getElem? c1)
      · rw [List.getElem?_append_right (by omega)] at hy
        obtain ⟨x, a1, a2, a3⟩ := hrest _ y hy
        rw [List.getElem?_drop] at a1
        obtain ⟨id, w, k, b1, b2, b3⟩ := r3.den.blk _ x a1 (by rw [← a2]; exact hgy)
        refine ⟨id, w, k, ?_, b2, a3 w k b3⟩
        simp only [ρ2]
        rw [if_neg hb, ← hl2]; exact b1
    · -- one name a row
      simp only [ρ2] at e1 e2
      have mixed : ∀ a c w1 w2, a < S.length → ρ a = some (id, w1) → ρc' (ks.length + c) = some (id, w2) → False := fun a c w1 w2 ha h1 h2 => by
        rcases r3.fresh _ _ _ h2 with h3 | ⟨_, h3⟩
        · obtain ⟨b, c1, _⟩ := ρc_at _ _ h3
          have := (List.getElem?_eq_some_iff.1 c1).1; omega
        · have := (hd a id w1 h1).2; omega
      split at e1 <;> split at e2
      · exact hD.inj _ _ _ _ _ e1 e2
      · exact (mixed _ _ _ _ (by assumption) e1 e2).elim
      · exact (mixed _ _ _ _ (by assumption) e2 e1).elim
      · have := r3.den.inj _ _ _ _ _ e1 e2; omega
    · simp only [ρ2] at e
      split at e
      · have := hd b id w e; have := r3.hl; simp; omega
      · have := r3.dom _ _ _ e; simp only [List.length_append, hl3, List.length_drop]; omega
    · simp only [ρ2] at e
      split at e
      · exact .inl e
      · rcases r3.fresh _ _ _ e with h3 | ⟨_, h3⟩
        · obtain ⟨b', c1, _⟩ := ρc_at _ _ h3
          have := (List.getElem?_eq_some_iff.1 c1).1; omega
        · exact .inr ⟨by omega, h3⟩
    · exact r3.keep id hid fun j w e => by
        obtain ⟨b, c1, c2⟩ := ρc_at _ _ e
        exact hn b w c2
end
end Go.Proofs.Ytabmmdfhhpajgaa.Eng
