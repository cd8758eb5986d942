/- A text of this claim (SB): lemmas for the proof, no conditions of their own. -/
import Derived.Test.YtbmejhabgoimeaaSA
set_option linter.unusedVariables false
set_option linter.unusedSimpArgs false
namespace Go.Proofs.Ytbmejhabgoimeaa.Eng
open Go Go.RowKit

/-! ### names turned -/
mutual
def renK (g : Nat → Option Nat) : SV → (SV → Prop) → Prop
  | .ptr b i o, K => match g b with | some c => K (.ptr c i o) | none => False
  | .sl b s n x, K => match g b with | some c => K (.sl c s n x) | none => False
  | .agg xs, K => renLK g xs fun ys => K (.agg ys)
  | .tup xs, K => renLK g xs fun ys => K (.tup ys)
  | .fn f xs, K => renLK g xs fun ys => K (.fn f ys)
  | .bool b, K => K (.bool b)
  | .int k n, K => K (.int k n)
  | .str s, K => K (.str s)
  | .nilp, K => K .nilp
  | .nils, K => K .nils
  | .nilf, K => K .nilf
  | .nili, K => K .nili
  | .dead, K => K .dead
  | .arrV e l, K => K (.arrV e l)
  | .opt q b n x, K => match g b with | some c => K (.opt q c n x) | none => False
def renLK (g : Nat → Option Nat) : List SV → (List SV → Prop) → Prop
  | [], K => K []
  | v :: r, K => renK g v fun v' => renLK g r fun r' => K (v' :: r')
end
section
variable {g : Nat → Option Nat} {ρ ρ' : Nm}
mutual
theorem renK_ok (hg : ∀ b c p, g b = some c → ρ b = some p → ρ' c = some p) : ∀ {v : SV} {K : SV → Prop}, renK g v K → ∃ u, K u ∧ ∀ v', DR ρ v v' → DR ρ' u v'
  | .ptr b i o, K, h => by
    simp only [renK] at h
    split at h
    · rename_i c hc
      exact ⟨_, h, fun v' r => by cases r with | ptr _ _ _ id w hb => exact .ptr c i o id w (hg _ _ _ hc hb)⟩
    · exact h.elim
  | .sl b s n x, K, h => by
    simp only [renK] at h
    split at h
    · rename_i c hc
      exact ⟨_, h, fun v' r => by cases r with | sl _ _ _ _ id w hb => exact .sl c s n x id w (hg _ _ _ hc hb)⟩
    · exact h.elim
  | .agg xs, K, h => by
    simp only [renK] at h
    obtain ⟨ys, h1, h2⟩ := renLK_ok hg h
    exact ⟨_, h1, fun v' r => by cases r with | agg _ zs hl hr => exact .agg _ _ (h2 zs ⟨hl, hr⟩).1 (h2 zs ⟨hl, hr⟩).2⟩
  | .tup xs, K, h => by
    simp only [renK] at h
    obtain ⟨ys, h1, h2⟩ := renLK_ok hg h
    exact ⟨_, h1, fun v' r => by cases r with | tup _ zs hl hr => exact .tup _ _ (h2 zs ⟨hl, hr⟩).1 (h2 zs ⟨hl, hr⟩).2⟩
  | .fn f xs, K, h => by
    simp only [renK] at h
    obtain ⟨ys, h1, h2⟩ := renLK_ok hg h
    exact ⟨_, h1, fun v' r => by cases r with | fn _ _ zs hl hr => exact .fn f _ _ (h2 zs ⟨hl, hr⟩).1 (h2 zs ⟨hl, hr⟩).2⟩
  | .bool b, K, h => ⟨_, by simpa only [renK] using h, fun v' r => r.flat_any rfl _⟩
  | .int k n, K, h => ⟨_, by simpa only [renK] using h, fun v' r => r.flat_any rfl _⟩
  | .str s, K, h => ⟨_, by simpa only [renK] using h, fun v' r => r.flat_any rfl _⟩
  | .nilp, K, h => ⟨_, by simpa only [renK] using h, fun v' r => r.flat_any rfl _⟩
  | .nils, K, h => ⟨_, by simpa only [renK] using h, fun v' r => r.flat_any rfl _⟩
  | .nilf, K, h => ⟨_, by simpa only [renK] using h, fun v' r => r.flat_any rfl _⟩
  | .nili, K, h => ⟨_, by simpa only [renK] using h, fun v' r => r.flat_any rfl _⟩
  | .dead, K, h => ⟨_, by simpa only [renK] using h, fun v' r => by cases r⟩
  | .arrV e l, K, h => ⟨_, by simpa only [renK] using h, fun v' r => by cases r; exact .arrV e l⟩
  | .opt q b n x, K, h => by
    simp only [renK] at h
    split at h
    · rename_i c hc
      exact ⟨_, h, fun v' r => by
        cases r with
        | optN _ _ _ id w hb hn hx => exact .optN c n x id w (hg _ _ _ hc hb) hn hx
        | optS _ _ _ id w hb => exact .optS c n x id w (hg _ _ _ hc hb)⟩
    · exact h.elim
theorem renLK_ok (hg : ∀ b c p, g b = some c → ρ b = some p → ρ' c = some p) : ∀ {xs : List SV} {K : List SV → Prop}, renLK g xs K → ∃ ys, K ys ∧ ∀ zs, LDR ρ xs zs → LDR ρ' ys zs
  | [], K, h => ⟨[], by simpa only [renLK] using h, fun zs r => by rw [r.inv_nil]; exact .nil _⟩
  | v :: r, K, h => by
    simp only [renLK] at h
    obtain ⟨u, h1, h2⟩ := renK_ok hg h
    obtain ⟨us, h3, h4⟩ := renLK_ok hg h1
    exact ⟨u :: us, h3, fun zs q => by obtain ⟨z, zs', rfl, q1, q2⟩ := q.inv_cons; exact .cons (h2 _ q1) (h4 _ q2)⟩
end
/-- The other way. -/
theorem renK_back (hg : ∀ b c p, g b = some c → ρ' c = some p → ρ b = some p) : (∀ {v : SV} {K : SV → Prop}, renK g v K → ∃ u, K u ∧ ∀ v', DR ρ' u v' → DR ρ v v') ∧
    ∀ {xs : List SV} {K : List SV → Prop}, renLK g xs K → ∃ ys, K ys ∧ ∀ zs, LDR ρ' ys zs → LDR ρ xs zs := by
  have key : ∀ n : Nat, (∀ (v : SV) (K : SV → Prop), SizeOf.sizeOf v < n → renK g v K → ∃ u, K u ∧ ∀ v', DR ρ' u v' → DR ρ v v') ∧
      ∀ (xs : List SV) (K : List SV → Prop), SizeOf.sizeOf xs < n → renLK g xs K → ∃ ys, K ys ∧ ∀ zs, LDR ρ' ys zs → LDR ρ xs zs := by
    intro n
    induction n with
    | zero => exact ⟨fun v K h => by omega, fun v K h => by omega⟩
    | succ n ih =>
      refine ⟨fun v K hs h => ?_, fun xs K hs h => ?_⟩
      · cases v with
        | ptr b i o =>
          simp only [renK] at h
          split at h
          · rename_i c hc
            exact ⟨_, h, fun v' r => by cases r with | ptr _ _ _ id w hb => exact .ptr b i o id w (hg _ _ _ hc hb)⟩
          · exact h.elim
        | sl b s m x =>
          simp only [renK] at h
          split at h
          · rename_i c hc
            exact ⟨_, h, fun v' r => by cases r with | sl _ _ _ _ id w hb => exact .sl b s m x id w (hg _ _ _ hc hb)⟩
          · exact h.elim
        | agg xs =>
          simp only [renK] at h
          obtain ⟨ys, h1, h2⟩ := ih.2 xs _ (by simp at hs; omega) h
          exact ⟨_, h1, fun v' r => by cases r with | agg _ zs hl hr => exact .agg _ _ (h2 zs ⟨hl, hr⟩).1 (h2 zs ⟨hl, hr⟩).2⟩
        | tup xs =>
          simp only [renK] at h
          obtain ⟨ys, h1, h2⟩ := ih.2 xs _ (by simp at hs; omega) h
          exact ⟨_, h1, fun v' r => by cases r with | tup _ zs hl hr => exact .tup _ _ (h2 zs ⟨hl, hr⟩).1 (h2 zs ⟨hl, hr⟩).2⟩
        | fn f xs =>
          simp only [renK] at h
          obtain ⟨ys, h1, h2⟩ := ih.2 xs _ (by simp at hs; omega) h
          exact ⟨_, h1, fun v' r => by cases r with | fn _ _ zs hl hr => exact .fn f _ _ (h2 zs ⟨hl, hr⟩).1 (h2 zs ⟨hl, hr⟩).2⟩
        | dead => simp only [renK] at h; exact ⟨_, h, fun v' r => by cases r⟩
        | arrV e l => simp only [renK] at h; exact ⟨_, h, fun v' r => by cases r; exact .arrV e l⟩
        | opt q b m x =>
          simp only [renK] at h
          split at h
          · rename_i c hc
            exact ⟨_, h, fun v' r => by
              cases r with
              | optN _ _ _ id w hb hn hx => exact .optN b m x id w (hg _ _ _ hc hb) hn hx
              | optS _ _ _ id w hb => exact .optS b m x id w (hg _ _ _ hc hb)⟩
          · exact h.elim
        | _ => simp only [renK] at h; exact ⟨_, h, fun v' r => r.flat_any rfl _⟩
      · cases xs with
        | nil => simp only [renLK] at h; exact ⟨[], h, fun zs r => by rw [r.inv_nil]; exact .nil _⟩
        | cons v r =>
          simp only [renLK] at h
          obtain ⟨u, h1, h2⟩ := ih.1 v _ (by simp at hs; omega) h
          obtain ⟨us, h3, h4⟩ := ih.2 r _ (by simp at hs; omega) h1
          exact ⟨u :: us, h3, fun zs q => by obtain ⟨z, zs', rfl, q1, q2⟩ := q.inv_cons; exact .cons (h2 _ q1) (h4 _ q2)⟩
  exact ⟨fun h => (key _).1 _ _ (Nat.lt_succ_self _) h, fun h => (key _).2 _ _ (Nat.lt_succ_self _) h⟩
end
def renB (g : Nat → Option Nat) : SB → (SB → Prop) → Prop
  | .gone, K => K .gone
  | .arr e l sz wr, K => K (.arr e l sz wr)
  | .arrO e l sz, K => K (.arrO e l sz)
  | .box cs wr fl, K => renLK g cs fun cs' => K (.box cs' wr fl)
theorem renB_ok {g : Nat → Option Nat} {ρ ρ' : Nm} (hg : ∀ b c p, g b = some c → ρ b = some p → ρ' c = some p) {x : SB} {K : SB → Prop} (h : renB g x K) : ∃ y, K y ∧ isGone y = isGone x ∧ ∀ w k, BR ρ x w k → BR ρ' y w k := by
  cases x with
  | gone => exact ⟨_, h, rfl, fun w k r => trivial⟩
  | arr e l sz wr => exact ⟨_, h, rfl, fun w k r => ⟨r.1, r.2.1, r.2.2.1, r.2.2.2.1, ⟨r.2.2.2.2.1, fun i v v' a b => (r.2.2.2.2.2 i v v' a b).flat_any (List.all_eq_true.1 (flat_all l) v (List.mem_of_getElem? a)) _⟩⟩⟩
  | arrO e l sz => exact ⟨_, h, rfl, fun w k r => ⟨r.1, r.2.1, r.2.2.1, ⟨r.2.2.2.1, fun i v v' a b => (r.2.2.2.2 i v v' a b).flat_any (List.all_eq_true.1 (flat_all l) v (List.mem_of_getElem? a)) _⟩⟩⟩
  | box cs wr fl =>
    simp only [renB] at h
    obtain ⟨ys, h1, h2⟩ := renLK_ok hg h
    exact ⟨_, h1, rfl, fun w k r => ⟨h2 _ r.1, r.2⟩⟩

/-! ### what is told of a function -/
structure Res where
  pre : Prop
  v : SV
  S : List SB
abbrev Spec := List SV → List SB → Res
def noSpec : Res := ⟨False, .dead, []⟩
/-- f, called with these values at these rows, answers v and leaves S'. -/
def RunsS (P : Program) (f : FuncId) (args : List SV) (S : List SB) (v : SV) (S' : List SB) : Prop :=
  ∀ (H : Heap) (ρ : Nm) (args' : List Value), Den ρ S H → Dom ρ S H → LDR ρ args args' → ∃ v' H' ρ', Runs P f args' H (fun u G => u = v' ∧ G = H') ∧ DR ρ' v v' ∧ Step ρ S H ρ' S' H'
def SpecOk (P : Program) (f : FuncId) (s : Spec) : Prop := ∀ args S, (s args S).pre → RunsS P f args S (s args S).v (s args S).S
abbrev Env := List (Nat × Spec)
def EnvOk (P : Program) : Env → Prop
  | [] => True
  | p :: r => SpecOk P p.1 p.2 ∧ EnvOk P r
def lookE : Env → Nat → Option Spec
  | [], _ => none
  | p :: r, f => match Nat.beq p.1 f with | true => some p.2 | false => lookE r f
theorem lookE_ok {P : Program} : ∀ {E : Env} {f : Nat} {s : Spec}, EnvOk P E → lookE E f = some s → SpecOk P f s
  | [], f, s, _, h => by simp [lookE] at h
  | p :: r, f, s, he, h => by
    simp only [lookE] at h
    split at h
    · rename_i e
      have e : p.1 = f := by simpa using e
      obtain rfl := Option.some.inj h
      rw [← e]; exact he.1
    · exact lookE_ok he.2 h

/-- A slice that may be nil, or without a row. -/
theorem RunsS.opt {P : Program} {f : FuncId} {c : Bool} {b n x : Nat} {pre post : List SV} {S S' : List SB} {v : SV} {e : ET} {l : List e.T} {sz : Nat} (hb : S[b]? = some (.arrO e l sz)) (hb' : S'[b]? = some (.arrO e l sz)) (hn : n + x ≤ l.length)
    (h1 : n = 0 → x = 0 → l = [] → RunsS P f (pre ++ .nils :: post) (S.set b .gone) v (S'.set b .gone)) (h2 : n = 0 → x = 0 → l = [] → RunsS P f (pre ++ .sl b 0 0 0 :: post) (S.set b .gone) v (S'.set b .gone))
    (h3 : RunsS P f (pre ++ .sl b 0 n x :: post) (S.set b (.arr e l sz false)) v (S'.set b (.arr e l sz false))) (hc : c = true → l = []) : RunsS P f (pre ++ .opt c b n x :: post) S v S' := fun H ρ args' hD hd ha => by
  have conv : ∀ u : SV, (∀ a, DR ρ (.opt c b n x) a → DR ρ u a) → LDR ρ (pre ++ u :: post) args' := fun u hu => by
    refine ⟨by rw [← ha.1]; simp, fun i w w' e1 e2 => ?_⟩
    have hat := ha.2 i
    rcases Nat.lt_trichotomy i pre.length with hi | hi | hi
    · rw [List.getElem?_append_left hi] at e1 hat; exact hat _ _ e1 e2
    · subst hi
      rw [List.getElem?_append_right (Nat.le_refl _)] at e1
      simp at e1
      subst e1
      exact hu _ (hat (.opt c b n x) _ (by simp) e2)
    · rw [List.getElem?_append_right (by omega)] at e1 hat
      obtain ⟨m, hm⟩ : ∃ m, i - pre.length = m + 1 := ⟨i - pre.length - 1, by omega⟩
      rw [hm] at e1 hat
      simp only [List.getElem?_cons_succ] at e1 hat
      exact hat _ _ e1 e2
  have hi : pre.length < args'.length := by rw [← ha.1]; simp
  have hme : DR ρ (.opt c b n x) args'[pre.length] := ha.2 pre.length _ _ (by simp) (by simp [hi])
  have hlt : b < S.length := (List.getElem?_eq_some_iff.1 hb).1
  have hlt' : b < S'.length := (List.getElem?_eq_some_iff.1 hb').1
  -- the row turned to another of the same meaning, and back
  have via : ∀ (y : SB) (u : SV), (isGone y = false → isGone (.arrO e l sz) = false) → (∀ w k, isGone y = false → BR ρ (.arrO e l sz) w k → BR ρ y w k) → (∀ ρ' w k, isGone (SB.arrO e l sz) = false → BR ρ' y w k → BR ρ' (.arrO e l sz) w k) → (isGone (SB.arrO e l sz) = false → isGone y = false) →
      (∀ a, DR ρ (.opt c b n x) a → DR ρ u a) → RunsS P f (pre ++ u :: post) (S.set b y) v (S'.set b y) → ∃ v' H' ρ', Runs P f args' H (fun u G => u = v' ∧ G = H') ∧ DR ρ' v v' ∧ Step ρ S H ρ' S' H' := fun y u g1 g2 g3 g4 hu hr => by
    have hD2 : Den ρ (S.set b y) H := by
      refine ⟨fun b' x' hx' hg => ?_, hD.inj⟩
      rw [List.getElem?_set] at hx'
      split at hx'
      · rename_i eb; subst eb
        obtain rfl := Option.some.inj hx'
        obtain ⟨id, w, k, q1, q2, q3⟩ := hD.blk b _ hb (g1 hg)
        exact ⟨id, w, k, q1, q2, g2 w k hg q3⟩
      · exact hD.blk b' x' hx' hg
    obtain ⟨v', H', ρ', r1, r2, r3⟩ := hr H ρ args' hD2 (fun b id w h => by simpa using hd b id w h) (conv u hu)
    refine ⟨v', H', ρ', r1, r2, r3.le, ⟨fun b' x' hx' hg => ?_, r3.den.inj⟩, fun b id w h => by simpa using r3.dom b id w h, fun b id w h => by simpa using r3.fresh b id w h, r3.hl, by simpa using r3.sl, r3.keep⟩
    by_cases eb : b = b'
    · subst eb
      rw [hb'] at hx'
      obtain rfl := Option.some.inj hx'
      obtain ⟨id, w, k, q1, q2, q3⟩ := r3.den.blk b y (by simp [hlt']) (g4 hg)
      exact ⟨id, w, k, q1, q2, g3 ρ' w k hg q3⟩
    · exact r3.den.blk b' x' (by rw [List.getElem?_set, if_neg eb]; exact hx') hg
  generalize args'[pre.length] = a at hme
  cases hme with
  | optN _ _ _ id w hbb hn0 hx0 =>
    have hl := hc rfl
    exact via .gone .nils (fun h => by simp [isGone] at h) (fun w k h => by simp [isGone] at h) (fun _ _ _ h => by simp [isGone, hl] at h) (fun h => by simp [isGone, hl] at h) (fun a ha => by cases ha; exact .nils) (h1 hn0 hx0 hl)
  | optS _ _ _ id w hbb =>
    by_cases hl : l = []
    · have hn0 : n = 0 := by rw [hl] at hn; simp at hn; omega
      have hx0 : x = 0 := by rw [hl] at hn; simp at hn; omega
      refine via .gone (.sl b 0 0 0) (fun h => by simp [isGone] at h) (fun w k h => by simp [isGone] at h) (fun _ _ _ h => by simp [isGone, hl] at h) (fun h => by simp [isGone, hl] at h) (fun a ha => ?_) (h2 hn0 hx0 hl)
      subst hn0; subst hx0
      cases ha with | optS _ _ _ id w hb => simpa using DR.sl (ρ := ρ) b 0 0 0 id w hb
    · refine via (.arr e l sz false) (.sl b 0 n x) (fun _ => by simp [isGone, hl]) (fun w k _ r => ⟨r.1, r.2.1, fun h => by simp at h, r.2.2⟩) (fun ρ' w k _ r => ⟨r.1, r.2.1, r.2.2.2⟩) (fun _ => rfl) (fun a ha => ?_) h3
      cases ha with | optS _ _ _ id w hb => simpa using DR.sl (ρ := ρ) b 0 n x id w hb

/-! ### a call -/
def hasN : List Nat → Nat → Bool
  | [], _ => false
  | c :: r, b => match Nat.beq c b with | true => true | false => hasN r b
def addN : List Nat → Nat → List Nat
  | [], b => [b]
  | c :: r, b => match Nat.beq c b with | true => c :: r | false => c :: addN r b
mutual
def namesV : SV → List Nat → List Nat
  | .ptr b _ _, acc => addN acc b
  | .sl b _ _ _, acc => addN acc b
  | .opt _ b _ _, acc => addN acc b
  | .agg xs, acc => namesL xs acc
  | .tup xs, acc => namesL xs acc
  | .fn _ xs, acc => namesL xs acc
  | _, acc => acc
def namesL : List SV → List Nat → List Nat
  | [], acc => acc
  | v :: r, acc => namesL r (namesV v acc)
end
def closeN (S : List SB) : Nat → List Nat → Nat → List Nat
  | 0, acc, _ => acc
  | f + 1, acc, i => match getT acc i with
    | none => acc
    | some b => match getT S b with
      | some (.box cs _ _) => closeN S f (namesL cs acc) (i + 1)
      | _ => closeN S f acc (i + 1)
def nodB : List Nat → Bool
  | [] => true
  | c :: r => match hasN r c with | true => false | false => nodB r
def idxN : List Nat → List Nat → Nat → Option Nat
  | c :: ks, n :: ns, b => match Nat.beq c b with | true => some n | false => idxN ks ns b
  | _, _, _ => none
def pickK (g : Nat → Option Nat) (S : List SB) : List Nat → (List SB → Prop) → Prop
  | [], K => K []
  | b :: ks, K => match getT S b with
    | some x => renB g x fun y => pickK g S ks fun r => K (y :: r)
    | none => False
def mergeK (g : Nat → Option Nat) : List Nat → List SB → List SB → (List SB → List SB → Prop) → Prop
  | [], S', S, K => K S S'
  | b :: ks, x :: S', S, K => renB g x fun y => setK S b y fun S1 => mergeK g ks S' S1 K
  | _ :: _, [], _, _ => False
def renBs (g : Nat → Option Nat) : List SB → (List SB → Prop) → Prop
  | [], K => K []
  | x :: r, K => renB g x fun y => renBs g r fun r' => K (y :: r')
def appK {α : Type} : List α → List α → (List α → Prop) → Prop
  | [], b, K => K b
  | x :: a, b, K => appK a b fun r => K (x :: r)
def afterK : List SB → List Nat → (List Nat → Prop) → Prop
  | [], ns, K => K ns
  | _ :: S, _ :: ns, K => afterK S ns K
  | _ :: _, [], _ => False
def callK (s : Spec) (args : List SV) (S : List SB) (K : SV → List SB → Prop) : Prop :=
  forceL (closeN S 30 (namesL args []) 0) fun ks => match nodB ks with
    | false => False
    | true => renLK (idxN ks nums) args fun args' => pickK (idxN ks nums) S ks fun Sc => match s args' Sc with
      | ⟨pre, v, S'⟩ => VC pre ∧ afterK S nums fun rn => appK ks rn fun kn => renK (getT kn) v fun v' => mergeK (getT kn) ks S' S fun S1 rest => renBs (getT kn) rest fun rest' => appK S1 rest' fun S2 => K v' S2

section
variable {P : Program} {ρ ρ' : Nm} {S S' : List SB} {H H' : Heap}
theorem nodup_at {l : List Nat} (h : l.Nodup) {i j b : Nat} (e1 : l[i]? = some b) (e2 : l[j]? = some b) : i = j := by
  obtain ⟨l1, e1⟩ := List.getElem?_eq_some_iff.1 e1
  obtain ⟨l2, e2⟩ := List.getElem?_eq_some_iff.1 e2
  exact (List.getElem_inj h).1 (e1.trans e2.symm)
theorem hasN_iff : ∀ {l : List Nat} {b : Nat}, hasN l b = true ↔ b ∈ l
  | [], b => by simp [hasN]
  | c :: r, b => by
    simp only [hasN]
    split
    · rename_i e
      have : c = b := by simpa using e
      simp [this]
    · rename_i e
      have : ¬ c = b := by intro h; rw [h] at e; simp at e
      rw [hasN_iff]
      simp
      intro h; exact absurd h.symm this
theorem nodB_ok : ∀ {l : List Nat}, nodB l = true → l.Nodup
  | [], _ => .nil
  | c :: r, h => by
    simp only [nodB] at h
    split at h
    · simp at h
    · rename_i e
      rw [List.nodup_cons]
      exact ⟨fun hm => by rw [hasN_iff.2 hm] at e; simp at e, nodB_ok h⟩
theorem idxN_ok : ∀ {ks ns : List Nat} {m b j : Nat}, (∀ i n, ns[i]? = some n → n = m + i) → idxN ks ns b = some j → ∃ i, j = m + i ∧ ks[i]? = some b
  | [], ns, m, b, j, _, h => by cases ns <;> simp [idxN] at h
  | c :: ks, [], m, b, j, _, h => by simp [idxN] at h
  | c :: ks, n :: ns, m, b, j, hn, h => by
    simp only [idxN] at h
    split at h
    · rename_i e
      have e : c = b := by simpa using e
      obtain rfl := Option.some.inj h
      exact ⟨0, hn 0 n rfl, by simp [e]⟩
    · obtain ⟨i, h1, h2⟩ := idxN_ok (m := m + 1) (fun i n' hi => by have := hn (i + 1) n' (by simpa using hi); omega) h
      exact ⟨i + 1, by omega, by simpa using h2⟩
theorem appK_iff {α : Type} : ∀ {a b : List α} {K : List α → Prop}, appK a b K ↔ K (a ++ b)
  | [], b, K => by simp [appK]
  | x :: a, b, K => by simp only [appK]; rw [appK_iff]; simp
theorem afterK_ok : ∀ {S : List SB} {ns : List Nat} {K : List Nat → Prop}, afterK S ns K → K (ns.drop S.length) ∧ S.length ≤ ns.length
  | [], ns, K, h => by simpa [afterK] using h
  | x :: S, [], K, h => by simp [afterK] at h
  | x :: S, n :: ns, K, h => by
    simp only [afterK] at h
    have := afterK_ok h
    simpa using this
theorem pickK_ok {g : Nat → Option Nat} (hg : ∀ b c p, g b = some c → ρ b = some p → ρ' c = some p) : ∀ {ks : List Nat} {K : List SB → Prop}, pickK g S ks K →
    ∃ Sc, K Sc ∧ Sc.length = ks.length ∧ (∀ b ∈ ks, b < S.length) ∧ ∀ (j b : Nat) (y : SB), ks[j]? = some b → Sc[j]? = some y → ∃ x, S[b]? = some x ∧ isGone y = isGone x ∧ ∀ w k, BR ρ x w k → BR ρ' y w k
  | [], K, h => ⟨[], h, rfl, by simp, fun j b y h => by simp at h⟩
  | b :: ks, K, h => by
    simp only [pickK, getT_eq] at h
    split at h
    · rename_i x hx
      obtain ⟨y, h1, h2, h3⟩ := renB_ok hg h
      obtain ⟨Sc, g1, g2, g3, g4⟩ := pickK_ok hg h1
      refine ⟨y :: Sc, g1, by simp [g2], fun b' hb' => ?_, fun j b' y' e1 e2 => ?_⟩
      · rcases List.mem_cons.1 hb' with rfl | hb'
        · exact (List.getElem?_eq_some_iff.1 hx).1
        · exact g3 b' hb'
      · cases j with
        | zero => simp at e1 e2; subst e1; subst e2; exact ⟨x, hx, h2, h3⟩
        | succ j => exact g4 j b' y' (by simpa using e1) (by simpa using e2)
    · exact h.elim
theorem mergeK_ok {g : Nat → Option Nat} (hg : ∀ b c p, g b = some c → ρ b = some p → ρ' c = some p) : ∀ {ks : List Nat} {S' S : List SB} {K : List SB → List SB → Prop}, ks.Nodup → mergeK g ks S' S K →
    ∃ S1, K S1 (S'.drop ks.length) ∧ ks.length ≤ S'.length ∧ S1.length = S.length ∧ (∀ b, b ∉ ks → S1[b]? = S[b]?) ∧ ∀ (j b : Nat) (y : SB), ks[j]? = some b → S1[b]? = some y → ∃ x, S'[j]? = some x ∧ isGone y = isGone x ∧ ∀ w k, BR ρ x w k → BR ρ' y w k
  | [], S', S, K, _, h => ⟨S, by simpa [mergeK] using h, by simp, rfl, fun _ _ => rfl, fun j b y h => by simp at h⟩
  | b :: ks, [], S, K, _, h => by simp [mergeK] at h
  | b :: ks, x :: S', S, K, hn, h => by
    simp only [mergeK] at h
    obtain ⟨y, h1, h2, h3⟩ := renB_ok hg h
    rw [setK_iff] at h1
    rw [List.nodup_cons] at hn
    obtain ⟨S1, g1, g2, g3, g4, g5⟩ := mergeK_ok hg hn.2 h1
    refine ⟨S1, by simpa using g1, by simp; omega, by simpa using g3, fun b' hb' => ?_, fun j b' y' e1 e2 => ?_⟩
    · simp only [List.mem_cons, not_or] at hb'
      rw [g4 b' hb'.2, List.getElem?_set, if_neg (fun e => hb'.1 e.symm)]
    · cases j with
      | zero =>
        simp at e1; subst e1
        rw [g4 b hn.1, List.getElem?_set, if_pos rfl] at e2
        split at e2
        · obtain rfl := Option.some.inj e2
          exact ⟨x, by simp, h2, h3⟩
        · simp at e2
      | succ j => 
        obtain ⟨x', q1, q2⟩ := g5 j b' y' (by simpa using e1) e2
        exact ⟨x', by simpa using q1, q2⟩
theorem renBs_ok {g : Nat → Option Nat} (hg : ∀ b c p, g b = some c → ρ b = some p → ρ' c = some p) : ∀ {xs : List SB} {K : List SB → Prop}, renBs g xs K →
    ∃ ys, K ys ∧ ys.length = xs.length ∧ ∀ (j : Nat) (y : SB), ys[j]? = some y → ∃ x, xs[j]? = some x ∧ isGone y = isGone x ∧ ∀ w k, BR ρ x w k → BR ρ' y w k
  | [], K, h => ⟨[], h, rfl, fun j y h => by simp at h⟩
  | x :: r, K, h => by
    simp only [renBs] at h
    obtain ⟨y, h1, h2, h3⟩ := renB_ok hg h
    obtain ⟨ys, g1, g2, g3⟩ := renBs_ok hg h1
    refine ⟨y :: ys, g1, by simp [g2], fun j y' e => ?_⟩
    cases j with
    | zero => simp at e; subst e; exact ⟨x, by simp, h2, h3⟩
    | succ j => obtain ⟨x', q1, q2⟩ := g3 j y' (by simpa using e); exact ⟨x', by simpa using q1, q2⟩

theorem callK_ok {f : FuncId} {s : Spec} (hs : SpecOk P f s) {args : List SV} {args' : List Value} {K : SV → List SB → Prop} (hD : Den ρ S H) (hd : Dom ρ S H) (ha : LDR ρ args args') (h : callK s args S K) :
    ∃ v v' S2 H' ρ2, K v S2 ∧ Runs P f args' H (fun u G => u = v' ∧ G = H') ∧ DR ρ2 v v' ∧ Step ρ S H ρ2 S2 H' := by
  unfold callK at h
  rw [forceL_iff] at h
  generalize closeN S 30 (namesL args []) 0 = ks at h
  split at h
  · exact h.elim
  · rename_i hnod
    have hnd := nodB_ok hnod
    -- the callee's names
    let ρc : Nm := fun j => (ks[j]?).bind ρ
    have hg : ∀ b c p, idxN ks nums b = some c → ρ b = some p → ρc c = some p := fun b c p e1 e2 => by
      obtain ⟨i, rfl, hi⟩ := idxN_ok nums_at e1
      simp [ρc, hi, e2]
    obtain ⟨argsc, h, hargs⟩ := renLK_ok hg h
    obtain ⟨Sc, h, hlen, hin, hpick⟩ := pickK_ok hg h
    have hinj : ∀ i j b, ks[i]? = some b → ks[j]? = some b → i = j := fun i j b e1 e2 => nodup_at hnd e1 e2
    have ρc_at : ∀ j p, ρc j = some p → ∃ b, ks[j]? = some b ∧ ρ b = some p := fun j p e => by
      simp only [ρc] at e
      cases hb : ks[j]? with
      | none => simp [hb] at e
      | some b => exact ⟨b, rfl, by simpa [hb] using e⟩
    have hDc : Den ρc Sc H := by
      refine ⟨fun j y hy hgy => ?_, fun i j id w w' e1 e2 => ?_⟩
      · have hj : j < ks.length := by rw [← hlen]; exact (List.getElem?_eq_some_iff.1 hy).1
        obtain ⟨x, h1, h2, h3⟩ := hpick j ks[j] y (by simp [hj]) hy
        obtain ⟨id, w, k, g1, g2, g3⟩ := hD.blk _ x h1 (by rw [← h2]; exact hgy)
        exact ⟨id, w, k, by simp [ρc, hj, g1], g2, h3 w k g3⟩
      · obtain ⟨b, a1, a2⟩ := ρc_at _ _ e1
        obtain ⟨b', b1, b2⟩ := ρc_at _ _ e2
        have := hD.inj _ _ _ _ _ a2 b2
        subst this
        exact hinj i j b a1 b1
    have hdc : Dom ρc Sc H := fun j id w e => by
      obtain ⟨b, a1, a2⟩ := ρc_at _ _ e
      exact ⟨by rw [hlen]; exact (List.getElem?_eq_some_iff.1 a1).1, (hd b id w a2).2⟩
    have hrun := hs argsc Sc
    cases hres : s argsc Sc with | mk pre v S' =>
    rw [hres] at h hrun
    obtain ⟨hpre, h⟩ := h
    obtain ⟨v', H', ρc', r1, r2, r3⟩ := hrun hpre.h H ρc args' hDc hdc (hargs _ ha)
    simp only at r2 r3
    obtain ⟨h, hnl⟩ := afterK_ok h
    rw [appK_iff] at h
    -- the caller's names behind the call
    let ρ2 : Nm := fun b => if b < S.length then ρ b else ρc' (ks.length + (b - S.length))
    have hle : NLe ρ ρ2 := fun b p e => by
      have := (hd b p.1 p.2 e).1
      simp [ρ2, this, e]
    have hold : ∀ j, j < ks.length → ∀ p, ρc' j = some p → ρc j = some p := fun j hj p e => by
      rcases r3.fresh j p.1 p.2 e with e | ⟨e, _⟩
      · exact e
      · omega
    have hback : ∀ j c p, getT (ks ++ nums.drop S.length) j = some c → ρc' j = some p → ρ2 c = some p := fun j c p e1 e2 => by
      rw [getT_eq] at e1
      by_cases hj : j < ks.length
      · rw [List.getElem?_append_left hj] at e1
        obtain ⟨b, a1, a2⟩ := ρc_at _ _ (hold j hj p e2)
        rw [a1] at e1; obtain rfl := Option.some.inj e1
        exact hle _ _ a2
      · rw [List.getElem?_append_right (by omega), List.getElem?_drop] at e1
        have := nums_at _ _ e1
        have hc : c = S.length + (j - ks.length) := by omega
        subst hc
        simp only [ρ2]
        rw [if_neg (by omega), show ks.length + (S.length + (j - ks.length) - S.length) = j by omega]
        exact e2
    obtain ⟨u, h, hu⟩ := renK_ok hback h
    obtain ⟨S1, h, hl1, hl2, hother, hmine⟩ := mergeK_ok hback hnd h
    obtain ⟨rest', h, hl3, hrest⟩ := renBs_ok hback h
    rw [appK_iff] at h
    refine ⟨u, v', S1 ++ rest', H', ρ2, h, r1, hu _ r2, hle, ⟨fun b y hy hgy => ?_, fun b b' id w w' e1 e2 => ?_⟩, fun b id w e => ?_, fun b id w e => ?_, r3.hl, by simp; omega, fun id hid hn => ?_⟩
    · -- rows
      by_cases hb : b < S.length
      · rw [List.getElem?_append_left (by omega)] at hy
        by_cases hk : b ∈ ks
        · obtain ⟨j, hj, hjb⟩ := List.getElem_of_mem hk
          have hjb' : ks[j]? = some b := by simp [hj, hjb]
          obtain ⟨x, a1, a2, a3⟩ := hmine j b y hjb' hy
          obtain ⟨id, w, k, b1, b2, b3⟩ := r3.den.blk j x a1 (by rw [← a2]; exact hgy)
          obtain ⟨b', c1, c2⟩ := ρc_at _ _ (hold j hj _ b1)
          rw [hjb'] at c1; obtain rfl := Option.some.inj c1
          exact ⟨id, w, k, hle _ _ c2, b2, a3 w k b3⟩
        · rw [hother b hk] at hy
          obtain ⟨id, w, k, b1, b2, b3⟩ := hD.blk b y hy hgy
          refine ⟨id, w, k, hle _ _ b1, ?_, b3.mono hle⟩
          rw [getB_eq] at b2 ⊢
          rw [r3.keep id (hd b id w b1).2 fun j w' e => ?_]
          · exact b2
          · obtain ⟨b', c1, c2⟩ := ρc_at _ _ e
            have := hD.inj _ _ _ _ _ b1 c2
            subst this
            exact hk (List.mem_of_getElem? c1)
      · rw [List.getElem?_append_right (by omega)] at hy
        obtain ⟨x, a1, a2, a3⟩ := hrest _ y hy
        rw [List.getElem?_drop] at a1
        obtain ⟨id, w, k, b1, b2, b3⟩ := r3.den.blk _ x a1 (by rw [← a2]; exact hgy)
        refine ⟨id, w, k, ?_, b2, a3 w k b3⟩
        simp only [ρ2]
        rw [if_neg hb, ← hl2]; exact b1
    · -- one name a row
      simp only [ρ2] at e1 e2
      have mixed : ∀ a c w1 w2, a < S.length → ρ a = some (id, w1) → ρc' (ks.length + c) = some (id, w2) → False := fun a c w1 w2 ha h1 h2 => by
        rcases r3.fresh _ _ _ h2 with h3 | ⟨_, h3⟩
        · obtain ⟨b, c1, _⟩ := ρc_at _ _ h3
          have := (List.getElem?_eq_some_iff.1 c1).1; omega
        · have := (hd a id w1 h1).2; omega
      split at e1 <;> split at e2
      · exact hD.inj _ _ _ _ _ e1 e2
      · exact (mixed _ _ _ _ (by assumption) e1 e2).elim
      · exact (mixed _ _ _ _ (by assumption) e2 e1).elim
      · have := r3.den.inj _ _ _ _ _ e1 e2; omega
    · simp only [ρ2] at e
      split at e
      · have := hd b id w e; have := r3.hl; simp; omega
      · have := r3.dom _ _ _ e; simp only [List.length_append, hl3, List.length_drop]; omega
    · simp only [ρ2] at e
      split at e
      · exact .inl e
      · rcases r3.fresh _ _ _ e with h3 | ⟨_, h3⟩
        · obtain ⟨b', c1, _⟩ := ρc_at _ _ h3
          have := (List.getElem?_eq_some_iff.1 c1).1; omega
        · exact .inr ⟨by omega, h3⟩
    · exact r3.keep id hid fun j w e => by
        obtain ⟨b, c1, c2⟩ := ρc_at _ _ e
        exact hn b w c2
end
end Go.Proofs.Ytbmejhabgoimeaa.Eng
set_option linter.unusedVariables false
set_option linter.unusedSimpArgs false
namespace Go.Proofs.Ytbmejhabgoimeaa.Eng
open Go Go.RowKit

/-! ### code on the told side -/
structure At (k : Nat) (H0 : Heap) (ρ0 ρ : Nm) (t : List SV) (S : List SB) (t' : List Value) (H : Heap) : Prop where
  den : Den ρ S H
  dom : Dom ρ S H
  ts : TSD ρ t t'
  len : H0.length ≤ H.length
  fix : ∀ b, b < k → ρ b = ρ0 b
  new : ∀ b id w, k ≤ b → ρ b = some (id, w) → H0.length ≤ id
  keep : ∀ id, id < H0.length → (∀ b w, ρ0 b ≠ some (id, w)) → H[id]? = H0[id]?
  slen : k ≤ S.length
abbrev SQ := Exit → List SV → List SB → Prop
/-- What code does: from what is told, an end of which Q holds. -/
def X (P : Program) (k : Nat) (c : Code) (t : List SV) (S : List SB) (Q : SQ) : Prop :=
  ∀ (H0 : Heap) (ρ0 ρ : Nm) (t' : List Value) (H : Heap), At k H0 ρ0 ρ t S t' H →
    ∃ e t1 H1, Ex P H0.length c t' H (fun e' t'' H'' => e' = e ∧ t'' = t1 ∧ H'' = H1) ∧ ∃ t2 S2 ρ2, Q e t2 S2 ∧ At k H0 ρ0 ρ2 t2 S2 t1 H1

def putK (t : List SV) (d : Option Nat) (v : SV) (K : List SV → Prop) : Prop := match d with | some i => setK t i v K | none => K t
def wantK (ops : List Oper) (o : Oper) (t : List SV) (K : Bool → List SV → Prop) : Prop :=
  match o.guard with
  | none => K true t
  | some (j, want) => match getT ops j with
    | none => False
    | some oj => match oj.dst with
      | none => False
      | some d => match getT t d with
        | none => False
        | some v => match v with
          | .bool q => splitB q (setK t d (.bool true) fun t => K want t) (setK t d (.bool false) fun t => K (!want) t)
          | .dead => False
          | .tup _ => K false t
          | _ => False
/-- One operation, or a call. -/
def stepS (T : Ty) (Q : Nat → Bool) (E : Env) (k : Nat) (t : List SV) (S : List SB) (op : Op) (K : SV → List SB → Prop) : Prop :=
  match op with
  | .call ⟨.value fo, args, tys⟩ => evK t fo fun f => match f with
    | .fn f caps => match lookE E f with
      | some s => evsK t args.toList fun l => appK l caps fun as => callK s as S K
      | none => False
    | _ => False
  | op => opS T Q k t S op K
/-- Bytes turned to a text. -/
def bstrS (T : Ty) (s d : Nat) (S : List SB) (x : SV) (K : SV → Prop) : Prop :=
  match T s with
  | none => False
  | some ds => match T d with
    | none => False
    | some dd => match ds.und with
      | .slice e => match T e with
        | none => False
        | some de => match de.und with
          | .int .u8 => match dd.und with
            | .string => match lenS x with
              | some _ => rowS S (.int .u8) x fun l => K (.str (bytesL l))
              | none => False
            | _ => False
          | _ => False
      | _ => False
def isSl (T : Ty) (s : Nat) : Bool := match T s with
  | some ds => match ds.und with
    | .slice _ => true
    | _ => false
  | none => false
def stepT (T : Ty) (Q : Nat → Bool) (E : Env) (k : Nat) (t : List SV) (S : List SB) (op : Op) (K : SV → List SB → Prop) : Prop :=
  match op with
  | .convert s d x => match isSl T s with
    | true => evK t x fun a => bstrS T s d S a fun v => K v S
    | false => opS T Q k t S (.convert s d x) K
  | op => stepS T Q E k t S op K
def regS (T : Ty) (Q : Nat → Bool) (E : Env) (k : Nat) (ops : List Oper) : List Oper → List SV → List SB → (List SV → List SB → Prop) → Prop
  | [], t, S, K => K t S
  | o :: r, t, S, K => wantK ops o t fun q t => match q with
    | true => stepT T Q E k t S o.op fun v S => putK t o.dst v fun t => regS T Q E k ops r t S K
    | false => putK t o.dst (.tup []) fun t => regS T Q E k ops r t S K

section
variable {P : Program} {T : Ty} {Q : Nat → Bool} {E : Env} {k : Nat} {H0 : Heap} {ρ0 ρ ρ' : Nm} {t t2 : List SV} {S S' : List SB} {t' : List Value} {H H' : Heap} {o : Oper} {R : SQ}

theorem At.step (h : At k H0 ρ0 ρ t S t' H) {t2 : List SV} {t2' : List Value} (st : Step ρ S H ρ' S' H') (hs : TSD ρ' t2 t2') : At k H0 ρ0 ρ' t2 S' t2' H' where
  den := st.den
  dom := st.dom
  ts := hs
  len := Nat.le_trans h.len st.hl
  fix := fun b hb => by
    rw [← h.fix b hb]
    cases hr : ρ b with
    | some p => exact st.le _ _ hr
    | none =>
      cases hr' : ρ' b with
      | none => rfl
      | some p =>
        rcases st.fresh b p.1 p.2 hr' with e | ⟨e, _⟩
        · rw [hr] at e; simp at e
        · have := h.slen; omega
  new := fun b id w hb hr => by
    rcases st.fresh b id w hr with e | ⟨_, e⟩
    · exact h.new b id w hb e
    · have := h.len; omega
  keep := fun id hid hn => by
    rw [st.keep id (by have := h.len; omega) fun b w hr => ?_, h.keep id hid hn]
    by_cases hb : b < k
    · rw [h.fix b hb] at hr; exact hn b w hr
    · have := h.new b id w (by omega) hr; omega
  slen := Nat.le_trans h.slen st.sl
theorem At.frame (h : At k H0 ρ0 ρ t S t' H) {t2 : List SV} {t2' : List Value} (hs : TSD ρ t2 t2') : At k H0 ρ0 ρ t2 S t2' H := ⟨h.den, h.dom, hs, h.len, h.fix, h.new, h.keep, h.slen⟩
theorem X.mono {c : Code} {Q1 Q2 : SQ} (h : X P k c t S Q1) (hq : ∀ e t S, Q1 e t S → Q2 e t S) : X P k c t S Q2 := fun H0 ρ0 ρ t' H hA => by
  obtain ⟨e, t1, H1, h1, t2, S2, ρ2, h2, h3⟩ := h H0 ρ0 ρ t' H hA
  exact ⟨e, t1, H1, h1, t2, S2, ρ2, hq _ _ _ h2, h3⟩

theorem putK_ok {d : Option Nat} {v : SV} {K : List SV → Prop} (h : putK t d v K) : ∃ t2, K t2 ∧ ∀ {ρ t' v'}, TSD ρ t t' → TD ρ v v' → TSD ρ t2 (putT t' d v') := by
  cases d with
  | none => exact ⟨t, h, fun ht _ => ht⟩
  | some i => exact ⟨_, setK_iff.1 h, fun ht hv => ht.set hv i⟩
theorem set_same {i : Nat} {v : SV} (h : t[i]? = some v) : t.set i v = t := by
  apply List.ext_getElem?
  intro j
  rw [List.getElem?_set]
  split
  · rename_i e; subst e
    obtain ⟨h1, h2⟩ := List.getElem?_eq_some_iff.1 h
    simp [h1, h2]
  · rfl
theorem wantK_ok {ops : Array Oper} (ht : TSD ρ t t') {K : Bool → List SV → Prop} (h : wantK ops.toList o t K) : ∃ q, wantedA ops o t' = some q ∧ K q t := by
  unfold wantK at h
  unfold wantedA
  split at h
  · rename_i hg; rw [hg]; exact ⟨true, rfl, h⟩
  · rename_i j want hg
    rw [hg]
    simp only [getT_eq, Array.getElem?_toList] at h
    split at h
    · exact h.elim
    · rename_i oj hoj
      split at h
      · exact h.elim
      · rename_i d hd
        split at h
        · exact h.elim
        · rename_i v hv
          obtain ⟨v', hv', hr⟩ := ht.get hv
          simp only [hoj, Option.bind_some, hd, hv']
          split at h
          · rename_i q
            have hr := hr.live (by simp)
            cases hr
            refine ⟨some q == some want, by simp [isDead, boolOf], ?_⟩
            cases q with
            | true =>
              have h := h.t rfl
              rw [setK_iff, set_same hv] at h
              cases want <;> exact h
            | false =>
              have h := h.f rfl
              rw [setK_iff, set_same hv] at h
              cases want <;> exact h
          · exact h.elim
          · have hr := hr.live (by simp)
            cases hr
            exact ⟨false, by simp [isDead, boolOf], h⟩
          · exact h.elim
theorem stepS_ok (hT : TabOk P T Q) (hE : EnvOk P E) (hA : At k H0 ρ0 ρ t S t' H) {K : SV → List SB → Prop} (h : stepS T Q E k t S o.op K) :
    ∃ v v' S2 H2 ρ2, K v S2 ∧ DoesP P H0.length o t' H v' H2 ∧ DR ρ2 v v' ∧ Step ρ S H ρ2 S2 H2 := by
  unfold stepS at h
  split at h
  · rename_i op fo args tys hop
    obtain ⟨f, f', h, h2, h3⟩ := evK_ok hA.ts h
    split at h
    · rename_i f caps
      cases h3 with | fn _ _ caps' hl hr =>
      split at h
      · rename_i s hs
        obtain ⟨l, l', h, g2, g3⟩ := evsK_ok hA.ts h
        rw [appK_iff] at h
        obtain ⟨v, v', S2, H', ρ2, k1, k2, k3, k4⟩ := callK_ok (lookE_ok hE hs) hA.den hA.dom (g3.append ⟨hl, hr⟩) h
        exact ⟨v, v', S2, H', ρ2, k1, .inr ⟨fo, args, tys, f, caps', l', hop, h2, g2, k2⟩, k3, k4⟩
      · exact h.elim
    · exact h.elim
  · obtain ⟨v, v', S2, H2, ρ2, k1, k2, k3, k4⟩ := opS_sound (o := o) hT hA.den hA.dom hA.ts hA.new h
    exact ⟨v, v', S2, H2, ρ2, k1, .inl k2, k3, k4⟩
theorem ints_ldr : ∀ {l : List Int} {l' : List Value}, LDR ρ (l.flatMap (ET.int .u8).enc) l' → l' = l.map (Value.int .u8)
  | [], l', h => h.inv_nil
  | n :: l, l', h => by
    obtain ⟨v', ys', rfl, h1, h2⟩ := LDR.inv_cons (v := .int .u8 n) (xs := l.flatMap (ET.int .u8).enc) (by simpa [List.flatMap_cons, ET.enc] using h)
    cases h1
    rw [ints_ldr h2]; rfl
theorem stepT_ok (hT : TabOk P T Q) (hE : EnvOk P E) (hA : At k H0 ρ0 ρ t S t' H) {K : SV → List SB → Prop} (h : stepT T Q E k t S o.op K) :
    ∃ v v' S2 H2 ρ2, K v S2 ∧ OpX P H0.length o t' H (fun u G => u = v' ∧ G = H2) ∧ DR ρ2 v v' ∧ Step ρ S H ρ2 S2 H2 := by
  unfold stepT at h
  split at h
  · rename_i op s d x hop
    split at h
    · obtain ⟨a, a', h, g2, g3⟩ := evK_ok hA.ts h
      unfold bstrS at h
      repeat' split at h
      all_goals first | exact h.elim | skip
      rename_i ds hs _ dd hd _ e hsu _ de he _ heu _ hdu _ m hm
      obtain ⟨l, l', xa, xc, hK, rfl, f1, f2, f3⟩ := rowS_ok (e := .int .u8) hA.den hm g3 h
      have := ints_ldr f2
      subst this
      exact ⟨_, _, S, H, ρ, hK, OpX_bytes (tyOf_ok P) hop (hT.1 _ _ hs) hsu (hT.1 _ _ he) heu (hT.1 _ _ hd) hdu g2 f1 ⟨rfl, rfl⟩, .str _, .refl hA.den hA.dom⟩
    · rw [← hop] at h
      obtain ⟨v, v', S2, H2, ρ2, k1, k2, k3, k4⟩ := opS_sound (o := o) hT hA.den hA.dom hA.ts hA.new h
      exact ⟨v, v', S2, H2, ρ2, k1, (DoesP.step (.inl k2)), k3, k4⟩
  · obtain ⟨v, v', S2, H2, ρ2, k1, k2, k3, k4⟩ := stepS_ok hT hE hA h
    exact ⟨v, v', S2, H2, ρ2, k1, DoesP.step k2, k3, k4⟩
theorem regS_ok (hT : TabOk P T Q) (hE : EnvOk P E) {ops : Array Oper} : ∀ {l : List Oper} {t : List SV} {S : List SB} {ρ : Nm} {t' : List Value} {H : Heap} {K : List SV → List SB → Prop}, At k H0 ρ0 ρ t S t' H → regS T Q E k ops.toList l t S K →
    ∃ t1 H1, RegX P H0.length ops l t' H (fun t'' H'' => t'' = t1 ∧ H'' = H1) ∧ ∃ t2 S2 ρ2, K t2 S2 ∧ At k H0 ρ0 ρ2 t2 S2 t1 H1
  | [], t, S, ρ, t', H, K, hA, h => ⟨t', H, ⟨rfl, rfl⟩, t, S, ρ, h, hA⟩
  | o :: r, t, S, ρ, t', H, K, hA, h => by
    simp only [regS] at h
    obtain ⟨q, hq, h⟩ := wantK_ok hA.ts h
    cases q with
    | true =>
      simp only at h
      obtain ⟨v, v', S2, H2, ρ2, h, k2, k3, k4⟩ := stepT_ok hT hE hA h
      obtain ⟨t2, h, hp⟩ := putK_ok h
      have hA2 := hA.step k4 (hp (hA.ts.mono k4.le) (.inr k3))
      obtain ⟨t1, H1, h1, rest⟩ := regS_ok hT hE hA2 h
      refine ⟨t1, H1, ⟨true, hq, ?_⟩, rest⟩
      rw [if_pos rfl]
      exact k2.mono fun u G ⟨e1, e2⟩ => by subst e1; subst e2; exact h1
    | false =>
      simp only at h
      obtain ⟨t2, h, hp⟩ := putK_ok h
      have hA2 := hA.frame (hp hA.ts (.inr (undef_dr ρ)))
      obtain ⟨t1, H1, h1, rest⟩ := regS_ok hT hE hA2 h
      refine ⟨t1, H1, ⟨false, hq, ?_⟩, rest⟩
      rw [if_neg (by simp)]
      exact h1
theorem X_region (hT : TabOk P T Q) (hE : EnvOk P E) {id : Nat} {ops : Array Oper} (h : regS T Q E k ops.toList ops.toList t S (fun t S => R .normal t S)) : X P k (.region id ops false) t S R := fun H0 ρ0 ρ t' H hA => by
  obtain ⟨t1, H1, h1, t2, S2, ρ2, h2, h3⟩ := regS_ok hT hE hA h
  refine ⟨.normal, t1, H1, Ex_region (Ex_sr.regX_mono _ _ _ h1 fun t H ⟨e1, e2⟩ => ⟨rfl, e1, e2⟩), t2, S2, ρ2, h2, h3⟩
def thenS (next : List SV → List SB → Prop) (R : SQ) : SQ
  | .normal, t, S => next t S
  | e, t, S => R e t S
def inBlockS (id : Nat) (R : SQ) : SQ
  | .exit id', t, S => match Nat.beq id' id with | true => R .normal t S | false => R (.exit id') t S
  | e, t, S => R e t S
theorem X_seq {x y : Code} (h : X P k x t S (thenS (fun t S => X P k y t S R) R)) : X P k (.seq x y) t S R := fun H0 ρ0 ρ t' H hA => by
  obtain ⟨e, t1, H1, h1, t2, S2, ρ2, h2, h3⟩ := h H0 ρ0 ρ t' H hA
  have other : e ≠ .normal → R e t2 S2 → ∃ e t1 H1, Ex P H0.length (.seq x y) t' H (fun e' t'' H'' => e' = e ∧ t'' = t1 ∧ H'' = H1) ∧ ∃ t2 S2 ρ2, R e t2 S2 ∧ At k H0 ρ0 ρ2 t2 S2 t1 H1 := fun hne hr =>
    ⟨e, t1, H1, Ex_seq (h1.mono fun e' t'' H'' ⟨a, b, c⟩ => by subst a; subst b; subst c; cases e' <;> first | exact absurd rfl hne | exact ⟨rfl, rfl, rfl⟩), t2, S2, ρ2, hr, h3⟩
  cases e with
  | normal =>
    obtain ⟨e2, t3, H3, g1, g2⟩ := h2 H0 ρ0 ρ2 t1 H1 h3
    exact ⟨e2, t3, H3, Ex_seq (h1.mono fun e' t'' H'' ⟨a, b, c⟩ => by subst a; subst b; subst c; exact g1), g2⟩
  | _ => exact other (by simp) h2
theorem X_cond {c : Operand} {x y : Code} {q : Bool} (hc : evS t c = some (.bool q)) (h : if q = true then X P k x t S R else X P k y t S R) : X P k (.cond c x y) t S R := fun H0 ρ0 ρ t' H hA => by
  obtain ⟨v', hv, hr⟩ := evS_ok hA.ts hc
  cases hr
  cases q with
  | true =>
    obtain ⟨e, t1, H1, h1, h2⟩ := h H0 ρ0 ρ t' H hA
    exact ⟨e, t1, H1, Ex_cond hv (by simpa using h1), h2⟩
  | false =>
    obtain ⟨e, t1, H1, h1, h2⟩ := h H0 ρ0 ρ t' H hA
    exact ⟨e, t1, H1, Ex_cond hv (by simpa using h1), h2⟩
theorem X_block {id : Nat} {c : Code} (h : X P k c t S (inBlockS id R)) : X P k (.block id c) t S R := fun H0 ρ0 ρ t' H hA => by
  obtain ⟨e, t1, H1, h1, t2, S2, ρ2, h2, h3⟩ := h H0 ρ0 ρ t' H hA
  cases e with
  | exit id' =>
    simp only [inBlockS] at h2
    split at h2
    · rename_i e
      have e : id' = id := by simpa using e
      subst e
      exact ⟨.normal, t1, H1, Ex_block (h1.mono fun e' t'' H'' ⟨a, b, c⟩ => by subst a; subst b; subst c; simp [inBlockA]), t2, S2, ρ2, h2, h3⟩
    · rename_i e
      have e : ¬ id' = id := by intro h; rw [h] at e; simp at e
      exact ⟨.exit id', t1, H1, Ex_block (h1.mono fun e' t'' H'' ⟨a, b, c⟩ => by subst a; subst b; subst c; simp [inBlockA, e]), t2, S2, ρ2, h2, h3⟩
  | _ => exact ⟨_, t1, H1, Ex_block (h1.mono fun e' t'' H'' ⟨a, b, c⟩ => by subst a; subst b; subst c; exact ⟨rfl, rfl, rfl⟩), t2, S2, ρ2, h2, h3⟩

/-! ### names turned in the middle -/
def lookN : List (Nat × Nat) → Nat → Option Nat
  | [], _ => none
  | p :: r, j => match Nat.beq p.1 j with | true => some p.2 | false => lookN r j
theorem lookN_mem : ∀ {m : List (Nat × Nat)} {j b : Nat}, lookN m j = some b → (j, b) ∈ m
  | [], j, b, h => by simp [lookN] at h
  | p :: r, j, b, h => by
    simp only [lookN] at h
    split at h
    · rename_i e
      have e : p.1 = j := by simpa using e
      obtain rfl := Option.some.inj h
      subst e; simp
    · exact List.mem_cons_of_mem _ (lookN_mem h)
/-- The told names j stand for b now. -/
def bindN (m : List (Nat × Nat)) (j b : Nat) : Option (List (Nat × Nat)) :=
  match lookN m j with
  | some b' => match Nat.beq b' b with | true => some m | false => none
  | none => some (m ++ [(j, b)])
mutual
def matV : SV → SV → List (Nat × Nat) → Option (List (Nat × Nat))
  | .ptr j _ _, .ptr b _ _, m => bindN m j b
  | .sl j _ _ _, .sl b _ _ _, m => bindN m j b
  | .opt _ j _ _, .opt _ b _ _, m => bindN m j b
  | .agg xs, .agg ys, m => matL xs ys m
  | .tup xs, .tup ys, m => matL xs ys m
  | .fn _ xs, .fn _ ys, m => matL xs ys m
  | _, _, m => some m
def matL : List SV → List SV → List (Nat × Nat) → Option (List (Nat × Nat))
  | v :: xs, u :: ys, m => match matV v u m with | some m => matL xs ys m | none => none
  | _, _, m => some m
end
def matP (t : List SV) : List (Nat × SV) → List (Nat × Nat) → Option (List (Nat × Nat))
  | [], m => some m
  | (i, v) :: r, m => match getT t i with
    | some u => match matV v u m with | some m => matP t r m | none => none
    | none => none
def matS (S2 S : List SB) : Nat → Nat → List (Nat × Nat) → Option (List (Nat × Nat))
  | 0, _, m => some m
  | f + 1, i, m => match getT m i with
    | none => some m
    | some (j, b) => match getT S2 j, getT S b with
      | some (.box cs _ _), some (.box cs' _ _) => match matL cs cs' m with | some m => matS S2 S f (i + 1) m | none => none
      | _, _ => matS S2 S f (i + 1) m
def idm : Nat → List Nat → List (Nat × Nat)
  | 0, _ => []
  | _, [] => []
  | k + 1, n :: ns => (n, n) :: idm k ns
def sameP (g : Nat → Option Nat) (t : List SV) : List (Nat × SV) → Prop
  | [] => True
  | (i, v) :: r => (match getT t i with | some u => (match liveS u with | some u => renK g v fun v' => VC (v' = u) | none => False) | none => False) ∧ sameP g t r
def castK {e' e : ET} (h : e' = e) : List e'.T → (List e.T → Prop) → Prop := h ▸ fun l K => K l
/-- A row of the new names is that of the old ones. -/
def sameB (g : Nat → Option Nat) (x : SB) (y : Option SB) : Prop :=
  match x with
  | .gone => True
  | .arr e l sz wr => match y with
    | some (.arr e' l' sz' wr') => if h : e' = e then (castK h l' fun l' => VC (l' = l)) ∧ VC (sz' = sz ∧ (wr = true → wr' = true)) else False
    | _ => False
  | .arrO e l sz => match y with
    | some (.arrO e' l' sz') => if h : e' = e then (castK h l' fun l' => VC (l' = l)) ∧ VC (sz' = sz) else False
    | _ => False
  | .box cs wr fl => match y with
    | some (.box cs' wr' fl') => renLK g cs fun cs => VC (cs = cs') ∧ VC ((wr = true → wr' = true) ∧ fl' = fl)
    | _ => False
def sameSs (g : Nat → Option Nat) (S : List SB) : List SB → List Nat → Prop
  | [], _ => True
  | x :: r, j :: ns => (match x with | .gone => True | x => match g j with | some b => sameB g x (getT S b) | none => False) ∧ sameSs g S r ns
  | _ :: _, [] => False
def fixN (m : List (Nat × Nat)) : Nat → List Nat → Bool
  | 0, _ => true
  | _ + 1, [] => false
  | k + 1, n :: ns => match lookN m n with | some b => (match Nat.beq b n with | true => fixN m k ns | false => false) | none => false
def sameLen {α : Type} : List α → List α → Bool
  | [], [] => true
  | _ :: a, _ :: b => sameLen a b
  | _, _ => false
/-- What is told now is, under other names, what is told there. -/
def subX (k : Nat) (t0 t : List SV) (S : List SB) (L : List (Nat × SV)) (S2 : List SB) : Prop :=
  forceL S2 fun S2 => match matP t L (idm k nums) with
  | none => False
  | some m => match matS S2 S 40 0 m with
    | none => False
    | some m => forceL m fun m => match nodB (m.map (·.2)) && m.all (fun p => (Nat.blt p.1 S2.length)) && Nat.ble k S2.length && fixN m k nums && sameLen t0 t && Nat.ble S2.length nums.length with
      | true => sameP (lookN m) t L ∧ sameSs (lookN m) S S2 nums
      | false => False
def deadF : List SV → List SV
  | [] => []
  | _ :: r => .dead :: deadF r
def frameK (t : List SV) (L : List (Nat × SV)) : List SV := L.foldl (fun f p => setT f p.1 p.2) (deadF t)
end
end Go.Proofs.Ytbmejhabgoimeaa.Eng
set_option linter.unusedVariables false
set_option linter.unusedSimpArgs false
namespace Go.Proofs.Ytbmejhabgoimeaa.Eng
open Go Go.RowKit

section
variable {P : Program} {T : Ty} {Q : Nat → Bool} {E : Env} {k : Nat} {H0 : Heap} {ρ0 ρ ρ' : Nm} {t t2 : List SV} {S S' : List SB} {t' : List Value} {H H' : Heap} {o : Oper} {R : SQ}

theorem fixN_ok {m : List (Nat × Nat)} : ∀ {k : Nat} {ns : List Nat} {b0 : Nat}, (∀ i n, ns[i]? = some n → n = b0 + i) → fixN m k ns = true → ∀ b, b < k → lookN m (b0 + b) = some (b0 + b)
  | 0, ns, b0, _, _, b, hb => by omega
  | k + 1, [], b0, _, h, b, hb => by simp [fixN] at h
  | k + 1, n :: ns, b0, hn, h, b, hb => by
    have h0 := hn 0 n rfl
    simp only [fixN] at h
    split at h
    · rename_i b' hb'
      split at h
      · rename_i he
        have he : b' = n := by simpa using he
        subst he
        cases b with
        | zero => rw [← h0]; exact hb'
        | succ b =>
          have := fixN_ok (b0 := b0 + 1) (fun i n' hi => by have := hn (i + 1) n' (by simpa using hi); omega) h b (by omega)
          rw [show b0 + (b + 1) = b0 + 1 + b by omega]; exact this
      · simp at h
    · simp at h
theorem sameLen_ok {α : Type} : ∀ {a b : List α}, sameLen a b = true → a.length = b.length
  | [], [], _ => rfl
  | [], _ :: _, h => by simp [sameLen] at h
  | _ :: _, [], h => by simp [sameLen] at h
  | x :: a, y :: b, h => by simp only [sameLen] at h; simp [sameLen_ok h]
theorem deadF_len : ∀ (t : List SV), (deadF t).length = t.length
  | [] => rfl
  | _ :: r => by simp [deadF, deadF_len r]
theorem deadF_get : ∀ (t : List SV) (i : Nat) (v : SV), (deadF t)[i]? = some v → v = .dead
  | [], i, v, h => by simp [deadF] at h
  | _ :: r, 0, v, h => by simp [deadF] at h; exact h.symm
  | _ :: r, i + 1, v, h => deadF_get r i v (by simpa [deadF] using h)
theorem deadF_congr : ∀ {t t2 : List SV}, t.length = t2.length → deadF t = deadF t2
  | [], [], _ => rfl
  | [], _ :: _, h => by simp at h
  | _ :: _, [], h => by simp at h
  | _ :: a, _ :: b, h => by simp [deadF, deadF_congr (t := a) (t2 := b) (by simpa using h)]
theorem sameP_ok {g : Nat → Option Nat} (hg : ∀ b c p, g b = some c → ρ c = some p → ρ' b = some p) (ht : TSD ρ t t') : ∀ {L : List (Nat × SV)} {f : List SV}, sameP g t L → TSD ρ' f t' → TSD ρ' (L.foldl (fun f p => setT f p.1 p.2) f) t'
  | [], f, _, hf => hf
  | (i, v) :: r, f, h, hf => by
    simp only [sameP] at h
    obtain ⟨h1, h2⟩ := h
    rw [List.foldl_cons]
    refine sameP_ok hg ht h2 ?_
    rw [getT_eq] at h1
    split at h1
    · rename_i u0 hu
      split at h1
      · rename_i u hlive
        obtain ⟨rfl, hd⟩ := liveS_ok hlive
        obtain ⟨v', e, hback⟩ := (renK_back hg).1 h1
        have e := e.h
        subst e
        simp only [setT_eq]
        refine ⟨by simp [hf.1], fun j w w' q1 q2 => ?_⟩
        rw [List.getElem?_set] at q1
        split at q1
        · rename_i ej; subst ej
          split at q1
          · obtain rfl := Option.some.inj q1
            exact .inr (hback _ ((ht.2 i _ w' hu q2).live hd))
          · simp at q1
        · exact hf.2 j w w' q1 q2
      · exact h1.elim
    · exact h1.elim
theorem sameB_ok {g : Nat → Option Nat} (hg : ∀ b c p, g b = some c → ρ c = some p → ρ' b = some p) {x : SB} {y : Option SB} (hx : isGone x = false) (h : sameB g x y) : ∃ z, y = some z ∧ isGone z = false ∧ ∀ w k, BR ρ z w k → BR ρ' x w k := by
  cases x with
  | gone => simp [isGone] at hx
  | arr e l sz wr =>
    simp only [sameB] at h
    split at h
    · rename_i e' l' sz' wr'
      split at h
      · rename_i he
        subst he
        obtain ⟨h1, ⟨h2⟩⟩ := h
        have h1 := VC.h h1
        subst h1
        obtain ⟨rfl, h3⟩ := h2
        exact ⟨_, rfl, rfl, fun w k r => ⟨r.1, r.2.1, fun q => r.2.2.1 (h3 q), r.2.2.2.1, ⟨r.2.2.2.2.1, fun i v v' a b => (r.2.2.2.2.2 i v v' a b).flat_any (List.all_eq_true.1 (flat_all _) v (List.mem_of_getElem? a)) _⟩⟩⟩
      · exact h.elim
    · exact h.elim
  | arrO e l sz =>
    simp only [sameB] at h
    split at h
    · rename_i e' l' sz'
      split at h
      · rename_i he
        subst he
        obtain ⟨h1, ⟨h2⟩⟩ := h
        have h1 := VC.h h1
        subst h1; subst h2
        exact ⟨_, rfl, hx, fun w k r => ⟨r.1, r.2.1, r.2.2.1, ⟨r.2.2.2.1, fun i v v' a b => (r.2.2.2.2 i v v' a b).flat_any (List.all_eq_true.1 (flat_all _) v (List.mem_of_getElem? a)) _⟩⟩⟩
      · exact h.elim
    · exact h.elim
  | box cs wr fl =>
    simp only [sameB] at h
    split at h
    · rename_i cs' wr' fl'
      obtain ⟨ys, ⟨⟨h1⟩, ⟨h2⟩⟩, hback⟩ := (renK_back hg).2 h
      subst h1
      exact ⟨_, rfl, rfl, fun w k r => ⟨hback _ r.1, r.2.1, fun q => r.2.2.1 (h2.1 q), by rw [r.2.2.2, h2.2]⟩⟩
    · exact h.elim
theorem sameSs_ok {g : Nat → Option Nat} : ∀ {S2 : List SB} {ns : List Nat} {b0 : Nat}, (∀ i n, ns[i]? = some n → n = b0 + i) → sameSs g S S2 ns → ∀ (j : Nat) (x : SB), S2[j]? = some x → isGone x = false → ∃ b, g (b0 + j) = some b ∧ sameB g x (getT S b)
  | [], ns, b0, _, _, j, x, hx, _ => by simp at hx
  | y :: r, [], b0, _, h, j, x, hx, _ => by simp [sameSs] at h
  | y :: r, n :: ns, b0, hn, h, j, x, hx, hg => by
    simp only [sameSs] at h
    obtain ⟨h1, h2⟩ := h
    cases j with
    | zero =>
      simp at hx; subst hx
      have h0 := hn 0 n rfl
      cases y with
      | gone => simp [isGone] at hg
      | arr e l sz wr =>
        simp only at h1
        split at h1
        · rename_i b hb; exact ⟨b, by rw [← h0]; exact hb, h1⟩
        · exact h1.elim
      | box cs wr fl =>
        simp only at h1
        split at h1
        · rename_i b hb; exact ⟨b, by rw [← h0]; exact hb, h1⟩
        · exact h1.elim
      | arrO e l sz =>
        simp only at h1
        split at h1
        · rename_i b hb; exact ⟨b, by rw [← h0]; exact hb, h1⟩
        · exact h1.elim
    | succ j =>
      obtain ⟨b, q1, q2⟩ := sameSs_ok (b0 := b0 + 1) (fun i n' hi => by have := hn (i + 1) n' (by simpa using hi); omega) h2 j x (by simpa using hx) hg
      exact ⟨b, by rw [show b0 + (j + 1) = b0 + 1 + j by omega]; exact q1, q2⟩
theorem nodup_pairs {m : List (Nat × Nat)} (h : (m.map (·.2)).Nodup) {i j b : Nat} (h1 : (i, b) ∈ m) (h2 : (j, b) ∈ m) : i = j := by
  obtain ⟨p, hp, e1⟩ := List.getElem_of_mem h1
  obtain ⟨q, hq, e2⟩ := List.getElem_of_mem h2
  have : p = q := nodup_at h (b := b) (by simp [hp, e1]) (by simp [hq, e2])
  subst this
  rw [e1] at e2; exact (Prod.mk.inj e2).1
theorem subX_ok {L : List (Nat × SV)} {S2 : List SB} {t0 : List SV} (hA : At k H0 ρ0 ρ t S t' H) (h : subX k t0 t S L S2) : ∃ ρ2, At k H0 ρ0 ρ2 (frameK t0 L) S2 t' H := by
  unfold subX at h
  rw [forceL_iff] at h
  split at h
  · exact h.elim
  · split at h
    · exact h.elim
    · rename_i m hm
      rw [forceL_iff] at h
      split at h
      · rename_i hc
        simp only [Bool.and_eq_true, Nat.ble_eq] at hc
        obtain ⟨⟨⟨⟨⟨c1, c2⟩, c3⟩, c4⟩, c5⟩, c6⟩ := hc
        obtain ⟨h1, h2⟩ := h
        have hnd := nodB_ok c1
        have hfix := fixN_ok nums_at c4
        let ρ2 : Nm := fun j => (lookN m j).bind ρ
        have at2 : ∀ j p, ρ2 j = some p → ∃ b, lookN m j = some b ∧ ρ b = some p := fun j p e => by
          simp only [ρ2] at e
          cases hb : lookN m j with
          | none => simp [hb] at e
          | some b => exact ⟨b, rfl, by simpa [hb] using e⟩
        have hg : ∀ b c p, lookN m b = some c → ρ c = some p → ρ2 b = some p := fun b c p e1 e2 => by simp [ρ2, e1, e2]
        have inj : ∀ i j b, lookN m i = some b → lookN m j = some b → i = j := fun i j b e1 e2 => nodup_pairs hnd (lookN_mem e1) (lookN_mem e2)
        refine ⟨ρ2, ⟨fun j x hx hgx => ?_, fun i j id w w' e1 e2 => ?_⟩, fun j id w e => ?_, ?_, hA.len, fun b hb => ?_, fun j id w hj e => ?_, hA.keep, c3⟩
        · obtain ⟨b, q1, q2⟩ := sameSs_ok (b0 := 0) nums_at h2 j x hx hgx
          rw [Nat.zero_add] at q1
          obtain ⟨z, q3, q4, q5⟩ := sameB_ok hg hgx q2
          rw [getT_eq] at q3
          obtain ⟨id, w, kb, r1, r2, r3⟩ := hA.den.blk b z q3 q4
          exact ⟨id, w, kb, hg _ _ _ q1 r1, r2, q5 w kb r3⟩
        · obtain ⟨b, a1, a2⟩ := at2 _ _ e1
          obtain ⟨b', b1, b2⟩ := at2 _ _ e2
          have := hA.den.inj _ _ _ _ _ a2 b2
          subst this
          exact inj _ _ _ a1 b1
        · obtain ⟨b, a1, a2⟩ := at2 _ _ e
          have := List.all_eq_true.1 c2 _ (lookN_mem a1)
          exact ⟨by simpa [Nat.blt_eq] using this, (hA.dom b id w a2).2⟩
        · unfold frameK
          refine sameP_ok hg hA.ts h1 ⟨by rw [deadF_len, sameLen_ok c5]; exact hA.ts.1, fun i v v' e1 _ => .inl (deadF_get _ _ _ e1)⟩
        · have := hfix b hb
          rw [Nat.zero_add] at this
          simp only [ρ2, this, Option.bind_some]
          exact hA.fix b hb
        · obtain ⟨b, a1, a2⟩ := at2 _ _ e
          refine hA.new b id w ?_ a2
          by_cases hb : b < k
          · have := hfix b hb
            rw [Nat.zero_add] at this
            have := inj _ _ _ a1 this
            omega
          · omega
      · exact h.elim
/-- A loop: what is told of its variables and rows, for each state. -/
theorem X_loop {σ : Type} {c : Code} (L : σ → List (Nat × SV)) (hp : σ → List SB) (μ : σ → Nat) (Inv : σ → Prop) (s0 : σ) (h0 : Inv s0) (hin : subX k t t S (L s0) (hp s0))
    (round : ∀ s, Inv s → X P k c (frameK t (L s)) (hp s) (thenS (fun t1 S1 => ∃ s', μ s' < μ s ∧ Inv s' ∧ subX k t t1 S1 (L s') (hp s')) R)) : X P k (.loop c) t S R := fun H0 ρ0 ρ t' H hA => by
  have key : ∀ n s, μ s = n → Inv s → ∀ ρ t' H, At k H0 ρ0 ρ (frameK t (L s)) (hp s) t' H → ∃ m e t1 H1, RoundsA P H0.length c (fun e' t'' H'' => e' = e ∧ t'' = t1 ∧ H'' = H1) m t' H ∧ ∃ t2 S2 ρ2, R e t2 S2 ∧ At k H0 ρ0 ρ2 t2 S2 t1 H1 := by
    intro n
    induction n using Nat.strongRecOn with
    | _ n ih =>
      intro s hn hI ρ t' H hA
      obtain ⟨e, t1, H1, h1, t2, S2, ρ2, h2, h3⟩ := round s hI H0 ρ0 ρ t' H hA
      have other : e ≠ .normal → R e t2 S2 → ∃ m e t1 H1, RoundsA P H0.length c (fun e' t'' H'' => e' = e ∧ t'' = t1 ∧ H'' = H1) m t' H ∧ ∃ t2 S2 ρ2, R e t2 S2 ∧ At k H0 ρ0 ρ2 t2 S2 t1 H1 := fun hne hr =>
        ⟨1, e, t1, H1, h1.mono fun e' t'' H'' ⟨a, b, c⟩ => by subst a; subst b; subst c; cases e' <;> first | exact absurd rfl hne | exact ⟨rfl, rfl, rfl⟩, t2, S2, ρ2, hr, h3⟩
      cases e with
      | normal =>
        obtain ⟨s', hlt, hI', hsub⟩ := h2
        obtain ⟨ρ3, hA3⟩ := subX_ok h3 hsub
        obtain ⟨m, e2, t3, H3, g1, g2⟩ := ih (μ s') (by omega) s' rfl hI' ρ3 t1 H1 hA3
        exact ⟨m + 1, e2, t3, H3, h1.mono fun e' t'' H'' ⟨a, b, c⟩ => by subst a; subst b; subst c; exact g1, g2⟩
      | _ => exact other (by simp) h2
  obtain ⟨ρ1, hA1⟩ := subX_ok hA hin
  obtain ⟨m, e, t1, H1, h1, h2⟩ := key _ s0 rfl h0 ρ1 t' H hA1
  exact ⟨e, t1, H1, Ex_rounds m h1, h2⟩

/-! ### a function's end -/
theorem Runs_pt {T : Ty} (hT : TyOk P T) {f : FuncId} {fn : Func} {c : Code} {args : List Value} {e : Exit} {t1 : List Value} {H1 : Heap} {vs : List Value} (hf : P.funcs[f]? = some fn) (hb : fn.body = some c) (hn : (fn.name == "runtime.NumGoroutine") = false)
    (h : Ex P H.length c (args ++ List.replicate (fn.ntmps - args.length) undef) H (fun e' t'' H'' => e' = e ∧ t'' = t1 ∧ H'' = H1)) (he : e = .normal ∨ e = .ret) (hv : resA T t1 H1 fn.results.toList = some vs) : Runs P f args H (fun u G => u = packR vs ∧ G = H1) := by
  refine ⟨⟨fn, hf, hn, by simp [hb]⟩, fun w0 ι w args' h1 h2 => ?_⟩
  refine calls_of_wp hf hb ?_
  refine wp_mono (h w0 ι w _ h1 (by simpa using TS.start h2 fn.ntmps) rfl (Nat.le_refl _) h1.oc) ?_
  rintro e1 a w' ⟨t2, H2, ι', ⟨rfl, rfl, rfl⟩, k1, k2, k3, k4, k5, k6⟩
  obtain ⟨vs', g1, g2⟩ := resA_run hT k1 k2 _ _ hv
  have hres : (results fn a.tmps).run P w' = .ok (packR vs') w' := by
    rw [results_eq, Sem.run_bind, Array.mapM_eq_mapM_toList]
    have : (List.toArray <$> List.mapM (resM a.tmps) fn.results.toList : Sem (Array Value)).run P w' = .ok vs'.toArray w' := by
      rw [map_eq_pure_bind, Sem.run_bind, g1]; rfl
    rw [this]
    simp only [Result.andThen_ok]
    match vs' with
    | [] => rfl
    | [v] => rfl
    | v :: u :: r => rfl
  have hpack : VRel ι' (packR vs) (packR vs') := by
    match vs, vs', g2 with
    | [], vs', g2 => have : vs' = [] := List.eq_nil_of_length_eq_zero (by have := g2.1; simpa using this.symm); subst this; exact .tuple _ _ rfl (fun i v v' h => by simp at h)
    | [v], vs', g2 =>
      obtain ⟨v', r, rfl, hv, hr⟩ := g2.inv_cons
      have : r = [] := List.eq_nil_of_length_eq_zero (by have := hr.1; simpa using this.symm)
      subst this; exact hv
    | v :: u :: r, vs', g2 =>
      obtain ⟨v', r', rfl, hv, hr⟩ := g2.inv_cons
      obtain ⟨u', r'', rfl, hu, hr'⟩ := hr.inv_cons
      exact .tuple _ _ g2.1 g2.2
  have fin : a.defers = [] ∧ ∃ v, (results fn a.tmps).run P w' = .ok v w' ∧ ∃ (u v' : Value) (H' : Heap) (ι1 : Ren), (Ending.returned v) = .returned v' ∧ (u = packR vs ∧ H' = H2) ∧ VRel ι1 u v' ∧ HRel w0 ι1 H' w' ∧ Ext H.length ι ι1 ∧ OCs H.length H H' ∧ H.length ≤ H'.length :=
    ⟨k3, packR vs', hres, packR vs, packR vs', H2, ι', rfl, ⟨rfl, rfl⟩, hpack, k1, k4, k5, k6⟩
  rcases he with rfl | rfl <;> exact fin

def isEnd : Exit → Bool
  | .normal => true
  | .ret => true
  | _ => false
def resS (T : Ty) (t : List SV) (S : List SB) : List ResultVar → (List SV → Prop) → Prop
  | [], K => K []
  | .tmp i :: r, K => match getT t i with
    | some v => match liveS v with
      | some v => resS T t S r fun l => K (v :: l)
      | none => False
    | none => False
  | .cell i ty :: r, K => match getT t i with
    | some v => match liveS v with
      | some v => match T ty with
        | some d => loadS d S v fun u => resS T t S r fun l => K (u :: l)
        | none => False
      | none => False
    | none => False
def packS : List SV → SV
  | [v] => v
  | vs => .tup vs
def prefB : Nat → List Nat → List Nat → Bool
  | 0, _, _ => true
  | k + 1, n :: ns, c :: ks => match Nat.beq n c with | true => prefB k ns ks | false => false
  | _ + 1, _, _ => false
def firstN : Nat → List Nat → List Nat
  | 0, _ => []
  | _, [] => []
  | k + 1, n :: ns => n :: firstN k ns
/-- The answer under the caller's names. -/
def finK (k : Nat) (v : SV) (S : List SB) (K : SV → List SB → Prop) : Prop :=
  forceL (closeN S 60 (namesV v (firstN k nums)) 0) fun ks => match nodB ks && prefB k nums ks with
    | true => renK (idxN ks nums) v fun v' => pickK (idxN ks nums) S ks fun S' => K v' S'
    | false => False
def retQ (T : Ty) (k : Nat) (rs : List ResultVar) (v0 : SV) (S0 : List SB) : SQ := fun e t S =>
  match isEnd e with
  | true => resS T t S rs fun vs => finK k (packS vs) S fun v' S' => VC (v' = v0) ∧ VC (S' = S0)
  | false => False
theorem prefB_ok : ∀ {k : Nat} {ns ks : List Nat} {b0 : Nat}, (∀ i n, ns[i]? = some n → n = b0 + i) → prefB k ns ks = true → (∀ b, b < k → ks[b]? = some (b0 + b)) ∧ k ≤ ks.length
  | 0, ns, ks, b0, _, _ => ⟨fun b hb => by omega, by omega⟩
  | k + 1, [], ks, b0, _, h => by simp [prefB] at h
  | k + 1, n :: ns, [], b0, _, h => by simp [prefB] at h
  | k + 1, n :: ns, c :: ks, b0, hn, h => by
    simp only [prefB] at h
    split at h
    · rename_i e
      have e : n = c := by simpa using e
      have h0 := hn 0 n rfl
      obtain ⟨h1, h2⟩ := prefB_ok (b0 := b0 + 1) (fun i n' hi => by have := hn (i + 1) n' (by simpa using hi); omega) h
      refine ⟨fun b hb => ?_, by simp; omega⟩
      cases b with
      | zero => simp; omega
      | succ b => have := h1 b (by omega); simp; rw [this]; congr 1; omega
    · simp at h
theorem resS_ok {T : Ty} (hT : ∀ t d, T t = some d → tyOf P t = some d) (hD : Den ρ S H) (ht : TSD ρ t t') : ∀ {rs : List ResultVar} {K : List SV → Prop}, resS T t S rs K → ∃ vs vs', K vs ∧ resA (tyOf P) t' H rs = some vs' ∧ LDR ρ vs vs'
  | [], K, h => ⟨[], [], h, rfl, .nil ρ⟩
  | .tmp i :: r, K, h => by
    simp only [resS, getT_eq] at h
    split at h
    · rename_i u hu
      split at h
      · rename_i v hv
        obtain ⟨rfl, hd⟩ := liveS_ok hv
        obtain ⟨u', hu', hr⟩ := ht.get hu
        have hr := hr.live hd
        obtain ⟨vs, vs', h1, h2, h3⟩ := resS_ok hT hD ht h
        exact ⟨_, _, h1, by simp [resA, liveAt, hu', hr.alive, h2], .cons hr h3⟩
      · exact h.elim
    · exact h.elim
  | .cell i ty :: r, K, h => by
    simp only [resS, getT_eq] at h
    split at h
    · rename_i u hu
      split at h
      · rename_i v hv
        obtain ⟨rfl, hd⟩ := liveS_ok hv
        obtain ⟨u', hu', hr⟩ := ht.get hu
        have hr := hr.live hd
        split at h
        · rename_i d hty
          obtain ⟨w, w', g1, g2, g3⟩ := loadS_ok hD (hT _ _ hty) hr h
          obtain ⟨vs, vs', h1, h2, h3⟩ := resS_ok hT hD ht g1
          exact ⟨_, _, h1, by simp [resA, liveAt, hu', hr.alive, h2, g2], .cons g3 h3⟩
        · exact h.elim
      · exact h.elim
    · exact h.elim
theorem packS_dr {vs : List SV} {vs' : List Value} (h : LDR ρ vs vs') : DR ρ (packS vs) (packR vs') := by
  match vs, vs', h with
  | [], vs', h => rw [h.inv_nil]; exact .tup _ _ rfl fun i v v' h => by simp at h
  | [v], vs', h => obtain ⟨v', r, rfl, h1, h2⟩ := h.inv_cons; rw [h2.inv_nil]; exact h1
  | v :: u :: r, vs', h =>
    obtain ⟨v', r1, rfl, h1, h2⟩ := h.inv_cons
    obtain ⟨u', r2, rfl, h3, h4⟩ := h2.inv_cons
    exact .tup _ _ h.1 h.2
/-- A function's end, as the caller sees it. -/
theorem fin_ok {v : SV} {v' : Value} {K : SV → List SB → Prop} (hA : At k H0 ρ0 ρ t S t' H) (hS : S'.length = k) (hd0 : Dom ρ0 S' H0) (hr : DR ρ v v') (h : finK k v S K) : ∃ v2 S2 ρ2, K v2 S2 ∧ DR ρ2 v2 v' ∧ Step ρ0 S' H0 ρ2 S2 H := by
  unfold finK at h
  rw [forceL_iff] at h
  generalize closeN S 60 (namesV v (firstN k nums)) 0 = ks at h
  split at h
  · rename_i hc
    simp only [Bool.and_eq_true] at hc
    have hnd := nodB_ok hc.1
    obtain ⟨hpre, hkl⟩ := prefB_ok nums_at hc.2
    let ρ2 : Nm := fun j => (ks[j]?).bind ρ
    have hg : ∀ b c p, idxN ks nums b = some c → ρ b = some p → ρ2 c = some p := fun b c p e1 e2 => by
      obtain ⟨i, rfl, hi⟩ := idxN_ok nums_at e1
      simp [ρ2, hi, e2]
    have at2 : ∀ j p, ρ2 j = some p → ∃ b, ks[j]? = some b ∧ ρ b = some p := fun j p e => by
      simp only [ρ2] at e
      cases hb : ks[j]? with
      | none => simp [hb] at e
      | some b => exact ⟨b, rfl, by simpa [hb] using e⟩
    have hinj : ∀ i j b, ks[i]? = some b → ks[j]? = some b → i = j := fun i j b e1 e2 => nodup_at hnd e1 e2
    obtain ⟨v2, h, hv2⟩ := renK_ok hg h
    obtain ⟨S2, h, hlen, hin, hpick⟩ := pickK_ok hg h
    refine ⟨v2, S2, ρ2, h, hv2 _ hr, fun b p e => ?_, ⟨fun j y hy hgy => ?_, fun i j id w w' e1 e2 => ?_⟩, fun j id w e => ?_, fun j id w e => ?_, hA.len, by omega, hA.keep⟩
    · have hb : b < k := by have := (hd0 b p.1 p.2 e).1; omega
      have := hpre b hb
      rw [Nat.zero_add] at this
      simp only [ρ2, this, Option.bind_some]
      rw [hA.fix b hb]; exact e
    · have hj : j < ks.length := by rw [← hlen]; exact (List.getElem?_eq_some_iff.1 hy).1
      obtain ⟨x, h1, h2, h3⟩ := hpick j ks[j] y (by simp [hj]) hy
      obtain ⟨id, w, kb, g1, g2, g3⟩ := hA.den.blk _ x h1 (by rw [← h2]; exact hgy)
      exact ⟨id, w, kb, by simp [ρ2, hj, g1], g2, h3 w kb g3⟩
    · obtain ⟨b, a1, a2⟩ := at2 _ _ e1
      obtain ⟨b', b1, b2⟩ := at2 _ _ e2
      have := hA.den.inj _ _ _ _ _ a2 b2
      subst this
      exact hinj i j b a1 b1
    · obtain ⟨b, a1, a2⟩ := at2 _ _ e
      exact ⟨by rw [hlen]; exact (List.getElem?_eq_some_iff.1 a1).1, (hA.dom b id w a2).2⟩
    · obtain ⟨b, a1, a2⟩ := at2 _ _ e
      by_cases hj : j < k
      · have := hpre j hj
        rw [Nat.zero_add, a1] at this
        obtain rfl := Option.some.inj this
        left; rw [← hA.fix b hj]; exact a2
      · right
        refine ⟨by omega, hA.new b id w ?_ a2⟩
        by_cases hb : b < k
        · have := hpre b hb
          rw [Nat.zero_add] at this
          have := hinj _ _ _ a1 this; omega
        · omega
  · exact h.elim
end
end Go.Proofs.Ytbmejhabgoimeaa.Eng
set_option linter.unusedVariables false
set_option linter.unusedSimpArgs false
namespace Go.Proofs.Ytbmejhabgoimeaa.Eng
open Go Go.RowKit

/-! ### regions that draw their order -/
/-- The row that an operation which makes a variable makes. -/
def zeroB (T : Ty) (ty : Nat) : Option SB := match T ty with
  | some d => match ofVs d.zero with
    | some cs => newB T ty d cs d.fl
    | none => none
  | none => none
/-- Variables are laid ahead. -/
def preK (T : Ty) : List Oper → List SB → (List Nat → List SB → Prop) → Prop
  | [], S, K => K [] S
  | o :: r, S, K => match o.op with
    | .alloc ty => match zeroB T ty with
      | some x => pushK x S nums fun n S' => preK T r S' fun ns S'' => K (n :: ns) S''
      | none => False
    | _ => preK T r S K
def drS (T : Ty) (Q : Nat → Bool) (E : Env) (k : Nat) (ops : List Oper) : List Oper → List Nat → List SV → List SB → (List (Bool × SV) → List (List SB) → List SV → List SB → Prop) → Prop
  | [], _, t, S, K => K [] [S] t S
  | o :: r, an, t, S, K => wantK ops o t fun q t => match q with
    | true => match isHeapO o with
      | true => stepS T Q E k t S o.op fun v S' => putK t o.dst v fun t' => drS T Q E k ops r an t' S' fun xs hs t S'' => K ((true, v) :: xs) (S :: hs) t S''
      | false => match o.op with
        | .alloc ty => match an with
          | n :: an' => match zeroB T ty with
            | some x => VC (getT S n = some x) ∧ putK t o.dst (.ptr n 0 0) fun t' => drS T Q E k ops r an' t' S fun xs hs t S' => K ((true, .ptr n 0 0) :: xs) hs t S'
            | none => False
          | [] => False
        | op => opS T Q k t S op fun v S' => putK t o.dst v fun t' => drS T Q E k ops r an t' S' fun xs hs t S'' => K ((true, v) :: xs) hs t S''
    | false => match isHeapO o with
      | true => putK t o.dst (.tup []) fun t' => drS T Q E k ops r an t' S fun xs hs t S' => K ((false, .tup []) :: xs) (S :: hs) t S'
      | false => match isAllocO o with
        | true => False
        | false => putK t o.dst (.tup []) fun t' => drS T Q E k ops r an t' S fun xs hs t S' => K ((false, .tup []) :: xs) hs t S'
/-- What may be read at another time reads the same. -/
def rcS (T : Ty) (ops : List Oper) (xs : List (Bool × SV)) (hs : List (List SB)) (t : List SV) : List (Nat × Nat) → Prop
  | [] => True
  | (i, k) :: r => (match getT ops i with
    | none => False
    | some o => match getT xs i with
      | none => False
      | some (q, v) => match getT hs k with
        | none => False
        | some S => match q with
          | false => True
          | true => match o.op with
            | .alloc ty => match v with
              | .ptr n 0 0 => match zeroB T ty with
                | some x => VC (getT S n = some x)
                | none => False
              | _ => False
            | .load ty x => match T ty with
              | some d => evK t x fun a => loadS d S a fun u => VC (u = v)
              | none => False
            | .slice ty x lo hi mx => evK t x fun a => optK t lo fun l => optK t hi fun h => optK t mx fun m => sliceS T ty S a l h m fun u => VC (u = v)
            | _ => False) ∧ rcS T ops xs hs t r
/-- The facts on a region that need no walk. -/
def DrawOk (P : Program) (ops : Array Oper) (rl : List (Nat × Nat)) : Prop := P.follows .mixedOrders = true ∧ drawOk ops = true ∧ rcOk ops rl = true
def drawS (P : Program) (T : Ty) (Q : Nat → Bool) (E : Env) (k : Nat) (rl : List (Nat × Nat)) (ops : Array Oper) (t : List SV) (S : List SB) (K : List SV → List SB → Prop) : Prop :=
  VC (DrawOk P ops rl) ∧ preK T ops.toList S fun ns S => drS T Q E k ops.toList ops.toList ns t S fun xs hs t S => rcS T ops.toList xs hs t rl ∧ K t S

section
variable {P : Program} {T : Ty} {Q : Nat → Bool} {E : Env} {k B : Nat} {H0 : Heap} {ρ0 ρ ρ' : Nm} {t t2 : List SV} {S S' : List SB} {t' : List Value} {H H' : Heap} {o : Oper} {R : SQ}

theorem zeroB_ok (hT : TabOk P T Q) {ty : Nat} {x : SB} (h : zeroB T ty = some x) : ∃ d w, tyOf P ty = some d ∧ isGone x = false ∧ (∀ ρ, BR ρ x w ⟨d.zero, 0, true, d.fl⟩) ∧ ∀ ρ w' kb, BR ρ x w' kb → kb = ⟨d.zero, 0, true, d.fl⟩ := by
  unfold zeroB at h
  split at h
  · rename_i d hd
    split at h
    · rename_i cs hcs
      obtain ⟨w, h1, h2⟩ := newB_ok (ρ := fun _ => none) (ofVs_ok hcs).1 h
      refine ⟨d, w, hT.1 _ _ hd, h1, fun ρ => h2 ρ fun b p e => by simp at e, fun ρ w' kb hk => ?_⟩
      have h3 := h2 ρ fun b p e => by simp at e
      obtain ⟨c, s, wr, fl⟩ := kb
      cases x with
      | gone => simp [isGone] at h1
      | box cs' wr' fl' =>
        have hw : wr' = true := by
          unfold newB at h
          repeat' split at h
          all_goals first | (simp at h; done) | (simp only [Option.some.injEq, SB.box.injEq] at h; exact h.2.1.symm)
        have e1 := LDR.fun2 hk.1 h3.1
        simp only at e1
        obtain ⟨_, e2, e3, e4⟩ := hk
        simp only at e2 e3 e4
        have e5 := h3.2.2.2
        simp only at e5
        subst e1; subst e2; subst e4; subst e5
        simp [e3 hw]
      | arrO e l sz =>
        unfold newB at h
        repeat' split at h
        all_goals simp at h
      | arr e l sz wr' =>
        have hw : wr' = true := by
          unfold newB at h
          repeat' split at h
          all_goals first | (simp at h; done) | (simp only [Option.some.injEq, SB.arr.injEq] at h; exact h.2.2.2.symm)
        have e1 := LDR.fun2 hk.2.2.2.2 h3.2.2.2.2
        have e2 := hk.2.1
        have e6 := h3.2.1
        have e4 := hk.2.2.2.1
        have e5 := h3.2.2.2.1
        have e3 := hk.2.2.1 hw
        simp only at e1 e2 e3 e4 e5 e6
        subst e1; subst e3; subst e4
        rw [e2, ← e6, ← e5]
    · simp at h
  · simp at h
theorem preK_ok (hT : TabOk P T Q) : ∀ {l : List Oper} {S : List SB} {H : Heap} {ρ : Nm} {K : List Nat → List SB → Prop}, Den ρ S H → Dom ρ S H → preK T l S K →
    ∃ ns S1 pre ρ1, K ns S1 ∧ Step ρ S H ρ1 S1 (H ++ pre) ∧ pre.length = cl isAllocO l l.length ∧ ns.length = pre.length ∧ pre.all (fun b => match b with | some b => b.cells.all flatV | none => true) = true ∧ ∀ (j n : Nat), ns[j]? = some n → ∃ w, ρ1 n = some (H.length + j, w)
  | [], S, H, ρ, K, hD, hd, h => ⟨[], S, [], ρ, h, by rw [List.append_nil]; exact .refl hD hd, rfl, rfl, rfl, fun j n e => by simp at e⟩
  | o :: r, S, H, ρ, K, hD, hd, h => by
    simp only [preK] at h
    split at h
    · rename_i ty hop
      split at h
      · rename_i x hx
        obtain ⟨d, w, hty, hg, hb, _⟩ := zeroB_ok hT hx
        obtain ⟨ρ', S', h, h2, h3⟩ := push_ok (w := w) (k := ⟨d.zero, 0, true, d.fl⟩) hD hd (fun ρ' _ => hb ρ') h
        obtain ⟨ns, S1, pre, ρ1, g1, g2, g3, g4, g5, g6⟩ := preK_ok hT h3.den h3.dom h
        refine ⟨S.length :: ns, S1, some ⟨d.zero, 0, true, d.fl⟩ :: pre, ρ1, g1, ?_, ?_, by simp [g4], ?_, fun j n e => ?_⟩
        · have := h3.trans g2
          rwa [List.append_assoc] at this
        · simp [cl, isAllocO, hop, g3]; omega
        · simp only [List.all_cons, g5, Bool.and_true]; exact (tyOf_ok P _ _ hty).zflat
        · cases j with
          | zero => simp at e; subst e; exact ⟨w, g2.le _ _ h2⟩
          | succ j => obtain ⟨w', e'⟩ := g6 j n (by simpa using e); exact ⟨w', by rw [e']; simp; omega⟩
      · exact h.elim
    · rename_i hne
      obtain ⟨ns, S1, pre, ρ1, g1, g2, g3, g4⟩ := preK_ok hT hD hd h
      refine ⟨ns, S1, pre, ρ1, g1, g2, ?_, g4⟩
      have : isAllocO o = false := by
        unfold isAllocO
        split
        · rename_i e he; exact absurd he (hne e)
        · rfl
      simp [cl, this, g3]
theorem read_same {o : Oper} {v : Value} (h1 : isHeapO o = false) (h2 : isAllocO o = false) (h : opA (tyOf P) (eqOf P) B t' H o = some (v, H')) : H' = H := by
  by_cases hp : isPure o = true
  · exact (opA_pure hp h).1
  · have hp : isPure o = false := by simpa using hp
    have hr : isReadO o = true := by simpa [isHeapO, hp, h2] using h1
    obtain ⟨dst, op, ty0, pos, after, guard⟩ := o
    unfold isReadO at hr
    simp only at hr
    split at hr
    · simp only [opA] at h
      split at h
      · simp only [Option.map_eq_some_iff] at h
        obtain ⟨u, _, e⟩ := h
        exact (Prod.mk.inj e).2.symm
      · simp at h
    · simp only [opA] at h
      split at h
      · rename_i hv1 hv2 hv3 hv4
        simp only [Option.map_eq_some_iff] at h
        obtain ⟨u, _, e⟩ := h
        exact (Prod.mk.inj e).2.symm
      · simp at h
    · simp at hr
/-- What is told of a list of heaps, and of answers. -/
def HsR (ρ : Nm) (hs : List (List SB)) (hs' : List Heap) : Prop := hs.length = hs'.length ∧ ∀ (j : Nat) S H, hs[j]? = some S → hs'[j]? = some H → Den ρ S H
def XsR (ρ : Nm) (xs : List (Bool × SV)) (xs' : List (Bool × Value)) : Prop := xs.length = xs'.length ∧ ∀ (j : Nat) x x', xs[j]? = some x → xs'[j]? = some x' → x.1 = x'.1 ∧ DR ρ x.2 x'.2
theorem Den.mono2 {ρ1 : Nm} (hD : Den ρ S H) (hm : NLe ρ ρ1) (hi : ∀ (b b' id w w' : Nat), ρ1 b = some (id, w) → ρ1 b' = some (id, w') → b = b') : Den ρ1 S H := by
  refine ⟨fun b x hb hg => ?_, hi⟩
  obtain ⟨id, w, k, h1, h2, h3⟩ := hD.blk b x hb hg
  exact ⟨id, w, k, hm _ _ h1, h2, h3.mono hm⟩
theorem XsR.cons {x : Bool × SV} {x' : Bool × Value} {xs xs'} (h : x.1 = x'.1 ∧ DR ρ x.2 x'.2) (k : XsR ρ xs xs') : XsR ρ (x :: xs) (x' :: xs') := by
  refine ⟨by simp [k.1], fun j y y' e1 e2 => ?_⟩
  cases j with
  | zero => simp at e1 e2; subst e1; subst e2; exact h
  | succ j => exact k.2 j y y' (by simpa using e1) (by simpa using e2)
theorem HsR.cons {hs hs'} (h : Den ρ S H) (k : HsR ρ hs hs') : HsR ρ (S :: hs) (H :: hs') := by
  refine ⟨by simp [k.1], fun j y y' e1 e2 => ?_⟩
  cases j with
  | zero => simp at e1 e2; subst e1; subst e2; exact h
  | succ j => exact k.2 j y y' (by simpa using e1) (by simpa using e2)

theorem drS_ok (hT : TabOk P T Q) (hE : EnvOk P E) {ops : Array Oper} {base : Nat} : ∀ {l : List Oper} {an : List Nat} {nal : Nat} {t : List SV} {S : List SB} {ρ : Nm} {t' : List Value} {H : Heap} {K : List (Bool × SV) → List (List SB) → List SV → List SB → Prop},
    At k H0 ρ0 ρ t S t' H → (∀ (j n : Nat), an[j]? = some n → ∃ w, ρ n = some (base + (nal + j), w)) → drS T Q E k ops.toList l an t S K →
    ∃ xs' hs' tf Hf, DX P H0.length ops base nal l t' H xs' hs' tf Hf ∧ ∃ xs hs t2 S2 ρ2, K xs hs t2 S2 ∧ At k H0 ρ0 ρ2 t2 S2 tf Hf ∧ NLe ρ ρ2 ∧ XsR ρ2 xs xs' ∧ HsR ρ2 hs hs'
  | [], an, nal, t, S, ρ, t', H, K, hA, _, h => ⟨[], [H], t', H, ⟨rfl, rfl, rfl, rfl⟩, [], [S], t, S, ρ, h, hA, .refl _, ⟨rfl, fun j x x' e => by simp at e⟩, HsR.cons hA.den ⟨rfl, fun j x x' e => by simp at e⟩⟩
  | o :: r, an, nal, t, S, ρ, t', H, K, hA, han, h => by
    simp only [drS] at h
    obtain ⟨q, hq, h⟩ := wantK_ok hA.ts h
    cases q with
    | true =>
      simp only at h
      cases hh : isHeapO o with
      | true =>
        simp only [hh] at h
        have ha : isAllocO o = false := by
          cases ha : isAllocO o with
          | false => rfl
          | true => simp [isHeapO, ha] at hh
        obtain ⟨v, v', S1, H1, ρ1, h, k2, k3, k4⟩ := stepS_ok hT hE hA h
        obtain ⟨t1, h, hp⟩ := putK_ok h
        have hA1 := hA.step k4 (hp (hA.ts.mono k4.le) (.inr k3))
        obtain ⟨xs', hs', tf, Hf, g1, xs, hs, t2, S2, ρ2, g2, g3, g4, g5, g6⟩ := drS_ok hT hE hA1 (fun j n e => by obtain ⟨w, hw⟩ := han j n e; exact ⟨w, k4.le _ _ hw⟩) h
        refine ⟨(true, v') :: xs', H :: hs', tf, Hf, ⟨true, v', xs', rfl, hq, fun e => by simp at e, ?_⟩, (true, v) :: xs, S :: hs, t2, S2, ρ2, g2, g3, k4.le.trans g4, XsR.cons ⟨rfl, k3.ren g4⟩ g5, HsR.cons (hA.den.mono2 (k4.le.trans g4) g3.den.inj) g6⟩
        rw [if_pos hh]
        exact ⟨H1, hs', rfl, by simpa using k2, g1⟩
      | false =>
        simp only [hh] at h
        split at h
        · rename_i ty hop
          have ha : isAllocO o = true := by simp [isAllocO, hop]
          cases an with
          | nil => exact h.elim
          | cons n an' =>
            simp only at h
            split at h
            · rename_i x hx
              obtain ⟨⟨hz⟩, h⟩ := h
              obtain ⟨d, w0, hty, hgx, _, hall⟩ := zeroB_ok hT hx
              obtain ⟨w, hw⟩ := han 0 n rfl
              have hw : ρ n = some (base + nal, w) := by simpa using hw
              have hD := hA.den.get hz hgx hw
              obtain ⟨kb, hkb, hbr⟩ := hD
              have := hall _ _ _ hbr
              subst this
              obtain ⟨t1, h, hp⟩ := putK_ok h
              have hv : DR ρ (.ptr n 0 0) (.pointer (some ⟨base + nal, 0, none⟩)) := ptr0 hw
              have hA1 := hA.frame (hp hA.ts (.inr hv))
              obtain ⟨xs', hs', tf, Hf, g1, xs, hs, t2, S2, ρ2, g2, g3, g4, g5, g6⟩ := drS_ok hT hE (nal := nal + 1) hA1 (fun j m e => by obtain ⟨w, hw⟩ := han (j + 1) m (by simpa using e); exact ⟨w, by rw [hw, show nal + (j + 1) = nal + 1 + j by omega]⟩) h
              refine ⟨(true, .pointer (some ⟨base + nal, 0, none⟩)) :: xs', hs', tf, Hf, ⟨true, _, xs', rfl, hq, fun e => by simp at e, ?_⟩, (true, .ptr n 0 0) :: xs, hs, t2, S2, ρ2, g2, g3, g4, XsR.cons ⟨rfl, hv.ren g4⟩ g5, g6⟩
              rw [if_neg (by simp [hh])]
              refine ⟨fun _ => ?_, by simpa [ha] using g1⟩
              unfold ReadP
              rw [hop]
              exact ⟨d, hty, rfl, hkb⟩
            · exact h.elim
        · rename_i hne
          have ha : isAllocO o = false := by
            unfold isAllocO
            split
            · rename_i e he; exact absurd he (hne e)
            · rfl
          obtain ⟨v, v', S1, H1, ρ1, h, k2, k3, k4⟩ := opS_sound (o := o) hT hA.den hA.dom hA.ts hA.new h
          have := read_same hh ha k2
          subst this
          obtain ⟨t1, h, hp⟩ := putK_ok h
          have hA1 := hA.step k4 (hp (hA.ts.mono k4.le) (.inr k3))
          obtain ⟨xs', hs', tf, Hf, g1, xs, hs, t2, S2, ρ2, g2, g3, g4, g5, g6⟩ := drS_ok hT hE (nal := nal) hA1 (fun j n e => by obtain ⟨w, hw⟩ := han j n e; exact ⟨w, k4.le _ _ hw⟩) h
          refine ⟨(true, v') :: xs', hs', tf, Hf, ⟨true, v', xs', rfl, hq, fun e => by simp at e, ?_⟩, (true, v) :: xs, hs, t2, S2, ρ2, g2, g3, k4.le.trans g4, XsR.cons ⟨rfl, k3.ren g4⟩ g5, g6⟩
          rw [if_neg (by simp [hh])]
          refine ⟨fun _ => ?_, by simpa [ha] using g1⟩
          unfold ReadP
          split
          · rename_i e he; exact absurd he (hne e)
          · exact k2
    | false =>
      simp only at h
      cases hh : isHeapO o with
      | true =>
        simp only [hh] at h
        obtain ⟨t1, h, hp⟩ := putK_ok h
        have hA1 := hA.frame (hp hA.ts (.inr (undef_dr ρ)))
        obtain ⟨xs', hs', tf, Hf, g1, xs, hs, t2, S2, ρ2, g2, g3, g4, g5, g6⟩ := drS_ok hT hE hA1 han h
        refine ⟨(false, undef) :: xs', H :: hs', tf, Hf, ⟨false, undef, xs', rfl, hq, fun _ => rfl, ?_⟩, (false, .tup []) :: xs, S :: hs, t2, S2, ρ2, g2, g3, g4, XsR.cons ⟨rfl, undef_dr _⟩ g5, HsR.cons (hA.den.mono2 g4 g3.den.inj) g6⟩
        rw [if_pos hh]
        exact ⟨H, hs', rfl, by simp, g1⟩
      | false =>
        simp only [hh] at h
        cases ha : isAllocO o with
        | true => simp only [ha] at h
        | false =>
          simp only [ha] at h
          obtain ⟨t1, h, hp⟩ := putK_ok h
          have hA1 := hA.frame (hp hA.ts (.inr (undef_dr ρ)))
          obtain ⟨xs', hs', tf, Hf, g1, xs, hs, t2, S2, ρ2, g2, g3, g4, g5, g6⟩ := drS_ok hT hE hA1 han h
          refine ⟨(false, undef) :: xs', hs', tf, Hf, ⟨false, undef, xs', rfl, hq, fun _ => rfl, ?_⟩, (false, .tup []) :: xs, hs, t2, S2, ρ2, g2, g3, g4, XsR.cons ⟨rfl, undef_dr _⟩ g5, g6⟩
          rw [if_neg (by simp [hh])]
          exact ⟨fun e => by simp at e, by simpa [ha] using g1⟩
theorem rcS_ok (hT : TabOk P T Q) {ops : Array Oper} {base : Nat} {xs : List (Bool × SV)} {xs' : List (Bool × Value)} {hs : List (List SB)} {hs' : List Heap} (ht : TSD ρ t t') (hx : XsR ρ xs xs') (hh : HsR ρ hs hs')
    (hal : ∀ (i : Nat) (o : Oper) (v : Value), ops[i]? = some o → isAllocO o = true → xs'[i]? = some (true, v) → v = .pointer (some ⟨base + cl isAllocO ops.toList i, 0, none⟩)) :
    ∀ {rl : List (Nat × Nat)}, rcS T ops.toList xs hs t rl → RC P B ops base xs' hs' t' rl
  | [], _ => trivial
  | (i, k) :: r, h => by
    simp only [rcS, getT_eq, Array.getElem?_toList] at h
    obtain ⟨h, hr⟩ := h
    refine ⟨?_, rcS_ok hT ht hx hh hal hr⟩
    split at h
    · exact h.elim
    · rename_i o ho
      split at h
      · exact h.elim
      · rename_i q v hxi
        split at h
        · exact h.elim
        · rename_i S hS
          have hi : i < xs'.length := by rw [← hx.1]; exact (List.getElem?_eq_some_iff.1 hxi).1
          have hk : k < hs'.length := by rw [← hh.1]; exact (List.getElem?_eq_some_iff.1 hS).1
          obtain ⟨e1, e2⟩ := hx.2 i (q, v) xs'[i] hxi (by simp [hi])
          have hDen := hh.2 k S hs'[k] hS (by simp [hk])
          refine ⟨o, xs'[i].1, xs'[i].2, hs'[k], ho, by simp [hi], by simp [hk], fun hq => ?_⟩
          simp only at e1 e2
          rw [e1, hq] at h
          simp only at h
          split at h
          · rename_i ty hop
            split at h
            · rename_i n
              split at h
              · rename_i x hx0
                obtain ⟨hz⟩ := h
                obtain ⟨d, w0, hty, hgx, _, hall⟩ := zeroB_ok hT hx0
                unfold ReadP
                rw [hop]
                have hv := hal i o xs'[i].2 ho (by simp [isAllocO, hop]) (by rw [← hq]; simp [hi])
                refine ⟨d, hty, hv, ?_⟩
                rw [hv] at e2
                generalize hid : base + cl isAllocO ops.toList i = id at e2
                have e3 : ∃ w, ρ n = some (id, w) := by
                  generalize hvv : Value.pointer (some ⟨id, 0, none⟩) = vv at e2
                  cases e2 with
                  | ptr _ _ _ id' w hb =>
                    simp at hvv
                    exact ⟨w, by rw [hvv]; exact hb⟩
                obtain ⟨w, hw⟩ := e3
                obtain ⟨kb, h1, h2⟩ := hDen.get (by rw [getT_eq]; exact hz) hgx hw
                rw [h1, hall _ _ _ h2]
              · exact h.elim
            · exact h.elim
          · rename_i ty x hop
            split at h
            · rename_i d hty
              obtain ⟨a, a', h, g2, g3⟩ := evK_ok ht h
              obtain ⟨u, u', ⟨h⟩, f2, f3⟩ := loadS_ok (P := P) hDen (hT.1 _ _ hty) g3 h
              subst h
              unfold ReadP
              rw [hop]
              simp only [opA, hop, g2, f2]
              rw [f3.fun e2]; rfl
            · exact h.elim
          · rename_i ty x lo hi mx hop
            obtain ⟨a, a', h, g2, g3⟩ := evK_ok ht h
            obtain ⟨l1, h, e4⟩ := optK_ok ht h
            obtain ⟨l2, h, e5⟩ := optK_ok ht h
            obtain ⟨l3, h, e6⟩ := optK_ok ht h
            obtain ⟨u, u', ⟨h⟩, f2, f3⟩ := sliceS_ok hT hDen g3 h
            subst h
            unfold ReadP
            rw [hop]
            simp only [opA, hop, g2, e4, e5, e6, f2]
            rw [f3.fun e2]; rfl
          · exact h.elim
theorem DX_alloc {ops : Array Oper} {base : Nat} : ∀ {l : List Oper} {nal : Nat} {t : List Value} {H : Heap} {xs hs tf Hf}, DX P B ops base nal l t H xs hs tf Hf → ∀ (i : Nat) (o : Oper) (v : Value), l[i]? = some o → isAllocO o = true → xs[i]? = some (true, v) → v = .pointer (some ⟨base + (nal + cl isAllocO l i), 0, none⟩)
  | [], _, _, _, _, _, _, _, _, i, o, v, h, _, _ => by simp at h
  | o :: r, nal, t, H, xs, hs, tf, Hf, h, i, o', v, ho, ha, hx => by
    obtain ⟨q, v0, xs', rfl, hw, hu, h⟩ := h
    cases i with
    | zero =>
      simp at ho hx; subst ho
      obtain ⟨rfl, rfl⟩ := hx
      rw [if_neg (by simp [isHeapO, ha])] at h
      have := h.1 rfl
      unfold ReadP at this
      split at this
      · obtain ⟨d, _, e, _⟩ := this; simpa [cl] using e
      · rename_i hne
        unfold isAllocO at ha
        split at ha
        · rename_i e he; exact absurd he (hne e)
        · simp at ha
    | succ i =>
      simp only [List.getElem?_cons_succ] at ho hx
      split at h
      · rename_i hh
        obtain ⟨H', hs', rfl, _, h⟩ := h
        have ha0 : isAllocO o = false := by
          cases ha : isAllocO o with
          | false => rfl
          | true => simp [isHeapO, ha] at hh
        have := DX_alloc h i o' v ho ha hx
        simpa [cl, ha0] using this
      · have := DX_alloc h.2 i o' v ho ha hx
        rw [this]
        simp only [cl]
        congr 3
        split <;> omega
theorem X_draw (hT : TabOk P T Q) (hE : EnvOk P E) {id : Nat} {ops : Array Oper} {rl : List (Nat × Nat)} (h : drawS P T Q E k rl ops t S (fun t S => R .normal t S)) : X P k (.region id ops true) t S R := fun H0 ρ0 ρ t' H hA => by
  obtain ⟨⟨hm, hok, hrl⟩, h⟩ := h
  obtain ⟨ns, S1, pre, ρ1, h, p2, p3, p4, p5, p6⟩ := preK_ok hT hA.den hA.dom h
  have hA1 := hA.step p2 (hA.ts.mono p2.le)
  obtain ⟨xs', hs', tf, Hf, g1, xs, hs, t2, S2, ρ2, ⟨hrc, g2⟩, g3, g4, g5, g6⟩ := drS_ok (base := H.length) hT hE (nal := 0) hA1 (fun j n e => by obtain ⟨w, hw⟩ := p6 j n e; exact ⟨w, by rw [hw, Nat.zero_add]⟩) h
  have hal : ∀ (i : Nat) (o : Oper) (v : Value), ops[i]? = some o → isAllocO o = true → xs'[i]? = some (true, v) → v = .pointer (some ⟨H.length + cl isAllocO ops.toList i, 0, none⟩) := fun i o v ho ha hx => by
    have := DX_alloc g1 i o v (by rw [Array.getElem?_toList]; exact ho) ha hx
    rwa [Nat.zero_add] at this
  refine ⟨.normal, tf, Hf, Ex_dr hm rl hok hrl p3 p5 rfl g1 (rcS_ok hT g3.ts g5 g6 hal hrc) ⟨rfl, rfl, rfl⟩, t2, S2, ρ2, g2, g3⟩
end
end Go.Proofs.Ytbmejhabgoimeaa.Eng
set_option linter.unusedVariables false
set_option linter.unusedSimpArgs false
namespace Go.Proofs.Ytbmejhabgoimeaa.Eng
open Go Go.RowKit

/-! ### the walk -/
structure LoopX (P : Program) (k : Nat) (c : Code) (t : List SV) (S : List SB) (R : SQ) : Prop where
  h : X P k (.loop c) t S R
def lookD : List (Nat × List (Nat × Nat)) → Nat → List (Nat × Nat)
  | [], _ => []
  | p :: r, id => match Nat.beq p.1 id with | true => p.2 | false => lookD r id
/-- What is still to be walked. -/
structure WX (P : Program) (T : Ty) (Q : Nat → Bool) (E : Env) (D : List (Nat × List (Nat × Nat))) (k : Nat) (c : Code) (t : List SV) (S : List SB) (R : SQ) : Prop where
  h : TabOk P T Q → EnvOk P E → X P k c t S R
section
variable (P : Program) (T : Ty) (Q : Nat → Bool) (E : Env) (D : List (Nat × List (Nat × Nat))) (k : Nat)
def wpx : Code → List SV → List SB → SQ → Prop
  | .skip, t, S, R => R .normal t S
  | .region id ops draw, t, S, R => match draw with
    | false => regS T Q E k ops.toList ops.toList t S fun t S => R .normal t S
    | true => drawS P T Q E k (lookD D id) ops t S fun t S => R .normal t S
  | .seq a b, t, S, R => wpx a t S (thenS (fun t S => WX P T Q E D k b t S R) R)
  | .cond c a b, t, S, R => match evS t c with
    | some v => match v with
      | .bool q => match c with
        | .tmp i => splitB q (setK t i (.bool true) fun t => WX P T Q E D k a t S R) (setK t i (.bool false) fun t => WX P T Q E D k b t S R)
        | _ => splitB q (WX P T Q E D k a t S R) (WX P T Q E D k b t S R)
      | _ => False
    | none => False
  | .block id c, t, S, R => wpx c t S (inBlockS id R)
  | .loop c, t, S, R => LoopX P k c t S R
  | .exit id, t, S, R => R (.exit id) t S
  | .ret, t, S, R => R .ret t S
  | _, _, _, _ => False
end
section
variable {P : Program} {T : Ty} {Q : Nat → Bool} {E : Env} {D : List (Nat × List (Nat × Nat))} {k : Nat} {c : Code} {t : List SV} {S : List SB} {R : SQ}
theorem wpx_ok (hT : TabOk P T Q) (hE : EnvOk P E) : ∀ {c : Code} {t : List SV} {S : List SB} {R : SQ}, wpx P T Q E D k c t S R → X P k c t S R := by
  intro c
  induction c with
  | skip => intro t S R h H0 ρ0 ρ t' H hA; exact ⟨.normal, t', H, Ex_skip ⟨rfl, rfl, rfl⟩, t, S, ρ, h, hA⟩
  | region id ops draw =>
    intro t S R h
    simp only [wpx] at h
    split at h
    · exact X_region hT hE h
    · exact X_draw hT hE h
  | seq a b iha ihb =>
    intro t S R h
    simp only [wpx] at h
    refine X_seq ((iha h).mono fun e t S h => ?_)
    cases e <;> first | exact h | exact WX.h h hT hE
  | cond c a b iha ihb =>
    intro t S R h
    simp only [wpx] at h
    split at h
    · rename_i v hv
      split at h
      · rename_i q
        refine X_cond hv ?_
        split at h
        · rename_i i
          simp only [evS] at hv
          have hi : t[i]? = some (.bool q) := by
            rw [getT_eq] at hv
            split at hv
            · rename_i u hu; obtain ⟨e, _⟩ := liveS_ok hv; rw [hu, ← e]
            · simp at hv
          cases q with
          | true =>
            have h := h.t rfl
            rw [setK_iff, set_same hi] at h
            simpa using WX.h h hT hE
          | false =>
            have h := h.f rfl
            rw [setK_iff, set_same hi] at h
            simpa using WX.h h hT hE
        · cases q with
          | true => simpa using (h.t rfl).h hT hE
          | false => simpa using (h.f rfl).h hT hE
      · exact h.elim
    · exact h.elim
  | block id c ih => intro t S R h; exact X_block (ih h)
  | loop c ih => intro t S R h; exact h.h
  | exit id => intro t S R h H0 ρ0 ρ t' H hA; exact ⟨.exit id, t', H, Ex_exit ⟨rfl, rfl, rfl⟩, t, S, ρ, h, hA⟩
  | ret => intro t S R h H0 ρ0 ρ t' H hA; exact ⟨.ret, t', H, Ex_ret ⟨rfl, rfl, rfl⟩, t, S, ρ, h, hA⟩
  | _ => intro t S R h; exact h.elim
theorem WX.of (h : wpx P T Q E D k c t S R) : WX P T Q E D k c t S R := ⟨fun hT hE => wpx_ok hT hE h⟩
/-- A loop in a walk. -/
theorem loopW (hT : TabOk P T Q) (hE : EnvOk P E) (D : List (Nat × List (Nat × Nat))) {σ : Type} {c : Code} (L : σ → List (Nat × SV)) (hp : σ → List SB) (μ : σ → Nat) (Inv : σ → Prop) (s0 : σ) (h0 : Inv s0) (hin : subX k t t S (L s0) (hp s0))
    (round : ∀ s, Inv s → forceL (frameK t (L s)) fun t1 => wpx P T Q E D k c t1 (hp s) (thenS (fun t1 S1 => ∃ s', μ s' < μ s ∧ Inv s' ∧ subX k t t1 S1 (L s') (hp s')) R)) : LoopX P k c t S R :=
  ⟨X_loop L hp μ Inv s0 h0 hin fun s hs => wpx_ok hT hE (forceL_iff.1 (round s hs))⟩
/-- A loop that ends in its first round. -/
theorem loop1 (hT : TabOk P T Q) (hE : EnvOk P E) (D : List (Nat × List (Nat × Nat))) {c : Code} (h : wpx P T Q E D k c t S (thenS (fun _ _ => False) R)) : LoopX P k c t S R := ⟨fun H0 ρ0 ρ t' H hA => by
  obtain ⟨e, t1, H1, h1, t2, S2, ρ2, h2, h3⟩ := wpx_ok hT hE h H0 ρ0 ρ t' H hA
  cases e with
  | normal => exact h2.elim
  | _ => exact ⟨_, t1, H1, Ex_rounds 1 (h1.mono fun e' t'' H'' ⟨a, b, c⟩ => by subst a; subst b; subst c; exact ⟨rfl, rfl, rfl⟩), t2, S2, ρ2, h2, h3⟩⟩
theorem drawOk_i {ops : Array Oper} {rl : List (Nat × Nat)} (h1 : P.follows .mixedOrders = true) (h2 : drawOk ops = true) (h3 : rcOk ops rl = true) : VC (DrawOk P ops rl) := ⟨h1, h2, h3⟩
def undefs (n : Nat) : List SV := List.replicate n (.tup [])
/-- A function. -/
theorem funW (hT : TabOk P T Q) (hE : EnvOk P E) (D : List (Nat × List (Nat × Nat))) {f : FuncId} {fn : Func} {c : Code} {rs : List ResultVar} {n k : Nat} {args : List SV} {S : List SB} {v0 : SV} {S0 : List SB} (hf : P.funcs[f]? = some fn) (hb : fn.body = some c) (hn : (fn.name == "runtime.NumGoroutine") = false)
    (hm : fn.ntmps = n) (hr : fn.results.toList = rs) (hk : S.length = k) (h : forceL (args ++ undefs (n - args.length)) fun t => wpx P T Q E D k c t S (retQ T k rs v0 S0)) : RunsS P f args S v0 S0 := fun H ρ args' hD hd ha => by
  subst hm; subst hr
  rw [forceL_iff] at h
  have hA : At k H ρ ρ (args ++ undefs (fn.ntmps - args.length)) S (args' ++ List.replicate (fn.ntmps - args'.length) undef) H := by
    refine ⟨hD, hd, ?_, Nat.le_refl _, fun _ _ => rfl, fun b id w hb e => ?_, fun _ _ _ => rfl, by omega⟩
    · rw [← ha.1]
      exact (ha.append (LDR.rep (undef_dr ρ) _)).ts
    · have := (hd b id w e).1; omega
  obtain ⟨e, t1, H1, h1, t2, S2, ρ2, h2, h3⟩ := wpx_ok hT hE h H ρ ρ _ H hA
  unfold retQ at h2
  split at h2
  · rename_i he
    obtain ⟨vs, vs', g1, g2, g3⟩ := resS_ok hT.1 h3.den h3.ts h2
    obtain ⟨v2, S3, ρ3, ⟨⟨e1⟩, ⟨e2⟩⟩, f2, f3⟩ := fin_ok h3 hk hd (packS_dr g3) g1
    subst e1; subst e2
    refine ⟨_, _, ρ3, Runs_pt (tyOf_ok P) hf hb hn h1 ?_ g2, f2, f3⟩
    cases e <;> first | exact .inl rfl | exact .inr rfl | simp [isEnd] at he
  · exact h2.elim
end
theorem w64 {n : Int} (h : -9223372036854775808 ≤ n ∧ n < 9223372036854775808) : IntKind.i64.wrap n = n := by
  simp [IntKind.wrap, IntKind.signed, IntKind.bits]
  omega
/-! ### the table of types -/
def TabE (P : Program) (p : Nat × TyD × Bool) : Prop := tyOf P p.1 = some p.2.1 ∧ (p.2.2 = true → eqOf P p.1 = true)
def TabAll (P : Program) : List (Nat × TyD × Bool) → Prop
  | [] => True
  | p :: r => TabE P p ∧ TabAll P r
def lookT : List (Nat × TyD × Bool) → Ty
  | [], _ => none
  | p :: r, t => match Nat.beq p.1 t with | true => some p.2.1 | false => lookT r t
def lookQ : List (Nat × TyD × Bool) → Nat → Bool
  | [], _ => false
  | p :: r, t => match Nat.beq p.1 t with | true => p.2.2 | false => lookQ r t
theorem tab_ok {P : Program} {l : List (Nat × TyD × Bool)} (h : TabAll P l) : TabOk P (lookT l) (lookQ l) := by
  induction l with
  | nil => exact ⟨fun t d e => by simp [lookT] at e, fun t e => by simp [lookQ] at e⟩
  | cons p r ih =>
    obtain ⟨i1, i2⟩ := ih h.2
    refine ⟨fun t d e => ?_, fun t e => ?_⟩
    · simp only [lookT] at e
      split at e
      · rename_i he
        have he : p.1 = t := by simpa using he
        obtain rfl := Option.some.inj e
        rw [← he]; exact h.1.1
      · exact i1 t d e
    · simp only [lookQ] at e
      split at e
      · rename_i he
        have he : p.1 = t := by simpa using he
        rw [← he]; exact h.1.2 e
      · exact i2 t e
end Go.Proofs.Ytbmejhabgoimeaa.Eng
