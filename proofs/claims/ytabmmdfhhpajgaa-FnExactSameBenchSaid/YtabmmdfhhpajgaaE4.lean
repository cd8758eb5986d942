/- A text of this claim (E4): lemmas for the proof, no conditions of their own. -/
import Derived.Test.YtabmmdfhhpajgaaE3
import Derived.Laws.StructEq
set_option linter.unusedVariables false
set_option linter.unusedSimpArgs false
namespace Go.Proofs.Ytabmmdfhhpajgaa.Eng
open Go Go.RowKit

/-! ### operators -/
def intA (op : BinOp) (k : IntKind) (a b : Int) : Option Value :=
  match op with
  | .add => some (.int k (k.wrap (a + b)))
  | .sub => some (.int k (k.wrap (a - b)))
  | .mul => some (.int k (k.wrap (a * b)))
  | .quo => if b = 0 then none else some (.int k (k.wrap (a.tdiv b)))
  | .rem => if b = 0 then none else some (.int k (a.tmod b))
  | .eql => some (.bool (decide (a = b)))
  | .neq => some (.bool (decide (a ≠ b)))
  | .lss => some (.bool (decide (a < b)))
  | .leq => some (.bool (decide (a ≤ b)))
  | .gtr => some (.bool (decide (b < a)))
  | .geq => some (.bool (decide (b ≤ a)))
  | _ => none
def shiftA (op : BinOp) (k : IntKind) (a b : Int) : Option Value :=
  if b < 0 then none else
  match op with
  | .shl => some (.int k (k.wrap (a * 2 ^ (min b.toNat k.bits))))
  | .shr => some (.int k (a.fdiv (2 ^ (min b.toNat k.bits))))
  | _ => none
def strA (op : BinOp) (a b : ByteArray) : Option Value :=
  match op with
  | .add => if a.size + b.size ≤ 9223372036854775807 then some (.string (a ++ b)) else none
  | .eql => some (.bool (decide (a = b)))
  | .neq => some (.bool (decide (a ≠ b)))
  | .lss => some (.bool (Op.bytesLess a.toList b.toList))
  | _ => none
def partL (T : Ty) (t : Nat) (cs : List Value) (off : Nat) : Option Value :=
  match T t with
  | some d => if aggD d.und = true then (if off + d.size ≤ cs.length then some (.agg ⟨(cs.drop off).take d.size⟩) else none) else cs[off]?
  | none => none
def eqFieldsA (T : Ty) (e : Nat → Value → Value → Option Bool) : List Field → List Value → List Value → Option Bool
  | [], _, _ => some true
  | f :: r, xs, ys => if f.name = "_" then none else
    match partL T f.type xs f.offset, partL T f.type ys f.offset with
    | some a, some b => match e f.type a b, eqFieldsA T e r xs ys with
      | some p, some q => some (p && q)
      | _, _ => none
    | _, _ => none
def eqA (T : Ty) (eqOk : Nat → Bool) : Nat → Nat → Value → Value → Option Bool
  | 0, _, _, _ => none
  | n + 1, t, x, y =>
    match T t with
    | none => none
    | some d => match d.und, x, y with
      | .bool, .bool a, .bool b => some (a == b)
      | .int _, .int k a, .int k' b => if k = k' then some (decide (a = b)) else none
      | .string, .string a, .string b => some (decide (a = b))
      | .struct fs, .agg xs, .agg ys => if eqOk t = true then eqFieldsA T (eqA T eqOk n) fs.toList xs.toList ys.toList else none
      | _, _, _ => none
def EqOk (P : Program) (eqOk : Nat → Bool) : Prop := ∀ t, eqOk t = true → P.stoodInHeld t = false ∧ P.eqGuardType P.depth t = false
def eqNil : Value → Value → Option Bool
  | .slice a _ _, .slice none _ _ => some a.isNone
  | .slice none _ _, .slice b _ _ => some b.isNone
  | .pointer a, .pointer none => some a.isNone
  | .nilIface, .nilIface => some true
  | _, _ => none
def binA (T : Ty) (eqOk : Nat → Bool) (op : BinOp) (t : Nat) (x y : Value) : Option Value :=
  match op, x, y with
  | .shl, .int k a, .int _ b => shiftA .shl k a b
  | .shr, .int k a, .int _ b => shiftA .shr k a b
  | op, .int k a, .int k' b => if k = k' then intA op k a b else none
  | op, .string a, .string b => strA op a b
  | .eql, .bool a, .bool b => match T t with | some d => (match d.und with | .bool => some (.bool (a == b)) | _ => none) | none => none
  | .neq, .bool a, .bool b => match T t with | some d => (match d.und with | .bool => some (.bool (!(a == b))) | _ => none) | none => none
  | .eql, .agg xs, .agg ys => (eqA T eqOk 9 t (.agg xs) (.agg ys)).map .bool
  | .neq, .agg xs, .agg ys => (eqA T eqOk 9 t (.agg xs) (.agg ys)).map (fun b => .bool (!b))
  | _, _, _ => none
def unA (op : UnOp) (x : Value) : Option Value :=
  match op, x with
  | .neg, .int k n => some (.int k (k.wrap (0 - n)))
  | .not, .bool b => some (.bool (!b))
  | _, _ => none

section
variable {P : Program} {T : Ty} {w : World}
theorem decide_beq (a b : ByteArray) : (a.toList == b.toList) = decide (a = b) := by
  rw [ByteArray.toList_eq, ByteArray.toList_eq]
  obtain ⟨⟨x⟩⟩ := a
  obtain ⟨⟨y⟩⟩ := b
  by_cases h : x = y
  · subst h; simp
  · have : ¬ (ByteArray.mk ⟨x⟩ = ByteArray.mk ⟨y⟩) := fun e => h (by injection e with e; injection e)
    simp [h, this]
theorem extract_list (xs : Array Value) (i n : Nat) : xs.extract i (i + n) = ⟨(xs.toList.drop i).take n⟩ := by
  apply Array.ext'
  rw [Array.toList_extract]
  simp [List.extract]
theorem part_run (hT : TyOk P T) {t off : Nat} {cs : List Value} {v : Value} (h : partL T t cs off = some v) : (part t ⟨cs⟩ off).run P w = .ok v w := by
  unfold partL at h
  split at h
  · rename_i d hd
    unfold part
    rw [Sem.run_bind, hT.isAgg hd]
    simp only [Result.andThen_ok]
    split at h
    · rename_i ha
      simp only [ha, if_true]
      split at h
      · obtain rfl := Option.some.inj h
        simp [hT.sizeOf hd, extract_list]
      · simp at h
    · rename_i ha
      have ha' : aggD d.und = false := by simpa using ha
      simp only [ha', Bool.false_eq_true, if_false]
      simp [h]
  · simp at h
theorem eqFields_run (hT : TyOk P T) {e : Nat → Value → Value → Option Bool} {d : Nat} (he : ∀ t a b r, e t a b = some r → (Op.equalIn d t a b).run P w = .ok r w) :
    ∀ (fs : List Field) (xs ys : List Value) (r : Bool), eqFieldsA T e fs xs ys = some r → (Op.eqFields d ⟨xs⟩ ⟨ys⟩ fs).run P w = .ok r w
  | [], xs, ys, r, h => by simp [eqFieldsA] at h; subst h; simp [Op.eqFields]
  | f :: fs, xs, ys, r, h => by
    simp only [eqFieldsA] at h
    split at h
    · simp at h
    · rename_i hn
      split at h
      · rename_i a b ha hb
        split at h
        · rename_i p q hp hq
          obtain rfl := Option.some.inj h
          rw [Op.eqFields, if_pos hn]
          simp only [Sem.run_bind, part_run hT ha, part_run hT hb, Result.andThen_ok, he _ _ _ _ hp]
          cases p
          · simp
          · simpa using eqFields_run hT he fs xs ys q hq
        · simp at h
      · simp at h
theorem eqA_run (hT : TyOk P T) {eqOk : Nat → Bool} (hE : EqOk P eqOk) : ∀ (n d t : Nat) (x y : Value) (r : Bool), n ≤ d → eqA T eqOk n t x y = some r → (Op.equalIn d t x y).run P w = .ok r w
  | 0, _, _, _, _, _, _, h => by simp [eqA] at h
  | n + 1, d, t, x, y, r, hd, h => by
    obtain ⟨d, rfl⟩ : ∃ e, d = e + 1 := ⟨d - 1, by omega⟩
    simp only [eqA] at h
    split at h
    · simp at h
    · rename_i td htd
      have hu := (hT t td htd).und
      split at h
      · rename_i e1; rw [e1] at hu; obtain rfl := Option.some.inj h; exact run_equalIn_bool' w d t _ _ hu
      · rename_i k0 k a k' b e1; rw [e1] at hu
        split at h
        · rename_i hk; subst hk; obtain rfl := Option.some.inj h
          rw [run_equalIn_int w d t k k0 a b hu]; rfl
        · simp at h
      · rename_i e1; rw [e1] at hu; obtain rfl := Option.some.inj h
        rw [run_equalIn_string w d t _ _ hu, decide_beq]
      · rename_i fs xs ys e1; rw [e1] at hu
        split at h
        · rename_i hok
          have hf : P.fieldsOf t = fs := by simp [Program.fieldsOf, hu]
          rw [run_equalIn_struct (P := P) w d t xs ys (by rw [hf]; exact hu) (hE t hok).1, hf]
          exact eqFields_run hT (fun t a b r h => eqA_run hT hE n d t a b r (by omega) h) fs.toList xs.toList ys.toList r h
        · simp at h
      · simp at h

theorem eqA_ok {eqOk : Nat → Bool} {n t : Nat} {xs ys : Array Value} {r : Bool} (he : eqA T eqOk (n + 1) t (.agg xs) (.agg ys) = some r) : eqOk t = true := by
  simp only [eqA] at he
  cases hT : T t with
  | none => simp [hT] at he
  | some d =>
    simp only [hT] at he
    obtain ⟨und, s, b, z, f⟩ := d
    cases und <;> simp at he
    exact he.1

/-- An operator's answer, of the machine's own operands. -/
theorem binA_run (hT : TyOk P T) {eqOk : Nat → Bool} (hE : EqOk P eqOk) {op : BinOp} {t : Nat} {ox oy : Operand} {x y v : Value} (h : binA T eqOk op t x y = some v) :
    (do eqGuard op t ox oy x y; binOp op t x y : Sem Value).run P w = .ok v w ∧ flatV v = true := by
  unfold binA at h
  split at h
  · -- shl
    simp only [shiftA] at h
    split at h
    · simp at h
    · rename_i hb
      obtain rfl := Option.some.inj h
      simp [eqGuard, binOp, Op.shift, hb, flatV]
  · simp only [shiftA] at h
    split at h
    · simp at h
    · rename_i hb
      obtain rfl := Option.some.inj h
      simp [eqGuard, binOp, Op.shift, hb, flatV]
  · rename_i k a k' b n1 n2
    split at h
    · rename_i hk; subst hk
      unfold intA at h
      split at h <;> first | (simp at h; done) | skip
      all_goals (try (split at h <;> first | (simp at h; done) | skip))
      all_goals (obtain rfl := Option.some.inj h)
      all_goals (simp [eqGuard, binOp, Op.intArith, Op.intDiv, Op.intCmp, flatV, *])
      all_goals (first | rfl | (by_cases hab : a = b <;> simp [hab]) | skip)
    · simp at h
  · rename_i a b
    unfold strA at h
    split at h <;> first | (simp at h; done) | skip
    · split at h
      · rename_i hs
        obtain rfl := Option.some.inj h
        have hm : ¬ (IntKind.i64.max < ((a.size : Int) + (b.size : Int))) := by simp [IntKind.max, IntKind.signed, IntKind.bits]; omega
        simp [eqGuard, binOp, Op.stringOp, hm, flatV]
        omega
      · simp at h
    · obtain rfl := Option.some.inj h
      simp [eqGuard, binOp, Op.stringOp, decide_beq, flatV]
    · obtain rfl := Option.some.inj h
      simp [eqGuard, binOp, Op.stringOp, decide_beq, flatV]
    · obtain rfl := Option.some.inj h
      simp [eqGuard, binOp, Op.stringOp, flatV]
  · rename_i a b
    split at h
    · rename_i d hd
      split at h
      · rename_i e1
        obtain rfl := Option.some.inj h
        have hu := (hT t d hd).und; rw [e1] at hu
        simp [eqGuard, binOp, Op.equal, Op.maxDepth, run_equalIn_bool' w 9999 t a b hu, flatV]
      · simp at h
    · simp at h
  · rename_i a b
    split at h
    · rename_i d hd
      split at h
      · rename_i e1
        obtain rfl := Option.some.inj h
        have hu := (hT t d hd).und; rw [e1] at hu
        simp [eqGuard, binOp, Op.equal, Op.maxDepth, run_equalIn_bool' w 9999 t a b hu, flatV]
      · simp at h
    · simp at h
  · rename_i xs ys
    cases he : eqA T eqOk 9 t (.agg xs) (.agg ys) with
    | none => simp [he] at h
    | some r =>
      simp only [he, Option.map_some, Option.some.injEq] at h; subst h
      have hr := eqA_run (w := w) hT hE 9 10000 t _ _ r (by omega) he
      have hg : P.eqGuardType P.depth t = false := (hE t (eqA_ok he)).2
      simp [eqGuard, binOp, Op.equal, Op.maxDepth, hr, hg, flatV]
  · rename_i xs ys
    cases he : eqA T eqOk 9 t (.agg xs) (.agg ys) with
    | none => simp [he] at h
    | some r =>
      simp only [he, Option.map_some, Option.some.injEq] at h; subst h
      have hr := eqA_run (w := w) hT hE 9 10000 t _ _ r (by omega) he
      have hg : P.eqGuardType P.depth t = false := (hE t (eqA_ok he)).2
      simp [eqGuard, binOp, Op.equal, Op.maxDepth, hr, hg, flatV]
  · simp at h
theorem unA_run {op : UnOp} {x v : Value} (h : unA op x = some v) : (Op.unary op x).run P w = .ok v w ∧ flatV v = true := by
  unfold unA at h
  split at h
  · obtain rfl := Option.some.inj h; simp [Op.unary, Op.intArith, flatV]
  · obtain rfl := Option.some.inj h; simp [Op.unary, flatV]
  · simp at h
end
end Go.Proofs.Ytabmmdfhhpajgaa.Eng
