/- A text of this claim (E8): lemmas for the proof, no conditions of their own. -/
import Derived.Test.YtabmmdfhhpajgaaE7
set_option linter.unusedVariables false
set_option linter.unusedSimpArgs false
namespace Go.Proofs.Ytabmmdfhhpajgaa.Eng
open Go Go.RowKit

section
variable {P : Program} {T : Ty} {w0 w : World} {ι : Ren} {H : Heap} {t : List Value} {a : Act} {B : Nat}

/-- What a bound of a cut is, in the machine's operands. -/
def IsInt (o : Option Int) (o' : Option Value) : Prop := match o, o' with
  | none, none => True
  | some n, some (.int _ m) => n = m
  | _, _ => False

theorem sliceBounds_run {isSlice : Bool} {len cap : Nat} {lo hi mx : Option Int} {lo' hi' mx' : Option Value} (h1 : IsInt lo lo') (h2 : IsInt hi hi') (h3 : IsInt mx mx')
    (hm : ∀ m, mx = some m → hi.isSome = true ∧ 0 ≤ m ∧ m ≤ (cap : Int) ∧ hi.getD len ≤ m) (h0 : 0 ≤ lo.getD 0) (hlh : lo.getD 0 ≤ hi.getD len) (hh : hi.getD len ≤ (cap : Int)) (hlen : mx = none → True) :
    (Instr.sliceBounds isSlice len cap lo' hi' mx').run P w = .ok ((lo.getD 0).toNat, (hi.getD len).toNat, (match mx with | none => cap | some m => m.toNat)) w := by
  cases mx with
  | none =>
    cases mx' with
    | some _ => simp [IsInt] at h3
    | none =>
      cases hi with
      | none =>
        cases hi' with
        | some _ => simp [IsInt] at h2
        | none =>
          cases lo with
          | none =>
            cases lo' with
            | some _ => simp [IsInt] at h1
            | none => simp [Instr.sliceBounds]
          | some l =>
            cases lo' with
            | none => simp [IsInt] at h1
            | some v =>
              cases v <;> simp [IsInt] at h1
              subst h1
              simp at hlh h0
              simp [Instr.sliceBounds, sliceBound_run h0 hlh]
      | some h =>
        cases hi' with
        | none => simp [IsInt] at h2
        | some v =>
          cases v <;> simp [IsInt] at h2
          subst h2
          simp only [Option.getD_some] at hlh hh
          have hh0 : 0 ≤ h := by omega
          cases lo with
          | none =>
            cases lo' with
            | some _ => simp [IsInt] at h1
            | none => simp [Instr.sliceBounds, sliceBound_run hh0 hh]
          | some l =>
            cases lo' with
            | none => simp [IsInt] at h1
            | some v =>
              cases v <;> simp [IsInt] at h1
              subst h1
              simp at hlh h0
              have hq : l ≤ ((h.toNat : Nat) : Int) := by omega
              simp [Instr.sliceBounds, sliceBound_run hh0 hh, sliceBound_run h0 hq]
  | some m =>
    obtain ⟨hs, hm0, hmc, hhm⟩ := hm m rfl
    cases mx' with
    | none => simp [IsInt] at h3
    | some v =>
      cases v <;> simp [IsInt] at h3
      subst h3
      cases hi with
      | none => simp at hs
      | some h =>
        cases hi' with
        | none => simp [IsInt] at h2
        | some v =>
          cases v <;> simp [IsInt] at h2
          subst h2
          simp only [Option.getD_some] at hlh hh hhm
          have hh0 : 0 ≤ h := by omega
          have hq2 : h ≤ ((m.toNat : Nat) : Int) := by omega
          cases lo with
          | none =>
            cases lo' with
            | some _ => simp [IsInt] at h1
            | none => simp [Instr.sliceBounds, sliceBound_run hm0 hmc, sliceBound_run hh0 hq2]
          | some l =>
            cases lo' with
            | none => simp [IsInt] at h1
            | some v =>
              cases v <;> simp [IsInt] at h1
              subst h1
              simp at hlh h0
              have hq : l ≤ ((h.toNat : Nat) : Int) := by omega
              simp [Instr.sliceBounds, sliceBound_run hm0 hmc, sliceBound_run hh0 hq2, sliceBound_run h0 hq]

theorem sliceA_run (hT : TyOk P T) (hH : HRel w0 ι H w) {ty : Nat} {x x' v : Value} {lo hi mx : Option Int} {lo' hi' mx' : Option Value} (h1 : IsInt lo lo') (h2 : IsInt hi hi') (h3 : IsInt mx mx') (hx : VRel ι x x') (h : sliceA T ty x lo hi mx H = some v) :
    ∃ v', (Instr.sliceAt ty x' lo' hi' mx').run P w = .ok v' w ∧ VRel ι v v' := by
  unfold sliceA at h
  split at h
  · rename_i d hd
    have hu := (hT ty d hd).und
    split at h
    · rename_i s hu0; rw [hu0] at hu; cases hx
      split at h
      · rename_i hc
        obtain ⟨c1, c2, c3, c4⟩ := hc
        obtain rfl := Option.some.inj h
        have hmx : mx = none := by simpa using c1
        subst hmx
        have hb := sliceBounds_run (P := P) (w := w) (isSlice := false) (len := s.size) (cap := s.size) h1 h2 h3 (fun m hm => by simp at hm) c2 c3 c4 (fun _ => trivial)
        have hmx' : mx' = none := by cases mx' with | none => rfl | some _ => simp [IsInt] at h3
        subst hmx'
        refine ⟨_, ?_, .str _⟩
        simp [Instr.sliceAt, Instr.slice, run_underlying hu, hb]
      · simp at h
    · rename_i e hu0; rw [hu0] at hu
      split at h
      · rename_i de hde
        split at h
        · rename_i hc
          obtain ⟨c1, c2, c3⟩ := hc
          obtain rfl := Option.some.inj h
          have hmx : mx = none := by simpa using c3
          subst hmx
          cases hx with
          | nilSl =>
            have hb := sliceBounds_run (P := P) (w := w) (isSlice := true) (len := 0) (cap := 0) h1 h2 h3 (fun m hm => by simp at hm) (by omega) (by simp [c1, c2]) (by simp [c2]) (fun _ => trivial)
            simp only [c1] at hb
            have c2' : hi.getD ((0 : Nat) : Int) = 0 := by simpa using c2
            rw [c2'] at hb
            refine ⟨.slice none 0 0, ?_, .nilSl⟩
            simp [Instr.sliceAt, Instr.slice, run_underlying hu, hb, hT.sizeOf hde]
        · simp at h
      · simp at h
    · rename_i e ad n c hu0; rw [hu0] at hu
      split at h
      · rename_i de b1 hde hb1
        cases hx with
        | sl b o n1 c1 L a' c' hL hn hz hl hxx ha =>
          simp only at h hb1
          split at h
          · rename_i hsz
            obtain ⟨_, _, _, _, _, _, hLs, _⟩ := hH.blk b L b1 hL (getB_eq.1 hb1)
            have hLsz : L.sz = de.size := hLs.trans hsz
            rw [hLsz] at hxx
            split at h
            · split at h
              · rename_i hc
                obtain ⟨q1, q2, q3, q4⟩ := hc
                obtain rfl := Option.some.inj h
                have hcap : hi.getD (n : Int) ≤ (c' : Int) := by omega
                have hb := sliceBounds_run (P := P) (w := w) (isSlice := true) (len := n) (cap := c') h1 h2 h3 (fun m hm => by simp at hm) q1 q2 hcap (fun _ => trivial)
                simp only at hb
                have hle : (lo.getD 0).toNat ≤ c' := by omega
                have hmul : o + (lo.getD 0).toNat * de.size + (c' - (lo.getD 0).toNat) * de.size ≤ L.avail := by
                  rw [Nat.add_assoc, ← Nat.add_mul]
                  have : (lo.getD 0).toNat + (c' - (lo.getD 0).toNat) = c' := by omega
                  rw [this]; exact hxx
                by_cases he : c' = (lo.getD 0).toNat
                · refine ⟨.slice (some a') ((hi.getD n).toNat - (lo.getD 0).toNat) (c' - (lo.getD 0).toNat), by simp only [Instr.sliceAt, Instr.slice, Sem.run_bind, run_underlying hu, hb, hT.sizeOf hde, Result.andThen_ok]; rw [if_pos he]; rfl, ?_⟩
                  exact .sl _ _ _ _ L _ _ hL (by omega) (by omega) (by omega) (by rw [hLsz]; exact hmul) (.inr (by omega))
                · refine ⟨.slice (some (a'.add ((lo.getD 0).toNat * de.size))) ((hi.getD n).toNat - (lo.getD 0).toNat) (c' - (lo.getD 0).toNat), by simp only [Instr.sliceAt, Instr.slice, Sem.run_bind, run_underlying hu, hb, hT.sizeOf hde, Result.andThen_ok]; rw [if_neg he]; rfl, ?_⟩
                  refine .sl _ _ _ _ L _ _ hL (by omega) (by omega) (by omega) (by rw [hLsz]; exact hmul) ?_
                  rcases ha with rfl | h0
                  · left; rw [addr_add, Nat.add_assoc]
                  · omega
              · simp at h
            · rename_i m
              split at h
              · rename_i hc
                obtain ⟨q0, q1, q2, q3, q4⟩ := hc
                obtain rfl := Option.some.inj h
                have hmc : m ≤ (c' : Int) := by omega
                have hcap : hi.getD (n : Int) ≤ (c' : Int) := by omega
                have hb := sliceBounds_run (P := P) (w := w) (isSlice := true) (len := n) (cap := c') h1 h2 h3 (fun m' hm => by obtain rfl := Option.some.inj hm; exact ⟨q0, by omega, hmc, q3⟩) q1 q2 hcap (fun _ => trivial)
                simp only at hb
                have hle : (lo.getD 0).toNat ≤ m.toNat := by omega
                have hmul : o + (lo.getD 0).toNat * de.size + (m.toNat - (lo.getD 0).toNat) * de.size ≤ L.avail := by
                  rw [Nat.add_assoc, ← Nat.add_mul]
                  have : (lo.getD 0).toNat + (m.toNat - (lo.getD 0).toNat) = m.toNat := by omega
                  rw [this]
                  have : m.toNat * de.size ≤ c' * de.size := Nat.mul_le_mul_right _ (by omega)
                  omega
                by_cases he : m.toNat = (lo.getD 0).toNat
                · refine ⟨.slice (some a') ((hi.getD n).toNat - (lo.getD 0).toNat) (m.toNat - (lo.getD 0).toNat), by simp only [Instr.sliceAt, Instr.slice, Sem.run_bind, run_underlying hu, hb, hT.sizeOf hde, Result.andThen_ok]; rw [if_pos he]; rfl, ?_⟩
                  exact .sl _ _ _ _ L _ _ hL (by omega) (by omega) (by omega) (by rw [hLsz]; exact hmul) (.inr (by omega))
                · refine ⟨.slice (some (a'.add ((lo.getD 0).toNat * de.size))) ((hi.getD n).toNat - (lo.getD 0).toNat) (m.toNat - (lo.getD 0).toNat), by simp only [Instr.sliceAt, Instr.slice, Sem.run_bind, run_underlying hu, hb, hT.sizeOf hde, Result.andThen_ok]; rw [if_neg he]; rfl, ?_⟩
                  refine .sl _ _ _ _ L _ _ hL (by omega) (by omega) (by omega) (by rw [hLsz]; exact hmul) ?_
                  rcases ha with rfl | h0
                  · left; rw [addr_add, Nat.add_assoc]
                  · omega
              · simp at h
          · simp at h
      · simp at h
    · simp at h
  · simp at h
end
end Go.Proofs.Ytabmmdfhhpajgaa.Eng
