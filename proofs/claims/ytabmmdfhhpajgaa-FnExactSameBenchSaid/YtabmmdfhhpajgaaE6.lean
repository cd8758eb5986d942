/- A text of this claim (E6): lemmas for the proof, no conditions of their own. -/
import Derived.Test.YtabmmdfhhpajgaaE5
set_option linter.unusedVariables false
set_option linter.unusedSimpArgs false
namespace Go.Proofs.Ytabmmdfhhpajgaa.Eng
open Go Go.RowKit

section
variable {P : Program} {T : Ty} {w0 w : World} {ι : Ren} {H : Heap} {t : List Value} {a : Act} {B : Nat}

theorem HRel.cells (h : HRel w0 ι H w) {id o n : Nat} {vs : List Value} (hl : loadA H id o n = some vs) {L : Loc} (hi : ι id = some L) :
    ∃ vs' : List Value, vs'.length = n ∧ (∀ (j : Nat) (v : Value), vs'[j]? = some v → w.cell? ((⟨L.blk, L.off + o, none⟩ : Addr).add j) = some v) ∧ LRel ι vs vs' := by
  unfold loadA at hl
  split at hl
  · rename_i b hb
    split at hl
    · rename_i hn
      obtain rfl := Option.some.inj hl
      obtain ⟨c, e, fr, hc, ha, hb1, hs, hcell, hw⟩ := h.blk id L b hi (getB_eq.1 hb)
      have hlen : ((b.cells.drop o).take n).length = n := by simp; omega
      refine ⟨(c.toList.drop (L.off + o)).take n, by simp; omega, ?_, ?_, ?_⟩
      · intro j v hv
        have hj : j < n := by
          have := (List.getElem?_eq_some_iff.1 hv).1
          simp at this; omega
        rw [List.getElem?_take, if_pos hj, List.getElem?_drop] at hv
        rw [addr_add, cell_of_row w L.blk _ c e fr hc]
        simpa using hv
      · simp; omega
      · intro j v v' h1 h2
        have hj : j < n := by have := (List.getElem?_eq_some_iff.1 h1).1; omega
        rw [List.getElem?_take, if_pos hj, List.getElem?_drop] at h1 h2
        obtain ⟨u, k1, k2⟩ := hcell (o + j) v h1
        rw [show L.off + o + j = L.off + (o + j) by omega] at h2
        rw [Array.getElem?_toList, k1] at h2
        rw [← Option.some.inj h2]; exact k2
    · simp at hl
  · simp at hl
theorem loadA_length {id o n : Nat} {vs : List Value} (hl : loadA H id o n = some vs) : vs.length = n := by
  unfold loadA at hl
  split at hl
  · split at hl
    · obtain rfl := Option.some.inj hl; simp; omega
    · simp at hl
  · simp at hl

theorem evParts_rel (hs : TS ι t a.tmps) : ∀ (ps : List (Nat × Operand)) (l : List (Nat × Value)), evParts t ps = some l →
    (ps.map fun p => (p.1, a.eval p.2)).length = l.length ∧ ∀ (j : Nat) p p', l[j]? = some p → (ps.map fun p => (p.1, a.eval p.2))[j]? = some p' → p.1 = p'.1 ∧ VRel ι p.2 p'.2
  | [], l, h => by simp [evParts] at h; subst h; simp
  | (i, x) :: r, l, h => by
    simp only [evParts] at h
    split at h
    · rename_i v l' hv hl'
      obtain rfl := Option.some.inj h
      obtain ⟨e1, e2⟩ := evParts_rel hs r l' hl'
      refine ⟨by simpa using e1, fun j p p' h1 h2 => ?_⟩
      cases j with
      | zero => simp at h1 h2; subst h1; subst h2; exact ⟨rfl, evL_rel hs hv⟩
      | succ j => simp at h1 h2; exact e2 j p p' h1 (by simpa using h2)
    · simp at h
theorem evAllL_rel (hs : TS ι t a.tmps) : ∀ (xs : List Operand) (l : List Value), evAllL t xs = some l → LRel ι l (xs.map a.eval)
  | [], l, h => by simp [evAllL] at h; subst h; exact .nil ι
  | x :: r, l, h => by
    simp only [evAllL] at h
    split at h
    · rename_i v l' hv hl'
      obtain rfl := Option.some.inj h
      exact .cons (evL_rel hs hv) (evAllL_rel hs r l' hl')
    · simp at h
theorem evAll_rel (hs : TS ι t a.tmps) : ∀ (xs : List Operand) (l : List Value), evAll t xs = some l → l.length = xs.length ∧ ∀ (i : Nat) (v v' : Value), l[i]? = some v → (xs.map a.eval)[i]? = some v' → TRel ι v v'
  | [], l, h => by simp [evAll] at h; subst h; simp
  | x :: r, l, h => by
    simp only [evAll] at h
    split at h
    · rename_i v l' hv hl'
      obtain rfl := Option.some.inj h
      obtain ⟨e1, e2⟩ := evAll_rel hs r l' hl'
      refine ⟨by simpa using e1, fun i u u' h1 h2 => ?_⟩
      cases i with
      | zero => simp at h1 h2; subst h1; subst h2; exact ev_rel hs hv
      | succ i => simp at h1 h2; exact e2 i u u' h1 (by simpa using h2)
    · simp at h

/-- A new variable. -/
theorem new_ok (hH : HRel w0 ι H w) (hB : B ≤ H.length) {b : Blk} {cs : List Value} {e : TypeId} (hc : LRel ι b.cells cs) (hf : b.fl = true → ∀ v ∈ b.cells, flatV v = true) {v : Value} {H' : Heap} (h : newA H b = some (v, H')) :
    StepOk w0 ι B H (.ok (.value (.pointer (some ⟨w.heap.size, 0, none⟩))) (w.alloc (.cells ⟨cs⟩ e))) v H' := by
  simp only [newA, Option.some.injEq, Prod.mk.injEq] at h
  obtain ⟨rfl, rfl⟩ := h
  have hp := hH.push b ⟨cs⟩ e (by simp [hc.1]) (fun j v hv => by obtain ⟨v', h1, h2⟩ := hc.get hv; exact ⟨v', by simpa using h1, h2⟩) hf
  refine ⟨_, _, _, _, rfl, .inl rfl, hp, .inr (.ptr _ _ ⟨w.heap.size, 0, cs.length, b.sz⟩ (by simp [upd])), upd_ext ι _ _, OCs.push B H _ hB, by simp⟩

theorem buildA_run (hT : TyOk P T) {ty : Nat} {parts : List (Nat × Value)} {parts' : Array (Nat × Value)} (hl : parts'.toList.length = parts.length)
    (hp : ∀ (j : Nat) p p', parts[j]? = some p → parts'.toList[j]? = some p' → p.1 = p'.1 ∧ VRel ι p.2 p'.2) {v : Value} (h : buildA T ty parts = some v) :
    ∃ v', (Instr.build ty parts').run P w = .ok v' w ∧ VRel ι v v' := by
  unfold buildA at h
  split at h
  · rename_i d hd
    obtain ⟨i, z, hi, hi1, hi2, hz, hzc⟩ := (hT ty d hd).info
    have hu := (hT ty d hd).und
    have hzr : LRel ι d.zero z.cells.toList := by rw [hzc]; exact LRel.flat (fun v hv => (List.all_eq_true.1 (hT ty d hd).zflat) v hv)
    split at h
    · rename_i fs hfs
      rw [hfs] at hu
      split at h
      · rename_i pl hpl
        cases hfl : fillL (fun i => pl[i]?) d.zero parts with
        | none => simp [hfl] at h
        | some cs =>
          simp only [hfl, Option.map_some, Option.some.injEq] at h; subst h
          obtain ⟨r', hr1, hr2⟩ := fillL_rel (fun i => pl[i]?) parts parts'.toList d.zero z.cells.toList cs hzr hl.symm hp hfl
          refine ⟨.agg ⟨r'⟩, run_build w ty parts' ⟨r'⟩ ?_, .agg _ _ hr2.1 hr2.2⟩
          unfold Program.built
          have hplaces : fs.toList.mapM (fun f => (P.info? f.type).map fun i => (f.offset, i.size)) = some pl := by
            clear hfl hr1 hr2 hu hfs
            generalize fs.toList = l at hpl ⊢
            induction l generalizing pl with
            | nil => simp [offsL] at hpl; subst hpl; simp
            | cons f l ih =>
              simp only [offsL] at hpl
              split at hpl
              · rename_i df l' hdf hl'
                obtain rfl := Option.some.inj hpl
                obtain ⟨i', z', g1, g2, _⟩ := (hT _ _ hdf).info
                simp [List.mapM_cons, g1, ih _ hl', g2]
              · simp at hpl
          simp only [hi, hu, hz, hplaces]
          rw [fill_eq]
          simp [hr1]
      · simp at h
    · rename_i n e hfs
      rw [hfs] at hu
      split at h
      · rename_i de hde
        obtain ⟨ie, ze, g1, g2, _⟩ := (hT e de hde).info
        cases hfl : fillL (fun i => some (i * de.size, de.size)) d.zero parts with
        | none => simp [hfl] at h
        | some cs =>
          simp only [hfl, Option.map_some, Option.some.injEq] at h; subst h
          obtain ⟨r', hr1, hr2⟩ := fillL_rel _ parts parts'.toList d.zero z.cells.toList cs hzr hl.symm hp hfl
          refine ⟨.agg ⟨r'⟩, run_build w ty parts' ⟨r'⟩ ?_, .agg _ _ hr2.1 hr2.2⟩
          unfold Program.built
          simp only [hi, hu, hz, g1, g2]
          rw [fill_eq]
          simp [hr1]
      · simp at h
    · simp at h
  · simp at h

theorem zerosL_length (z : List Value) (n : Nat) : (zerosL z n).length = n * z.length := by
  induction n with
  | zero => simp [zerosL]
  | succ n ih => simp [zerosL, ih, Nat.succ_mul, Nat.add_comm]
theorem zerosL_get (z : List Value) : ∀ (n j : Nat), j < n * z.length → (zerosL z n)[j]? = z[j % z.length]?
  | 0, j, h => by simp at h
  | n + 1, j, h => by
    simp only [zerosL]
    by_cases hj : j < z.length
    · rw [List.getElem?_append_left hj, Nat.mod_eq_of_lt hj]
    · have e : (n + 1) * z.length = n * z.length + z.length := Nat.succ_mul n _
      rw [List.getElem?_append_right (by omega), zerosL_get z n (j - z.length) (by omega)]
      congr 1
      exact (Nat.mod_eq_sub_mod (by omega)).symm
theorem zeros_range (z : Array Value) (n : Nat) : ((Array.range (n * z.size)).map fun i => z[i % z.size]!).toList = zerosL z.toList n := by
  apply List.ext_getElem?
  intro j
  by_cases hj : j < n * z.size
  · rw [zerosL_get _ _ _ (by simpa using hj)]
    have hm : j % z.size < z.size := Nat.mod_lt _ (Nat.pos_of_ne_zero fun h0 => by rw [h0] at hj; simp at hj)
    rw [Array.toList_map, List.getElem?_map, Array.toList_range, List.getElem?_range hj]
    simp [hm]
  · rw [List.getElem?_eq_none (by simp; omega), List.getElem?_eq_none (by rw [zerosL_length]; simp; omega)]
theorem zerosL_flat {z : List Value} (h : z.all flatV = true) (n : Nat) : ∀ v ∈ zerosL z n, flatV v = true := by
  induction n with
  | zero => simp [zerosL]
  | succ n ih => intro v hv; simp only [zerosL, List.mem_append] at hv; exact hv.elim (fun q => (List.all_eq_true.1 h) v q) (ih v)
theorem elemT_eq (hT : TyOk P T) {ty e : Nat} {de : TyD} (h : elemT T ty = some (e, de)) : P.underlying ty = some (.slice e) ∧ T e = some de := by
  unfold elemT at h
  split at h
  · rename_i d hd
    split at h
    · rename_i e' hu
      cases he : T e' with
      | none => simp [he] at h
      | some q => simp [he] at h; obtain ⟨rfl, rfl⟩ := h; exact ⟨by have := (hT ty d hd).und; rwa [hu] at this, he⟩
    · simp at h
  · simp at h

theorem buildSliceA_run (hT : TyOk P T) (hH : HRel w0 ι H w) (hB : B ≤ H.length) {ty len : Nat} {parts : List (Nat × Value)} {parts' : Array (Nat × Value)} (hl : parts'.toList.length = parts.length)
    (hp : ∀ (j : Nat) p p', parts[j]? = some p → parts'.toList[j]? = some p' → p.1 = p'.1 ∧ VRel ι p.2 p'.2) {v : Value} {H' : Heap} (h : buildSliceA T ty len parts H = some (v, H')) :
    StepOk w0 ι B H (((Instr.buildSlice ty len parts').run P w).andThen fun v w => .ok (.value v) w) v H' := by
  unfold buildSliceA at h
  split at h
  · rename_i e de he
    obtain ⟨hu, hde⟩ := elemT_eq hT he
    split at h
    · rename_i hsz
      split at h
      · rename_i cs hfl
        simp only [Option.some.injEq, Prod.mk.injEq] at h
        obtain ⟨rfl, rfl⟩ := h
        obtain ⟨z, hz, hzc⟩ := hT.zeroValue (w := w) hde
        have hzl := (hT e de hde).zlen
        have hzr : LRel ι (zerosL de.zero len) (zerosL de.zero len) := LRel.flat (zerosL_flat (hT e de hde).zflat len)
        obtain ⟨r', hr1, hr2⟩ := fillL_rel _ parts parts'.toList _ _ cs hzr hl.symm hp hfl
        have fin : ∀ zc : Array Value, ((Array.range (len * de.size)).map (fun x => zc[x % zc.size]!)).toList = zerosL de.zero len →
            (match Instr.fill (fun i => some (i * de.size, de.size)) ((Array.range (len * de.size)).map (fun x => zc[x % zc.size]!)) parts'.toList with
              | some cells => (do let a ← newRow e cells; pure (Value.slice (some a) len len) : Sem Value)
              | _ => stuck "buildSlice: a part of the wrong size").run P w = .ok (.slice (some ⟨w.heap.size, 0, none⟩) len len) (w.alloc (.cells ⟨r'⟩ e)) := fun zc hzc => by
          rw [fill_eq, hzc, hr1]; rfl
        have hrun : (Instr.buildSlice ty len parts').run P w = .ok (.slice (some ⟨w.heap.size, 0, none⟩) len len) (w.alloc (.cells ⟨r'⟩ e)) := by
          unfold Instr.buildSlice
          simp only [Sem.run_bind, run_underlying hu, Result.andThen_ok, hT.sizeOf hde]
          rw [if_neg (by simpa using hsz)]
          by_cases h0 : len * de.size = 0
          · rw [if_pos h0]
            simp only [pure_bind]
            refine fin #[] ?_
            rw [h0]; simp
            have : (zerosL de.zero len).length = 0 := by rw [zerosL_length, hzl]; exact h0
            exact List.eq_nil_of_length_eq_zero this
          · rw [if_neg h0]
            simp only [Sem.run_bind, hz, Result.andThen_ok, pure_bind]
            refine fin z.cells ?_
            have hs : z.cells.size = de.size := by rw [← hzl, ← hzc]; simp
            rw [← hs, ← hzc]
            exact zeros_range z.cells len
        rw [hrun]
        have hlen : cs.length = r'.length := hr2.1
        have hlr : r'.length = len * de.size := by
          have hk : ∀ (parts : List (Nat × Value)) (c r : List Value), fillL (fun i => some (i * de.size, de.size)) c parts = some r → r.length = c.length := by
            intro parts
            induction parts with
            | nil => intro c r h; simp [fillL] at h; rw [h]
            | cons p ps ih =>
              intro c r h
              obtain ⟨i, v⟩ := p
              simp only [fillL] at h
              split at h
              · simp at h
              · rename_i hc
                rw [ih _ _ h, splice_length (by simp at hc; omega)]
          rw [hk _ _ _ hr1, zerosL_length, hzl]
        have hp := hH.push ⟨cs, de.size, true, de.fl && cs.all flatV⟩ ⟨r'⟩ e (by simp [hlen]) (fun j v hv => by obtain ⟨v', h1, h2⟩ := hr2.get hv; exact ⟨v', by simpa using h1, h2⟩)
          (fun hf v hv => (List.all_eq_true.1 (by simp at hf; exact List.all_eq_true.2 hf.2)) v hv)
        refine ⟨_, _, _, _, rfl, .inl rfl, hp, .inr ?_, upd_ext ι _ _, OCs.push B H _ hB, by simp⟩
        refine .sl _ _ _ _ ⟨w.heap.size, 0, r'.length, de.size⟩ _ _ (by simp [upd]) (Nat.le_refl _) ?_ ?_ ?_ (.inl rfl)
        · omega
        · omega
        · simp [hlr]
      · simp at h
    · simp at h
  · simp at h
end
end Go.Proofs.Ytabmmdfhhpajgaa.Eng
