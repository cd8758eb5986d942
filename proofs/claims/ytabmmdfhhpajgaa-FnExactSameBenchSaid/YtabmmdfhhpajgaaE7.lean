/- A text of this claim (E7): lemmas for the proof, no conditions of their own. -/
import Derived.Test.YtabmmdfhhpajgaaE6
set_option linter.unusedVariables false
set_option linter.unusedSimpArgs false
namespace Go.Proofs.Ytabmmdfhhpajgaa.Eng
open Go Go.RowKit

section
variable {P : Program} {T : Ty} {w0 w : World} {ι : Ren} {H : Heap} {t : List Value} {a : Act} {B : Nat}

theorem madeCells_list (z : Value) (n : Nat) : (madeCells z.cells (n * z.cells.size)).toList = zerosL z.cells.toList n := zeros_range z.cells n

theorem makeSliceA_run (hT : TyOk P T) (hH : HRel w0 ι H w) (hB : B ≤ H.length) {ty : Nat} {l c l' c' : Value} (hl : VRel ι l l') (hc : VRel ι c c') {v : Value} {H' : Heap} (h : makeSliceA T ty l c H = some (v, H')) :
    StepOk w0 ι B H (((Instr.makeSlice ty l' c').run P w).andThen fun v w => .ok (.value v) w) v H' := by
  unfold makeSliceA at h
  split at h
  · rename_i e de k n k' m he
    cases hl; cases hc
    split at h
    · rename_i hcond
      obtain ⟨h0, hnm, hby, h63⟩ := hcond
      subst hnm
      simp only [Option.some.injEq, Prod.mk.injEq] at h
      obtain ⟨rfl, rfl⟩ := h
      obtain ⟨hu, hde⟩ := elemT_eq hT he
      obtain ⟨i, z, g1, g2, g3, g4, g5⟩ := (hT e de hde).info
      have hzl := (hT e de hde).zlen
      have hs : z.cells.size = de.size := by rw [← hzl, ← g5]; simp
      rw [run_make w ty e i z hu g1 g4 k k' n n h0 (Int.le_refl _) (by rw [g3]; exact hby) h63]
      simp only [Result.andThen_ok]
      have hm : madeCells z.cells (n.toNat * i.size) = ⟨zerosL de.zero n.toNat⟩ := by
        apply Array.ext'
        rw [g2, ← hs, madeCells_list, g5]
      rw [hm]
      have hfl : ∀ v ∈ zerosL de.zero n.toNat, flatV v = true := zerosL_flat (hT e de hde).zflat _
      have hp := hH.push ⟨zerosL de.zero n.toNat, de.size, true, de.fl⟩ ⟨zerosL de.zero n.toNat⟩ e (by simp) (fun j v hv => ⟨v, by simpa using hv, .flat (hfl v (List.mem_of_getElem? hv))⟩) (fun _ => hfl)
      refine ⟨_, _, _, _, rfl, .inl rfl, hp, .inr ?_, upd_ext ι _ _, OCs.push B H _ hB, by simp⟩
      refine .sl _ _ _ _ ⟨w.heap.size, 0, (zerosL de.zero n.toNat).length, de.size⟩ _ _ (by simp [upd]) (Nat.le_refl _) ?_ ?_ ?_ (.inl rfl)
      · omega
      · omega
      · simp [zerosL_length, hzl]
    · simp at h
  · simp at h

theorem loadVarA_run (hT : TyOk P T) (hH : HRel w0 ι H w) {ty : Nat} {x x' v : Value} (hx : VRel ι x x') (h : loadVarA T ty x H = some v) :
    ∃ v', (Instr.loadAt ty x').run P w = .ok v' w ∧ VRel ι v v' := by
  unfold loadVarA at h
  split at h
  · rename_i ad d hd
    cases hx with
    | ptr b o L hL =>
      simp only at h
      split at h
      · rename_i cs hcs
        obtain ⟨vs', hlen, hcell, hrel⟩ := hH.cells hcs hL
        by_cases hagg : aggD d.und = true
        · simp only [hagg, if_true, Option.some.injEq] at h hcs hlen; subst h
          refine ⟨.agg ⟨vs'⟩, ?_, .agg _ _ hrel.1 hrel.2⟩
          have := run_loadCells_list (P := P) w ⟨L.blk, L.off + o, none⟩ vs' hcell
          rw [hlen] at this
          simp [Instr.loadAt, Instr.sureAddr, loadVar, hT.isAgg hd, hagg, hT.sizeOf hd, this]
        · have hagg' : aggD d.und = false := by simpa using hagg
          simp only [hagg', Bool.false_eq_true, if_false] at h hcs hlen
          obtain ⟨v', g1, g2⟩ := hrel.get h
          refine ⟨v', ?_, g2⟩
          have hc := hcell 0 v' g1
          simp only [addr_add, Nat.add_zero] at hc
          simp [Instr.loadAt, Instr.sureAddr, loadVar, hT.isAgg hd, hagg', hc]
      · simp at h
  · simp at h

theorem storeVarA_run (hT : TyOk P T) (hH : HRel w0 ι H w) {ty : Nat} {x x' y y' : Value} {H' : Heap} (hx : VRel ι x x') (hy : VRel ι y y') (h : storeVarA T B ty x y H = some H') :
    ∃ w', (Instr.storeAt ty x' y').run P w = .ok () w' ∧ HRel w0 ι H' w' ∧ OCs B H H' ∧ H'.length = H.length := by
  unfold storeVarA at h
  split at h
  · rename_i ad d hd
    cases hx with
    | ptr b o L hL =>
      simp only at h
      split at h
      · rename_i hsz
        have hcr := cells_rel hy
        obtain ⟨w', g1, g2⟩ := hH.store (P := P) h hL hcr
        refine ⟨w', ?_, g2⟩
        have hsz' : y'.cells.size = d.size := by rw [← hsz, hcr.1, cellsL_eq]; simp
        rw [cellsL_eq] at g1
        simp [Instr.storeAt, Instr.sureAddr, storeVar, hT.sizeOf hd, hsz', g1]
      · simp at h
  · simp at h

theorem fieldAtA_run (hT : TyOk P T) {ty f : Nat} {x x' v : Value} (hx : VRel ι x x') (h : fieldAtA T ty x f = some v) :
    ∃ v', (Instr.fieldAt ty x' f).run P w = .ok v' w ∧ VRel ι v v' := by
  unfold fieldAtA at h
  split at h
  · rename_i ad d hd
    cases hx with
    | ptr b o L hL =>
      split at h
      · rename_i fs hfs
        have hu := (hT ty d hd).und; rw [hfs] at hu
        split at h
        · rename_i fd hfd
          split at h
          · rename_i df hdf
            split at h
            · simp at h
            · rename_i hne
              obtain rfl := Option.some.inj h
              refine ⟨.pointer (some ⟨L.blk, L.off + (o + fd.offset), none⟩), ?_, .ptr _ _ L hL⟩
              simp [Instr.fieldAt, run_underlying hu, hfd, Instr.sureAddr, fieldPlace, hT.sizeOf hdf, hne, addr_add, Nat.add_assoc]
          · simp at h
        · simp at h
      · simp at h
  · simp at h

theorem partL_rel {ty off : Nat} {cs cs' : List Value} {v : Value} (hr : LRel ι cs cs') (h : partL T ty cs off = some v) : ∃ v', partL T ty cs' off = some v' ∧ VRel ι v v' := by
  unfold partL at h ⊢
  split at h
  · rename_i d hd
    split at h
    · rename_i ha
      simp only [ha, if_true]
      split at h
      · rename_i hc
        obtain rfl := Option.some.inj h
        rw [if_pos (by rw [← hr.1]; exact hc)]
        have q := (hr.drop off).take d.size
        exact ⟨_, rfl, .agg _ _ q.1 q.2⟩
      · simp at h
    · rename_i ha
      simp only [ha, if_false]
      exact hr.get h
  · simp at h

theorem fieldA_run (hT : TyOk P T) {ty f : Nat} {x x' v : Value} (hx : VRel ι x x') (h : fieldA T ty x f = some v) :
    ∃ v', (Instr.field ty x' f).run P w = .ok v' w ∧ VRel ι v v' := by
  unfold fieldA at h
  split at h
  · rename_i cs d hd
    cases hx with
    | agg xs ys hl hxy =>
      split at h
      · rename_i fs hfs
        have hu := (hT ty d hd).und; rw [hfs] at hu
        split at h
        · rename_i fd hfd
          obtain ⟨v', g1, g2⟩ := partL_rel (ι := ι) (T := T) ⟨hl, hxy⟩ h
          refine ⟨v', ?_, g2⟩
          simp [Instr.field, run_underlying hu, hfd, asAgg, part_run hT g1]
        · simp at h
      · simp at h
  · simp at h

theorem indexAtA_run (hT : TyOk P T) {ty : Nat} {x x' i i' v : Value} (hx : VRel ι x x') (hi : VRel ι i i') (h : indexAtA T ty x i = some v) :
    ∃ v', (Instr.indexAt ty x' i').run P w = .ok v' w ∧ VRel ι v v' := by
  unfold indexAtA at h
  split at h
  · rename_i d k n hd
    cases hi
    split at h
    · rename_i len e ad hu0
      have hu := (hT ty d hd).und; rw [hu0] at hu
      cases hx with
      | ptr b o L hL =>
        split at h
        · rename_i de hde
          split at h
          · rename_i hc
            obtain rfl := Option.some.inj h
            refine ⟨.pointer (some ⟨L.blk, L.off + (o + n.toNat * de.size), none⟩), ?_, .ptr _ _ L hL⟩
            simp [Instr.indexAt, asIntOf, run_underlying hu, Instr.sureAddr, hc, hT.sizeOf hde, addr_add, Nat.add_assoc]
          · simp at h
        · simp at h
    · rename_i e ad len c hu0
      have hu := (hT ty d hd).und; rw [hu0] at hu
      cases hx with
      | sl b o n1 c1 L a' c' hL hn hz hl hx ha =>
        split at h
        · rename_i de hde
          split at h
          · rename_i hc
            obtain rfl := Option.some.inj h
            have ha' : a' = ⟨L.blk, L.off + o, none⟩ := ha.resolve_right (by omega)
            subst ha'
            refine ⟨.pointer (some ⟨L.blk, L.off + (o + n.toNat * de.size), none⟩), ?_, .ptr _ _ L hL⟩
            simp [Instr.indexAt, asIntOf, run_underlying hu, hc, hT.sizeOf hde, addr_add, Nat.add_assoc]
          · simp at h
        · simp at h
    · simp at h
  · simp at h

theorem indexA_run (hT : TyOk P T) {ty : Nat} {x x' i i' v : Value} (hx : VRel ι x x') (hi : VRel ι i i') (h : indexA T ty x i = some v) :
    ∃ v', (Instr.index ty x' i').run P w = .ok v' w ∧ VRel ι v v' := by
  unfold indexA at h
  split at h
  · rename_i d k n hd
    cases hi
    split at h
    · rename_i len e cs hu0
      have hu := (hT ty d hd).und; rw [hu0] at hu
      cases hx with
      | agg xs ys hl hxy =>
        split at h
        · rename_i de hde
          split at h
          · rename_i hc
            obtain ⟨v', g1, g2⟩ := partL_rel (ι := ι) (T := T) ⟨hl, hxy⟩ h
            refine ⟨v', ?_, g2⟩
            simp [Instr.index, asIntOf, run_underlying hu, hc, hT.sizeOf hde, part_run hT g1]
          · simp at h
        · simp at h
    · rename_i s hu0
      have hu := (hT ty d hd).und; rw [hu0] at hu
      cases hx
      split at h
      · rename_i h0
        cases hb : s.data.toList[n.toNat]? with
        | none => simp [hb] at h
        | some b =>
          simp only [hb, Option.map_some, Option.some.injEq] at h; subst h
          have hb' : s[n.toNat]? = some b := by
            rw [Array.getElem?_toList] at hb
            obtain ⟨h1, h2⟩ := Array.getElem?_eq_some_iff.1 hb
            rw [getElem?_pos s n.toNat h1]
            exact congrArg some h2
          exact ⟨_, by simp [Instr.index, asIntOf, run_underlying hu, h0, hb'], .int _ _⟩
      · simp at h
    · simp at h
  · simp at h

theorem convA_run (hT : TyOk P T) {s d : Nat} {x x' v : Value} (hx : VRel ι x x') (h : convA T s d x = some v) :
    ∃ v', (convert s d x').run P w = .ok v' w ∧ VRel ι v v' := by
  unfold convA at h
  split at h
  · rename_i ds dd k n hs hd
    cases hx
    split at h
    · rename_i k' hu0
      obtain rfl := Option.some.inj h
      have hu := (hT d dd hd).und; rw [hu0] at hu
      have hus := (hT s ds hs).und
      refine ⟨_, ?_, .int _ _⟩
      cases hq : ds.und <;> rw [hq] at hus <;> simp [convert, run_underlying hus, run_underlying hu, Conv.intToInt]
    · simp at h
  · rename_i ds dd b hs hd
    cases hx
    split at h
    · rename_i hu0
      obtain rfl := Option.some.inj h
      have hu := (hT d dd hd).und; rw [hu0] at hu
      have hus := (hT s ds hs).und
      refine ⟨_, ?_, .str _⟩
      cases hq : ds.und <;> rw [hq] at hus <;> simp [convert, run_underlying hus, run_underlying hu]
    · simp at h
  · simp at h

theorem lenA_run (hT : TyOk P T) {ty : Nat} {x x' v : Value} {tys : Array TypeId} {rt : TypeId} {args' : Array Value} (hty : tys[0]? = some ty) (ha : args'[0]? = some x') (hx : VRel ι x x') (h : lenA T ty x = some v) :
    ∃ v', (Builtin.len_ tys rt args').run P w = .ok v' w ∧ VRel ι v v' := by
  unfold lenA at h
  split at h
  · rename_i d hd
    have hu := (hT ty d hd).und
    split at h
    · rename_i s hu0; rw [hu0] at hu; cases hx; obtain rfl := Option.some.inj h
      exact ⟨_, by simp [Builtin.len_, hty, ha, run_underlying hu, goInt], .int _ _⟩
    · rename_i n e hu0; rw [hu0] at hu; obtain rfl := Option.some.inj h
      exact ⟨_, by simp [Builtin.len_, hty, ha, run_underlying hu, goInt], .int _ _⟩
    · rename_i e b n c hu0; rw [hu0] at hu; obtain rfl := Option.some.inj h
      cases hx with
      | nilSl => exact ⟨_, by simp [Builtin.len_, hty, ha, run_underlying hu, goInt], .int _ _⟩
      | sl b o n1 c1 L a' c' hL hn hz hl hx ha1 => exact ⟨_, by simp [Builtin.len_, hty, ha, run_underlying hu, goInt], .int _ _⟩
    · simp at h
  · simp at h

theorem maxA_run : ∀ (r r' : List Value) (x x' v : Value), VRel ι x x' → LRel ι r r' → maxA x r = some v → ∃ v', (r'.foldlM Builtin.max2 x' : Sem Value).run P w = .ok v' w ∧ VRel ι v v'
  | [], r', x, x', v, hx, hr, h => by
    have : r' = [] := List.eq_nil_of_length_eq_zero (by have := hr.1; simpa using this.symm)
    subst this
    simp [maxA] at h; subst h; exact ⟨x', rfl, hx⟩
  | y :: r, r', x, x', v, hx, hr, h => by
    obtain ⟨y', r'', rfl, hy, hr'⟩ := hr.inv_cons
    unfold maxA at h
    split at h
    · simp_all
    · rename_i k a k' b r1 e
      injection e with e1 e2; subst e1; subst e2
      cases hx; cases hy
      obtain ⟨v', g1, g2⟩ := maxA_run r r'' _ _ v (.int k (if b > a then b else a)) hr' h
      exact ⟨v', by simpa [List.foldlM_cons, Builtin.max2] using g1, g2⟩
    · simp at h
theorem minA_run : ∀ (r r' : List Value) (x x' v : Value), VRel ι x x' → LRel ι r r' → minA x r = some v → ∃ v', (r'.foldlM Builtin.min2 x' : Sem Value).run P w = .ok v' w ∧ VRel ι v v'
  | [], r', x, x', v, hx, hr, h => by
    have : r' = [] := List.eq_nil_of_length_eq_zero (by have := hr.1; simpa using this.symm)
    subst this
    simp [minA] at h; subst h; exact ⟨x', rfl, hx⟩
  | y :: r, r', x, x', v, hx, hr, h => by
    obtain ⟨y', r'', rfl, hy, hr'⟩ := hr.inv_cons
    unfold minA at h
    split at h
    · simp_all
    · rename_i k a k' b r1 e
      injection e with e1 e2; subst e1; subst e2
      cases hx; cases hy
      obtain ⟨v', g1, g2⟩ := minA_run r r'' _ _ v (.int k (if b < a then b else a)) hr' h
      exact ⟨v', by simpa [List.foldlM_cons, Builtin.min2] using g1, g2⟩
    · simp at h

/-- The bounds of a cut as the machine has them. -/
theorem sliceBound_run {k : IntKind} {i : Int} {y : Nat} {code : BoundsCode} (h0 : 0 ≤ i) (h1 : i ≤ y) : (Instr.sliceBound (.int k i) y code).run P w = .ok i.toNat w := by
  simp [Instr.sliceBound, asIntOf, h0, h1]
end
end Go.Proofs.Ytabmmdfhhpajgaa.Eng
