/- A text of this claim (E20): lemmas for the proof, no conditions of their own. -/
import Derived.Test.YtabmmdfhhpajgaaE19
set_option linter.unusedVariables false
set_option linter.unusedSimpArgs false
namespace Go.Proofs.Ytabmmdfhhpajgaa.Eng
open Go Go.RowKit

section
variable {P : Program} {B : Nat} {t : List Value} {H : Heap} {Q : AQ} {ops : Array Oper}

/-- What holds while a region runs in an order that was drawn. -/
structure DInv (P : Program) (B : Nat) (ops : Array Oper) (base : Nat) (t0 tf : List Value) (Hs : Nat → Heap) (w0 : World) (ι0 : Ren) (H0 : Heap) (L : Nat → Bool) (ι : Ren) (a : Act) (w : World) : Prop where
  closed : Closed ops L
  ts : TS ι (maskT ops L t0 tf) a.tmps
  df : a.defers = []
  rel : HRel w0 ι (Hs (cntB (fun i => heapAt ops i && L i) ops.size)) w
  oc : OC B (Hs (cntB (fun i => heapAt ops i && L i) ops.size))
  ext : Ext B ι0 ι
  ocs : OCs B H0 (Hs (cntB (fun i => heapAt ops i && L i) ops.size))
  lb : B ≤ base
  len : base + cntB (allocAt ops) ops.size ≤ (Hs (cntB (fun i => heapAt ops i && L i) ops.size)).length
  fresh : ∀ i, i < ops.size → allocAt ops i = true → L i = false → ι (base + cntB (allocAt ops) i) = none

theorem closed_step {L : Nat → Bool} (hc : Closed ops L) {i : Nat} (hr : ReadyAt ops L i) : Closed ops (fun j => j == i || L j) := fun j o hl ho e he hb => by
  simp only [Bool.or_eq_true, beq_iff_eq] at hl ⊢
  rcases hl with rfl | hl
  · exact .inr (hr o ho e he hb)
  · exact .inr (hc j o hl ho e he hb)
theorem cntB_add {p : Nat → Bool} {i : Nat} : ∀ (n : Nat), i < n → p i = false → cntB (fun j => j == i || p j) n = cntB p n + 1
  | 0, h, _ => by omega
  | n + 1, h, hp => by
    simp only [cntB]
    by_cases e : i = n
    · subst e
      have : cntB (fun j => j == i || p j) i = cntB p i := cntB_congr i fun k hk => by simp [Nat.ne_of_lt hk]
      simp [this, hp]
    · rw [cntB_add n (by omega) hp]
      have : (n == i) = false := by simp; exact fun q => e q.symm
      simp only [this, Bool.false_or]
      omega
theorem cnt_heap {L : Nat → Bool} {i : Nat} (hn : i < ops.size) (hl : L i = false) (hh : heapAt ops i = true) : cntB (fun j => heapAt ops j && (j == i || L j)) ops.size = cntB (fun j => heapAt ops j && L j) ops.size + 1 := by
  rw [← cntB_add (p := fun j => heapAt ops j && L j) ops.size hn (by simp [hl])]
  refine cntB_congr _ fun k _ => ?_
  by_cases e : k = i
  · subst e; simp [hh]
  · have e' : (k == i) = false := by simpa using e
    simp only [e', Bool.false_or]
theorem cnt_calm {L : Nat → Bool} {i : Nat} (hh : heapAt ops i = false) : cntB (fun j => heapAt ops j && (j == i || L j)) ops.size = cntB (fun j => heapAt ops j && L j) ops.size := by
  refine cntB_congr _ fun k _ => ?_
  by_cases e : k = i
  · subst e; simp [hh]
  · have e' : (k == i) = false := by simpa using e
    simp only [e', Bool.false_or]
theorem alloc_inj {i j : Nat} (hi : allocAt ops i = true) (hj : allocAt ops j = true) (h : cntB (allocAt ops) i = cntB (allocAt ops) j) : i = j := by
  rcases Nat.lt_trichotomy i j with q | q | q
  · have := cntB_lt (p := allocAt ops) q hi; omega
  · exact q
  · have := cntB_lt (p := allocAt ops) q hj; omega
theorem cntB_le {p : Nat → Bool} {i n : Nat} (hi : i < n) (hp : p i = true) : cntB p i < cntB p n := cntB_lt hi hp
theorem cntB_sub {p q : Nat → Bool} : ∀ (n : Nat), (∀ i, p i = true → q i = true) → cntB p n ≤ cntB q n
  | 0, _ => Nat.le_refl _
  | n + 1, h => by
    have := cntB_sub n h
    simp only [cntB]
    by_cases e : p n = true
    · simp [e, h n e]; exact this
    · simp [e]; omega

/-- One operation, wherever it is drawn. -/
theorem draw_step {base : Nat} {t0 tf : List Value} {Tf : Nat → List Value} {W : Nat → Bool} {V : Nat → Value} {Hs : Nat → Heap} (F : Facts P B ops base t0 tf Tf W V Hs) {w0 : World} {ι0 : Ren} {H0 : Heap} {L : Nat → Bool} {ι : Ren} {a : Act} {w : World} (I : DInv P B ops base t0 tf Hs w0 ι0 H0 L ι a w)
    {i : Nat} {o : Oper} (hi : ops[i]? = some o) (hl : L i = false) (hr : ReadyAt ops L i) {Qx : Exit → Act → World → Prop} {K : Act → World → Prop}
    (hK : ∀ ι' a' w', DInv P B ops base t0 tf Hs w0 ι0 H0 (fun j => j == i || L j) ι' a' w' → K a' w') : wpOp P ops Qx i K a w := by
  have hn : i < ops.size := (Array.getElem?_eq_some_iff.1 hi).1
  have hw := want_known F I.closed hi hl hr
  rw [F.want i o hi] at hw
  have hwr := wantedA_run I.ts hw
  have hcl := closed_step I.closed hr
  have hev := ev_known F I.closed hi hl hr
  have hlen : B ≤ (Hs (cntB (fun i => heapAt ops i && L i) ops.size)).length := by have := I.lb; have := I.len; omega
  have hheap : heapAt ops i = isHeapO o := by simp [heapAt, hi]
  have halloc : allocAt ops i = isAllocO o := by simp [allocAt, hi]
  -- a step that leaves the heap's count as it is told
  have fin : ∀ (ι' : Ren) (v' : Value) (w' : World) (k' : Nat), k' = cntB (fun j => heapAt ops j && (j == i || L j)) ops.size → HRel w0 ι' (Hs k') w' → TRel ι' (V i) v' → (∀ id L, ι id = some L → ι' id = some L) → Ext B ι ι' →
      OCs B (Hs (cntB (fun i => heapAt ops i && L i) ops.size)) (Hs k') → (Hs (cntB (fun i => heapAt ops i && L i) ops.size)).length ≤ (Hs k').length → (∀ j, j < ops.size → allocAt ops j = true → j ≠ i → L j = false → ι' (base + cntB (allocAt ops) j) = none) → K (a.put o.dst v') w' := by
    intro ι' v' w' k' hk h1 h2 h3 h4 h5 h6 h7
    subst hk
    refine hK ι' _ w' ⟨hcl, mask_step F hi (I.ts.mono h3) h2, by cases o.dst <;> exact I.df, h1, h5 B (Nat.le_refl _) I.oc, I.ext.trans h4 (Nat.le_refl _), I.ocs.trans h5, I.lb, Nat.le_trans I.len h6, fun j hj ha hlj => ?_⟩
    simp only [Bool.or_eq_false_iff, beq_eq_false_iff_ne] at hlj
    exact h7 j hj ha hlj.1 hlj.2
  unfold wpOp
  rw [hi]
  simp only
  rw [hwr]
  cases hW : W i with
  | false =>
    simp only [Bool.false_eq_true, if_false]
    have hv : TRel ι (V i) undef := by rw [F.skip i o hi hW]; exact .inr (undef_rel ι)
    cases hh : heapAt ops i with
    | false =>
      exact fin ι undef w _ (cnt_calm hh).symm I.rel hv (fun _ _ h => h) (.refl _ _) (.refl _ _) (Nat.le_refl _) (fun j hj ha _ hlj => I.fresh j hj ha hlj)
    | true =>
      have hpos := heap_next F.ok I.closed hh hn hl hr
      have hf := F.heap i o hi (by rw [← hheap]; exact hh)
      rw [hW] at hf
      simp only [Bool.false_eq_true, if_false] at hf
      rw [← hpos] at hf
      refine fin ι undef w _ (cnt_heap hn hl hh).symm ?_ hv (fun _ _ h => h) (.refl _ _) ?_ ?_ (fun j hj ha _ hlj => I.fresh j hj ha hlj)
      · rw [hf]; exact I.rel
      · rw [hf]; exact .refl _ _
      · rw [hf]; exact Nat.le_refl _
  | true =>
    simp only [if_true]
    refine .inl ?_
    have other : ∀ ι', Ext (Hs (cntB (fun i => heapAt ops i && L i) ops.size)).length ι ι' → ∀ j, j < ops.size → allocAt ops j = true → L j = false → ι' (base + cntB (allocAt ops) j) = none := fun ι' hE j hj ha hlj => by
      rw [hE _ (by have := I.len; have := cntB_le (p := allocAt ops) hj ha; omega)]
      exact I.fresh j hj ha hlj
    cases hh : heapAt ops i with
    | true =>
      have hpos := heap_next F.ok I.closed hh hn hl hr
      have hf := F.heap i o hi (by rw [← hheap]; exact hh)
      rw [hW] at hf
      simp only [if_true] at hf
      rw [← hpos] at hf
      have hd := (hf.congr hev).step
      refine Oper.wp_mono ?_ (hd w0 ι w a Qx I.rel I.ts hlen)
      rintro a' w' ⟨v, v', H', ι', rfl, ⟨rfl, rfl⟩, h2, h3, h4, h5, h6⟩
      exact fin ι' v' w' _ (cnt_heap hn hl hh).symm h3 h2 (I.rel.ext h4) (h4.mono hlen) h5 h6 (fun j hj ha _ hlj => other ι' h4 j hj ha hlj)
    | false =>
      have hk : cntB (fun i => heapAt ops i && L i) ops.size ≤ cntB (heapAt ops) ops.size := cntB_sub _ fun j hj => by simp at hj; exact hj.1
      have hf := F.read i o _ hi (by rw [← hheap]; exact hh) hW (may_ok F.ok I.closed hl hr) hk
      by_cases ha : isAllocO o = true
      · obtain ⟨dd, op, ty, ps, af, g⟩ := o
        cases op <;> simp [isAllocO] at ha
        rename_i e
        simp only [ReadP] at hf
        obtain ⟨d, hT, hV, hb⟩ := hf
        have hid := I.fresh i hn (by rw [halloc]; rfl) hl
        obtain ⟨z, hz, hzc⟩ := (tyOf_ok P).zeroValue (w := w) hT
        have hfl := ((tyOf_ok P) _ d hT).zflat
        have hfl' : ∀ v ∈ d.zero, flatV v = true := fun v hv => (List.all_eq_true.1 hfl) v hv
        have hrun : (execOp a.eval ⟨dd, .alloc e, ty, ps, af, g⟩).run P w = .ok (.value (.pointer (some ⟨w.heap.size, 0, none⟩))) (w.alloc (.cells ⟨d.zero⟩ e)) := by
          have : z.cells = ⟨d.zero⟩ := Array.ext' hzc
          simp [execOp, Instr.alloc, hz, newVar, newRow, this]
        have had := I.rel.adopt (e := e) hid (getB_eq.1 hb) hfl'
        unfold Oper.wp
        rw [hrun]
        refine fin _ _ _ _ (cnt_calm hh).symm had (.inr ?_) ?_ ?_ (.refl _ _) (Nat.le_refl _) ?_
        · rw [hV]; exact .ptr _ 0 ⟨w.heap.size, 0, d.zero.length, 0⟩ (by simp [upd])
        · intro id M hM
          by_cases e1 : id = base + cntB (allocAt ops) i
          · subst e1; rw [hid] at hM; simp at hM
          · simp [upd, e1, hM]
        · intro id hlt
          have := I.lb
          simp [upd, show id ≠ base + cntB (allocAt ops) i by omega]
        · intro j hj haj hne hlj
          have : base + cntB (allocAt ops) j ≠ base + cntB (allocAt ops) i := fun e1 => hne (alloc_inj haj (by rw [halloc]; rfl) (by omega))
          simp only [upd, this, if_false]
          exact I.fresh j hj haj hlj
      · have hop : opA (tyOf P) (eqOf P) B (Tf i) (Hs (cntB (fun i => heapAt ops i && L i) ops.size)) o = some (V i, Hs (cntB (fun i => heapAt ops i && L i) ops.size)) := by
          unfold ReadP at hf
          split at hf
          · rename_i e he; simp [isAllocO, he] at ha
          · exact hf
        rw [← opA_congr hev] at hop
        have hd := op_step (K := fun u G => u = V i ∧ G = Hs (cntB (fun i => heapAt ops i && L i) ops.size)) hop ⟨rfl, rfl⟩
        refine Oper.wp_mono ?_ (hd w0 ι w a Qx I.rel I.ts hlen)
        rintro a' w' ⟨v, v', H', ι', rfl, ⟨rfl, rfl⟩, h2, h3, h4, h5, h6⟩
        exact fin ι' v' w' _ (cnt_calm hh).symm h3 h2 (I.rel.ext h4) (h4.mono hlen) h5 h6 (fun j hj ha _ hlj => other ι' h4 j hj ha hlj)

theorem listed_get {listed : Array Bool} {i : Nat} (hn : i < listed.size) : (fun j => j == i || listed.getD j false) = fun j => (listed.setIfInBounds i true).getD j false := by
  funext j
  simp only [Array.getD_eq_getD_getElem?, Array.getElem?_setIfInBounds]
  by_cases e : i = j
  · subst e; simp [hn]
  · have e' : (j == i) = false := by simp; exact fun q => e q.symm
    simp [e, e']
theorem ready_at {listed : Array Bool} {i : Nat} (hs : listed.size = ops.size) (h : i ∈ Region.ready .any ops listed) : ∃ o, ops[i]? = some o ∧ listed.getD i false = false ∧ ReadyAt ops (fun j => listed.getD j false) i := by
  unfold Region.ready at h
  obtain ⟨h1, h2⟩ := List.mem_filter.1 h
  have hn : i < ops.size := by simpa using h1
  simp only [Bool.and_eq_true, Bool.not_eq_true'] at h2
  refine ⟨ops[i], by simp [hn], ?_, ?_⟩
  · have := h2.1
    simp only [Array.getD_eq_getD_getElem?, Array.getElem?_eq_getElem (show i < listed.size by omega), Option.getD_some] at this ⊢
    exact this
  · intro o ho e he hb
    have h3 := h2.2
    rw [ho] at h3
    simp only [Option.map_some, Option.getD_some, Array.all_eq_true'] at h3
    have := h3 e (by simpa using he)
    simpa [hb] using this
theorem ready_none (hok : drawOk ops = true) {listed : Array Bool} (hs : listed.size = ops.size) (h : Region.ready .any ops listed = []) : ∀ i, i < ops.size → listed.getD i false = true := by
  intro i
  induction i using Nat.strongRecOn with
  | _ i ih =>
    intro hn
    cases hl : listed.getD i false
    · exfalso
      have hm : i ∈ Region.ready .any ops listed := by
        unfold Region.ready
        refine List.mem_filter.2 ⟨by simpa using hn, ?_⟩
        have ho : ops[i]? = some ops[i] := by simp [hn]
        rw [ho]
        simp only [Option.map_some, Option.getD_some, Bool.and_eq_true, Bool.not_eq_true', Array.all_eq_true']
        refine ⟨?_, fun e he => ?_⟩
        · simp only [Array.getD_eq_getD_getElem?, Array.getElem?_eq_getElem (show i < listed.size by omega), Option.getD_some] at hl ⊢
          exact hl
        · cases hb : Region.binds .any e with
          | false => simp
          | true =>
            have hlt := (drawOk_at hok ho).1 e (by simpa using he) hb
            rw [ih e.on hlt (by omega)]; simp
      rw [h] at hm; simp at hm
    · rfl
theorem mask_all {L : Nat → Bool} {t0 tf : List Value} (h : ∀ i, i < ops.size → L i = true) : maskT ops L t0 tf = tf := by
  apply List.ext_getElem?
  intro j
  rw [mask_get]
  have : unl ops L j = false := by
    cases hq : unl ops L j
    · rfl
    · obtain ⟨i, o, hi, hl, _⟩ := unl_iff.1 hq
      have := h i (Array.getElem?_eq_some_iff.1 hi).1
      rw [hl] at this; simp at this
  simp [this]

theorem draw_any {base : Nat} {t0 tf : List Value} {Tf : Nat → List Value} {W : Nat → Bool} {V : Nat → Value} {Hs : Nat → Heap} (F : Facts P B ops base t0 tf Tf W V Hs) {w0 : World} {ι0 : Ren} {H0 : Heap} (hq : Q .normal tf (Hs (cntB (heapAt ops) ops.size))) :
    ∀ (fuel : Nat) (listed : Array Bool) (ι : Ren) (a : Act) (w : World), listed.size = ops.size → fuel + cntB (fun j => listed.getD j false) ops.size = ops.size → DInv P B ops base t0 tf Hs w0 ι0 H0 (fun j => listed.getD j false) ι a w →
      wpAny P .any ops (Post w0 ι0 B H0 Q) fuel listed a w := by
  have done : ∀ (listed : Array Bool) (ι : Ren) (a : Act) (w : World), (∀ i, i < ops.size → listed.getD i false = true) → DInv P B ops base t0 tf Hs w0 ι0 H0 (fun j => listed.getD j false) ι a w → Post w0 ι0 B H0 Q .normal a w := by
    intro listed ι a w hall I
    have e : cntB (fun i => heapAt ops i && listed.getD i false) ops.size = cntB (heapAt ops) ops.size := cntB_congr _ fun i hi => by simp only [hall i hi, Bool.and_true]
    have h1 := I.rel; have h2 := I.ts; have h3 := I.ocs; have h4 := I.len; have h5 := I.lb
    rw [e] at h1 h3 h4
    rw [mask_all hall] at h2
    exact ⟨tf, _, ι, hq, h1, h2, I.df, I.ext, h3, by omega⟩
  intro fuel
  induction fuel with
  | zero =>
    intro listed ι a w hs hf I
    have hall : ∀ i, i < ops.size → listed.getD i false = true := by
      have key : ∀ (p : Nat → Bool) (n : Nat), cntB p n = n → ∀ i, i < n → p i = true := by
        intro p n
        have hle : ∀ n, cntB p n ≤ n := by
          intro n; induction n with
          | zero => exact Nat.le_refl _
          | succ n ih => simp only [cntB]; split <;> omega
        induction n with
        | zero => intro _ i hi; omega
        | succ n ih =>
          intro h i hi
          simp only [cntB] at h
          have := hle n
          by_cases hp : p n = true
          · by_cases e : i = n
            · subst e; exact hp
            · exact ih (by simp only [hp, if_true] at h; omega) i (by omega)
          · simp only [hp] at h; simp at h; omega
      exact key _ _ (by omega)
    refine ⟨?_, done listed ι a w hall I⟩
    unfold Region.ready
    refine List.filter_eq_nil_iff.2 fun i hi => ?_
    have hn : i < ops.size := by simpa using hi
    have := hall i hn
    simp only [Array.getD_eq_getD_getElem?, Array.getElem?_eq_getElem (show i < listed.size by omega), Option.getD_some] at this ⊢
    simp [this]
  | succ fuel ih =>
    intro listed ι a w hs hf I
    refine ⟨fun hr => done listed ι a w (ready_none F.ok hs hr) I, fun i hi => ?_⟩
    obtain ⟨o, ho, hl, hr⟩ := ready_at hs hi
    have hn : i < ops.size := (Array.getElem?_eq_some_iff.1 ho).1
    refine draw_step F I ho hl hr fun ι' a' w' I' => ?_
    rw [listed_get (by omega)] at I'
    refine ih _ ι' a' w' (by simp [hs]) ?_ I'
    rw [← listed_get (by omega), cntB_add ops.size hn hl]
    omega

/-- A region that draws its order. -/
theorem Ex_drawn (hm : P.follows .mixedOrders = true) {id : Nat} {base : Nat} {tf : List Value} {Tf : Nat → List Value} {pre : List (Option Blk)} {W : Nat → Bool} {V : Nat → Value} {Hs : Nat → Heap} (hb : base = H.length) (hp : pre.length = cntB (allocAt ops) ops.size)
    (hpf : ∀ b, some b ∈ pre → ∀ v ∈ b.cells, flatV v = true) (h0 : Hs 0 = H ++ pre) (hlen : t.length = tf.length) (hagree : ∀ j, unl ops (fun _ => false) j = false → t[j]? = tf[j]?)
    (F : Facts P B ops base t tf Tf W V Hs) (hq : Q .normal tf (Hs (cntB (heapAt ops) ops.size))) : Ex P B (.region id ops true) t H Q := fun w0 ι w a h1 h2 h3 h4 h5 => by
  refine wp_region_any hm (draw_any F hq ops.size _ ι a _ (by simp) ?_ ?_)
  · have : cntB (fun j => (Array.replicate ops.size false).getD j false) ops.size = 0 := by
      have : ∀ n, cntB (fun j => (Array.replicate ops.size false).getD j false) n = 0 := by
        intro n; induction n with
        | zero => rfl
        | succ n ih => simp only [cntB, ih]; simp [Array.getD_eq_getD_getElem?, Array.getElem?_replicate]; split <;> simp
      exact this _
    omega
  · have hL : (fun j => (Array.replicate ops.size false).getD j false) = fun _ => false := by
      funext j; simp [Array.getD_eq_getD_getElem?, Array.getElem?_replicate]; split <;> simp
    rw [hL]
    have hc0 : cntB (fun i => heapAt ops i && false) ops.size = 0 := by
      have : ∀ n, cntB (fun i => heapAt ops i && false) n = 0 := by
        intro n; induction n with
        | zero => rfl
        | succ n ih => simp only [cntB, Bool.and_false] at ih ⊢; rw [ih]; rfl
      exact this _
    have hrel : HRel w0 ι (H ++ pre) { w with drawn := w.drawn + 1 } := by
      have g := h1.drewW (w.drawn + 1)
      have old : ∀ (j : Nat) (b : Blk) (L : Loc), ι j = some L → (H ++ pre)[j]? = some (some b) → H[j]? = some (some b) := fun j b L hj hb => by
        rw [List.getElem?_append_left (h1.dom j L hj)] at hb; exact hb
      refine ⟨g.below, fun j L hj => by have := h1.dom j L hj; simp; omega, fun j L b hj hb => g.blk j L b hj (old j b L hj hb), fun i j L M b b2 hi hj hne hbi hw hbj => g.sep i j L M b b2 hi hj hne (old i b L hi hbi) hw (old j b2 M hj hbj), ?_, ?_⟩
      · intro j b hb hf v hv
        by_cases hlt : j < H.length
        · rw [List.getElem?_append_left hlt] at hb; exact h1.flat j b hb hf v hv
        · rw [List.getElem?_append_right (by omega)] at hb; exact hpf b (List.mem_of_getElem? hb) v hv
      · intro j b hb
        by_cases hlt : j < H.length
        · rw [List.getElem?_append_left hlt] at hb; exact h1.tot j b hb
        · rw [List.getElem?_append_right (by omega)] at hb; exact .inr (hpf b (List.mem_of_getElem? hb))
    have hocs : OCs B H (H ++ pre) := fun B' hB' ho j b v hj hb hv => by
      rw [List.getElem?_append_left (by omega)] at hb
      exact ho j b v hj hb hv
    refine ⟨fun i o hl => by simp at hl, ⟨by simp [maskT, ← hlen, h2.1], fun j v v' e1 e2 => ?_⟩, h3, ?_, ?_, .refl _ _, ?_, by omega, ?_, ?_⟩
    · rw [mask_get] at e1
      by_cases hu : unl ops (fun _ => false) j = true
      · simp only [hu, if_true] at e1
        cases htf : tf[j]? with
        | none => simp [htf] at e1
        | some u =>
          have hjl : j < t.length := by rw [hlen]; exact (List.getElem?_eq_some_iff.1 htf).1
          simp only [htf, Option.map_some, Option.some.injEq, List.getElem?_eq_getElem hjl, Option.getD_some] at e1
          exact h2.2 j v v' (by rw [List.getElem?_eq_getElem hjl, e1]) e2
      · have hu' : unl ops (fun _ => false) j = false := by simpa using hu
        simp only [hu', Bool.false_eq_true, if_false, Option.map_id'] at e1
        rw [← hagree j hu'] at e1
        exact h2.2 j v v' e1 e2
    · rw [hc0, h0]; exact hrel
    · rw [hc0, h0]; exact hocs B (Nat.le_refl _) h5
    · rw [hc0, h0]; exact hocs
    · rw [hc0, h0, hb]; simp [hp]
    · intro i hi ha _
      cases hq2 : ι (base + cntB (allocAt ops) i) with
      | none => rfl
      | some L => have := h1.dom _ L hq2; omega
end
end Go.Proofs.Ytabmmdfhhpajgaa.Eng
