/- A text of this claim (E2): lemmas for the proof, no conditions of their own. -/
import Derived.Test.YtabmmdfhhpajgaaE1
import Derived.Laws.CopyRow
import Derived.Laws.Rows
set_option linter.unusedVariables false
set_option linter.unusedSimpArgs false
namespace Go.Proofs.Ytabmmdfhhpajgaa.Eng
open Go Go.RowKit

def getB (H : Heap) (id : Nat) : Option Blk := match H[id]? with | some (some b) => some b | _ => none
theorem getB_eq {H : Heap} {id : Nat} {b : Blk} : getB H id = some b ↔ H[id]? = some (some b) := by
  unfold getB; split <;> simp_all
theorem getB_lt {H : Heap} {id : Nat} {b : Blk} (h : getB H id = some b) : id < H.length := (List.getElem?_eq_some_iff.1 (getB_eq.1 h)).1

def loadA (H : Heap) (id o n : Nat) : Option (List Value) :=
  match getB H id with
  | some b => if o + n ≤ b.cells.length then some ((b.cells.drop o).take n) else none
  | none => none
def splice (cs : List Value) (o : Nat) (vs : List Value) : List Value := cs.take o ++ vs ++ cs.drop (o + vs.length)
theorem splice_length {cs vs : List Value} {o : Nat} (h : o + vs.length ≤ cs.length) : (splice cs o vs).length = cs.length := by
  simp [splice]; omega
def storeA (B : Nat) (H : Heap) (id o : Nat) (vs : List Value) : Option Heap :=
  match getB H id with
  | some b => if b.wr = true ∧ o + vs.length ≤ b.cells.length ∧ vs.all (·.oneCell') = true ∧ ((b.fl = true ∨ id < B) → vs.all flatV = true) then some (H.set id (some { b with cells := splice b.cells o vs })) else none
  | none => none
def upd (ι : Ren) (n : Nat) (L : Loc) : Ren := fun id => if id = n then some L else ι id
theorem upd_ext (ι : Ren) (n : Nat) (L : Loc) : Ext n ι (upd ι n L) := fun id hi => by simp [upd, Nat.ne_of_lt hi]

theorem app_old {H : Heap} {x : Option Blk} {y : Option Blk} {j : Nat} (h : (H ++ [y])[j]? = some x) (hj : j ≠ H.length) : H[j]? = some x := by
  by_cases hl : j < H.length
  · rwa [List.getElem?_append_left hl] at h
  · rw [List.getElem?_eq_none (by simp; omega)] at h; simp at h
theorem app_new {H : Heap} {x : Option Blk} {y : Option Blk} (h : (H ++ [y])[H.length]? = some x) : x = y := by simpa using h.symm

section
variable {w0 w : World} {ι : Ren} {H : Heap} {P : Program}

theorem HRel.n0 (h : HRel w0 ι H w) : w0.heap.size ≤ w.heap.size := h.below.size
theorem HRel.updExt (h : HRel w0 ι H w) (L : Loc) : ∀ id M, ι id = some M → upd ι H.length L id = some M := h.ext (upd_ext ι H.length L)
theorem HRel.lt (h : HRel w0 ι H w) {id : Nat} {L : Loc} {b : Blk} (hi : ι id = some L) (hb : H[id]? = some (some b)) : L.blk < w.heap.size := by
  obtain ⟨c, e, fr, hc, _⟩ := h.blk id L b hi hb
  exact (Array.getElem?_eq_some_iff.1 hc).1

theorem HRel.drewW (h : HRel w0 ι H w) (n : Nat) : HRel w0 ι H { w with drawn := n } :=
  ⟨⟨h.below.os, h.below.tape, h.below.output, h.below.size, h.below.block⟩, h.dom, h.blk, h.sep, h.flat, h.tot⟩

/-- A new block. -/
theorem HRel.push (h : HRel w0 ι H w) (b : Blk) (c : Array Value) (e : TypeId) (hl : b.cells.length ≤ c.size)
    (hc : ∀ (j : Nat) (v : Value), b.cells[j]? = some v → ∃ v', c[j]? = some v' ∧ VRel ι v v') (hf : b.fl = true → ∀ v ∈ b.cells, flatV v = true) :
    HRel w0 (upd ι H.length ⟨w.heap.size, 0, c.size, b.sz⟩) (H ++ [some b]) (w.alloc (.cells c e)) := by
  have hext := h.updExt ⟨w.heap.size, 0, c.size, b.sz⟩
  have old : ∀ (id : Nat) (x : Option Blk), (H ++ [some b])[id]? = some x → id ≠ H.length → H[id]? = some x := fun id x hx hne => app_old hx hne
  have new : ∀ (x : Option Blk), (H ++ [some b])[H.length]? = some x → x = some b := fun x hx => app_new hx
  have updo : ∀ id, id ≠ H.length → upd ι H.length ⟨w.heap.size, 0, c.size, b.sz⟩ id = ι id := fun id hne => by simp [upd, hne]
  have updn : upd ι H.length ⟨w.heap.size, 0, c.size, b.sz⟩ H.length = some ⟨w.heap.size, 0, c.size, b.sz⟩ := by simp [upd]
  refine ⟨h.below.alloc h.n0 _, ?_, ?_, ?_, ?_, ?_⟩
  · intro id L hi
    by_cases he : id = H.length
    · subst he; simp
    · rw [updo id he] at hi; have := h.dom id L hi; simp; omega
  · intro id L b1 hi hb
    by_cases he : id = H.length
    · subst he
      rw [updn] at hi
      obtain rfl := Option.some.inj hi
      obtain rfl := Option.some.inj (new _ hb)
      refine ⟨c, e, (0, 0), by show (w.heap.push _)[w.heap.size]? = _; simp, by simp, hl, rfl, ?_, fun _ => ⟨h.n0, rfl⟩⟩
      intro j v hv
      obtain ⟨v', h1, h2⟩ := hc j v hv
      exact ⟨v', by simpa using h1, h2.mono hext⟩
    · rw [updo id he] at hi
      have hb' := old id _ hb he
      obtain ⟨c1, e1, fr, hc1, ha, hb1, hs, hcell, hw⟩ := h.blk id L b1 hi hb'
      refine ⟨c1, e1, fr, ?_, ha, hb1, hs, ?_, hw⟩
      · rw [Below.heap_alloc _ _ _ (h.lt hi hb')]; exact hc1
      · intro j v hv
        obtain ⟨v', h1, h2⟩ := hcell j v hv
        exact ⟨v', h1, h2.mono hext⟩
  · intro i j L M b1 b2 hi hj hne hb1 hw1 hb2
    by_cases hi0 : i = H.length
    · subst hi0
      have hj0 : j ≠ H.length := fun e => hne e.symm
      rw [updn] at hi; obtain rfl := Option.some.inj hi
      rw [updo j hj0] at hj
      have := h.lt hj (old j _ hb2 hj0)
      simp; omega
    · by_cases hj0 : j = H.length
      · subst hj0
        rw [updn] at hj; obtain rfl := Option.some.inj hj
        rw [updo i hi0] at hi
        have := h.lt hi (old i _ hb1 hi0)
        simp; omega
      · rw [updo i hi0] at hi; rw [updo j hj0] at hj
        exact h.sep i j L M b1 b2 hi hj hne (old i _ hb1 hi0) hw1 (old j _ hb2 hj0)
  · intro id b1 hb hfl v hv
    by_cases he : id = H.length
    · subst he
      obtain rfl := Option.some.inj (new _ hb)
      exact hf hfl v hv
    · exact h.flat id b1 (old id _ hb he) hfl v hv
  · intro id b1 hb
    by_cases he : id = H.length
    · subst he; exact .inl ⟨_, updn⟩
    · exact (h.tot id b1 (old id _ hb he)).imp (fun ⟨L, hL⟩ => ⟨L, hext _ _ hL⟩) (fun q => q)

theorem addr_add (b o j : Nat) : (⟨b, o, none⟩ : Addr).add j = ⟨b, o + j, none⟩ := by unfold Addr.add; split <;> simp_all

theorem HRel.load (h : HRel w0 ι H w) {id o n : Nat} {vs : List Value} (hl : loadA H id o n = some vs) {L : Loc} (hi : ι id = some L) :
    ∃ vs' : List Value, (loadCells ⟨L.blk, L.off + o, none⟩ n).run P w = .ok vs'.toArray w ∧ LRel ι vs vs' := by
  unfold loadA at hl
  split at hl
  · rename_i b hb
    split at hl
    · rename_i hn
      obtain rfl := Option.some.inj hl
      obtain ⟨c, e, fr, hc, ha, hb1, hs, hcell, hw⟩ := h.blk id L b hi (getB_eq.1 hb)
      have hlen : ((b.cells.drop o).take n).length = n := by simp; omega
      -- the cells that are there
      have key : ∀ (j : Nat), j < n → ∃ v v', ((b.cells.drop o).take n)[j]? = some v ∧ c[L.off + (o + j)]? = some v' ∧ VRel ι v v' := fun j hj => by
        have hlt : o + j < b.cells.length := by omega
        obtain ⟨v', h1, h2⟩ := hcell (o + j) b.cells[o + j] (by simp [hlt])
        exact ⟨_, v', by simp [List.getElem?_take, List.getElem?_drop, hj, hlt], h1, h2⟩
      refine ⟨(List.range n).map fun j => (c[L.off + (o + j)]?).getD undef, ?_, ?_, ?_⟩
      · have hq := run_loadCells (P := P) w ⟨L.blk, L.off + o, none⟩ n (fun j => (c[L.off + (o + j)]?).getD undef) (fun j hj => by
          obtain ⟨v, v', _, h1, _⟩ := key j hj
          rw [addr_add, cell_of_row w L.blk _ c e fr hc, show L.off + o + j = L.off + (o + j) by omega, h1]; rfl)
        exact hq
      · simp; omega
      · intro j v v' h1 h2
        have hj : j < n := by have := (List.getElem?_eq_some_iff.1 h1).1; omega
        obtain ⟨u, u', k1, k2, k3⟩ := key j hj
        rw [k1] at h1; obtain rfl := Option.some.inj h1
        simp [hj, k2] at h2
        rw [← h2]; exact k3
    · simp at hl
  · simp at hl

theorem oneCell_rel {v v' : Value} (h : VRel ι v v') : v'.oneCell' = v.oneCell' := by cases h <;> rfl

theorem HRel.store (h : HRel w0 ι H w) {B id o : Nat} {vs vs' : List Value} {H' : Heap} (hs : storeA B H id o vs = some H') {L : Loc} (hi : ι id = some L) (hr : LRel ι vs vs') :
    ∃ w', (storeCells ⟨L.blk, L.off + o, none⟩ vs' 0).run P w = .ok () w' ∧ HRel w0 ι H' w' ∧ OCs B H H' ∧ H'.length = H.length := by
  unfold storeA at hs
  split at hs
  · rename_i b hb
    split at hs
    · rename_i hc0
      obtain ⟨hwr, hlen, hone, hfl⟩ := hc0
      obtain rfl := Option.some.inj hs
      have hb0 := getB_eq.1 hb
      have hid : id < H.length := getB_lt hb
      obtain ⟨c, e, fr, hc, ha, hb1, hsz, hcell, hw⟩ := h.blk id L b hi hb0
      obtain ⟨hold, rfl⟩ := hw hwr
      have hl2 : vs'.length = vs.length := hr.1.symm
      have hone' : ∀ v ∈ vs', v.oneCell' = true := fun v hv => by
        obtain ⟨i, hi2⟩ := List.mem_iff_getElem?.1 hv
        have hlt : i < vs.length := by have := (List.getElem?_eq_some_iff.1 hi2).1; omega
        have := hr.2 i vs[i] v (by simp [hlt]) hi2
        rw [oneCell_rel this]
        exact (List.all_eq_true.1 hone) _ (List.getElem_mem hlt)
      have hst := run_storeCells_at P L.blk (L.off + o) e vs' 0 c w hc (by omega) hone'
      refine ⟨_, hst, ?_, ?_, by simp⟩
      · have hnew : (w.setRow L.blk (c.toList.take (L.off + o + 0) ++ vs' ++ c.toList.drop (L.off + o + 0 + vs'.length)).toArray).heap[L.blk]? = some (.cells (c.toList.take (L.off + o + 0) ++ vs' ++ c.toList.drop (L.off + o + 0 + vs'.length)).toArray e (0, 0)) := setRow_heap w L.blk c _ e (0, 0) hc
        have hoth : ∀ k, k ≠ L.blk → (w.setRow L.blk (c.toList.take (L.off + o + 0) ++ vs' ++ c.toList.drop (L.off + o + 0 + vs'.length)).toArray).heap[k]? = w.heap[k]? := fun k hk => setRow_other w L.blk k _ hk
        have hsame : ∀ (j : Nat) (x : Option Blk), j ≠ id → (H.set id (some { b with cells := splice b.cells o vs }))[j]? = some x → H[j]? = some x := fun j x hj hx => by
          rw [List.getElem?_set] at hx; rw [if_neg (Ne.symm hj)] at hx; exact hx
        have hat : ∀ (x : Option Blk), (H.set id (some { b with cells := splice b.cells o vs }))[id]? = some x → x = some { b with cells := splice b.cells o vs } := fun x hx => by
          rw [List.getElem?_set] at hx; simp [hid] at hx; exact hx.symm
        refine ⟨?_, ?_, ?_, ?_, ?_, ?_⟩
        · refine h.below.trans ⟨rfl, rfl, rfl, by simp, fun k hk => hoth k (by omega)⟩
        · intro j M hj; simpa using h.dom j M hj
        · intro j M b1 hj hbj
          by_cases he : j = id
          · subst he
            rw [hi] at hj; obtain rfl := Option.some.inj hj
            obtain rfl := Option.some.inj (hat _ hbj)
            refine ⟨_, e, (0, 0), hnew, ?_, ?_, hsz, ?_, fun _ => ⟨hold, rfl⟩⟩
            · simp; omega
            · rw [splice_length hlen]; exact hb1
            · intro k v hv
              simp only [splice] at hv
              have hcs : c.size = c.toList.length := rfl
              by_cases hk1 : k < o
              · rw [List.getElem?_append_left (by simp; omega), List.getElem?_append_left (by simp; omega), List.getElem?_take, if_pos hk1] at hv
                obtain ⟨v', g1, g2⟩ := hcell k v hv
                refine ⟨v', ?_, g2⟩
                rw [List.getElem?_toArray, List.getElem?_append_left (by simp; omega), List.getElem?_append_left (by simp; omega), List.getElem?_take, if_pos (by omega)]
                simpa using g1
              · by_cases hk2 : k < o + vs.length
                · rw [List.getElem?_append_left (by simp; omega), List.getElem?_append_right (by simp; omega)] at hv
                  simp only [List.length_take] at hv
                  rw [show min o b.cells.length = o by omega] at hv
                  obtain ⟨v', g1, g2⟩ := hr.get hv
                  refine ⟨v', ?_, g2⟩
                  rw [List.getElem?_toArray, List.getElem?_append_left (by simp; omega), List.getElem?_append_right (by simp; omega)]
                  simp only [List.length_take, ← hcs]
                  rw [show L.off + k - min (L.off + o + 0) c.size = k - o by omega]
                  exact g1
                · rw [List.getElem?_append_right (by simp; omega)] at hv
                  simp only [List.length_append, List.length_take] at hv
                  rw [List.getElem?_drop, show o + vs.length + (k - (min o b.cells.length + vs.length)) = k by omega] at hv
                  obtain ⟨v', g1, g2⟩ := hcell k v hv
                  refine ⟨v', ?_, g2⟩
                  rw [List.getElem?_toArray, List.getElem?_append_right (by simp; omega)]
                  simp only [List.length_append, List.length_take, ← hcs]
                  rw [List.getElem?_drop, show L.off + o + 0 + vs'.length + (L.off + k - (min (L.off + o + 0) c.size + vs'.length)) = L.off + k by omega]
                  simpa using g1
          · have hbj' := hsame j _ he hbj
            obtain ⟨c1, e1, fr1, hc1, ha1, hb2, hs1, hcell1, hw1⟩ := h.blk j M b1 hj hbj'
            refine ⟨c1, e1, fr1, ?_, ha1, hb2, hs1, hcell1, hw1⟩
            rw [hoth _ ?_]; exact hc1
            exact (h.sep id j L M b b1 hi hj (Ne.symm he) hb0 hwr hbj').symm
        · intro i j M1 M2 b1 b2 hi1 hj1 hne h1 hw1 h2
          have g1 : ∃ b1', H[i]? = some (some b1') ∧ b1'.wr = true := by
            by_cases he : i = id
            · subst he; exact ⟨b, hb0, hwr⟩
            · exact ⟨b1, hsame i _ he h1, hw1⟩
          have g2 : ∃ b2', H[j]? = some (some b2') := by
            by_cases he : j = id
            · subst he; exact ⟨b, hb0⟩
            · exact ⟨b2, hsame j _ he h2⟩
          obtain ⟨b1', x1, x2⟩ := g1
          obtain ⟨b2', x3⟩ := g2
          exact h.sep i j M1 M2 b1' b2' hi1 hj1 hne x1 x2 x3
        · intro j b1 hbj hf v hv
          by_cases he : j = id
          · subst he
            obtain rfl := Option.some.inj (hat _ hbj)
            simp only [splice, List.mem_append] at hv
            rcases hv with (hv | hv) | hv
            · exact h.flat j b hb0 hf v (List.mem_of_mem_take hv)
            · exact (List.all_eq_true.1 (hfl (.inl hf))) v hv
            · exact h.flat j b hb0 hf v (List.mem_of_mem_drop hv)
          · exact h.flat j b1 (hsame j _ he hbj) hf v hv
        · intro j b1 hbj
          by_cases he : j = id
          · subst he; exact .inl ⟨L, hi⟩
          · exact h.tot j b1 (hsame j _ he hbj)
      · intro B' hB' ho j b1 v hj hbj hv
        by_cases he : j = id
        · subst he
          rw [List.getElem?_set] at hbj; simp [hid] at hbj; subst hbj
          simp only [splice, List.mem_append] at hv
          rcases hv with (hv | hv) | hv
          · exact ho j b v hj hb0 (List.mem_of_mem_take hv)
          · exact Lt.flat ((List.all_eq_true.1 (hfl (.inr (by omega)))) v hv)
          · exact ho j b v hj hb0 (List.mem_of_mem_drop hv)
        · rw [List.getElem?_set, if_neg (Ne.symm he)] at hbj
          exact ho j b1 v hj hbj hv
    · simp at hs
  · simp at hs

/-- A row that grows where it stands: its old name is gone. -/
theorem HRel.regrow (h : HRel w0 ι H w) {id o : Nat} {L : Loc} {b b' : Blk} {c' : Array Value} {w' : World} (hi : ι id = some L) (hb : H[id]? = some (some b)) (hwr : b.wr = true)
    (ho : o ≤ L.avail) (hsz : b'.sz = L.sz) (hlen : b'.cells.length ≤ L.avail - o) (hf : b'.fl = true → ∀ v ∈ b'.cells, flatV v = true)
    (hw : ∃ c e, w.heap[L.blk]? = some (.cells c e (0, 0)) ∧ w' = w.setRow L.blk c' ∧ c'.size = c.size)
    (hcell : ∀ (j : Nat) (v : Value), b'.cells[j]? = some v → ∃ v', c'[L.off + o + j]? = some v' ∧ VRel ι v v') :
    HRel w0 (upd ι H.length ⟨L.blk, L.off + o, L.avail - o, L.sz⟩) (H.set id none ++ [some b']) w' := by
  obtain ⟨c, e, hc, rfl, hcs⟩ := hw
  have hid : id < H.length := (List.getElem?_eq_some_iff.1 hb).1
  have hext := h.updExt ⟨L.blk, L.off + o, L.avail - o, L.sz⟩
  obtain ⟨c0, e0, fr0, hc0, ha, hb1, hsz0, _, hwo⟩ := h.blk id L b hi hb
  obtain ⟨hold, _⟩ := hwo hwr
  rw [hc] at hc0; injection hc0 with hc0; injection hc0 with q1 q2 q3; subst q1; subst q2
  have old : ∀ (j : Nat) (b1 : Blk), (H.set id none ++ [some b'])[j]? = some (some b1) → j ≠ H.length → j ≠ id ∧ H[j]? = some (some b1) := fun j b1 hx hne => by
    have hx := app_old hx (by simpa using hne)
    rw [List.getElem?_set] at hx
    by_cases e : id = j
    · subst e; simp [hid] at hx
    · rw [if_neg e] at hx; exact ⟨fun q => e q.symm, hx⟩
  have new : ∀ (x : Option Blk), (H.set id none ++ [some b'])[H.length]? = some x → x = some b' := fun x hx => by
    rw [List.getElem?_append_right (by simp)] at hx; simpa using hx.symm
  have updo : ∀ j, j ≠ H.length → upd ι H.length ⟨L.blk, L.off + o, L.avail - o, L.sz⟩ j = ι j := fun j hne => by simp [upd, hne]
  have updn : upd ι H.length ⟨L.blk, L.off + o, L.avail - o, L.sz⟩ H.length = some ⟨L.blk, L.off + o, L.avail - o, L.sz⟩ := by simp [upd]
  have hnew : (w.setRow L.blk c').heap[L.blk]? = some (.cells c' e (0, 0)) := setRow_heap w L.blk c c' e (0, 0) hc
  have hoth : ∀ k, k ≠ L.blk → (w.setRow L.blk c').heap[k]? = w.heap[k]? := fun k hk => setRow_other w L.blk k c' hk
  refine ⟨h.below.trans ⟨rfl, rfl, rfl, by simp, fun k hk => hoth k (by omega)⟩, ?_, ?_, ?_, ?_, ?_⟩
  · intro j M hj
    by_cases he : j = H.length
    · subst he; simp
    · rw [updo j he] at hj; have := h.dom j M hj; simp; omega
  · intro j M b1 hj hbj
    by_cases he : j = H.length
    · subst he
      rw [updn] at hj; obtain rfl := Option.some.inj hj
      obtain rfl := Option.some.inj (new _ hbj)
      refine ⟨c', e, (0, 0), hnew, by simp; omega, hlen, hsz.symm, ?_, fun _ => ⟨hold, rfl⟩⟩
      intro k v hv
      obtain ⟨v', g1, g2⟩ := hcell k v hv
      exact ⟨v', g1, g2.mono hext⟩
    · obtain ⟨hne, hbj'⟩ := old j b1 hbj he
      rw [updo j he] at hj
      obtain ⟨c1, e1, fr1, hc1, ha1, hb2, hs1, hcell1, hw1⟩ := h.blk j M b1 hj hbj'
      refine ⟨c1, e1, fr1, ?_, ha1, hb2, hs1, fun k v hv => ?_, hw1⟩
      · rw [hoth _ (h.sep id j L M b b1 hi hj (Ne.symm hne) hb hwr hbj').symm]; exact hc1
      · obtain ⟨v', g1, g2⟩ := hcell1 k v hv; exact ⟨v', g1, g2.mono hext⟩
  · intro i j M1 M2 b1 b2 hi1 hj1 hne h1 hw1 h2
    by_cases hi0 : i = H.length
    · subst hi0
      have hj0 : j ≠ H.length := fun e => hne e.symm
      rw [updn] at hi1; obtain rfl := Option.some.inj hi1
      rw [updo j hj0] at hj1
      obtain ⟨hne2, h2'⟩ := old j b2 h2 hj0
      exact h.sep id j L M2 b b2 hi hj1 (Ne.symm hne2) hb hwr h2'
    · obtain ⟨hne1, h1'⟩ := old i b1 h1 hi0
      rw [updo i hi0] at hi1
      by_cases hj0 : j = H.length
      · subst hj0
        rw [updn] at hj1; obtain rfl := Option.some.inj hj1
        exact (h.sep id i L M1 b b1 hi hi1 (Ne.symm hne1) hb hwr h1').symm
      · obtain ⟨hne2, h2'⟩ := old j b2 h2 hj0
        rw [updo j hj0] at hj1
        exact h.sep i j M1 M2 b1 b2 hi1 hj1 hne h1' hw1 h2'
  · intro j b1 hbj hfl v hv
    by_cases he : j = H.length
    · subst he; obtain rfl := Option.some.inj (new _ hbj); exact hf hfl v hv
    · obtain ⟨hne, hbj'⟩ := old j b1 hbj he
      exact h.flat j b1 hbj' hfl v hv
  · intro j b1 hbj
    by_cases he : j = H.length
    · subst he; exact .inl ⟨_, updn⟩
    · obtain ⟨hne, hbj'⟩ := old j b1 hbj he
      exact (h.tot j b1 hbj').imp (fun ⟨L, hL⟩ => ⟨L, hext _ _ hL⟩) (fun q => q)

theorem OCs.push (B : Nat) (H : Heap) (x : Option Blk) (hB : B ≤ H.length) : OCs B H (H ++ [x]) := by
  intro B' hB' ho j b v hj hb hv
  rw [List.getElem?_append_left (by omega)] at hb
  exact ho j b v hj hb hv
theorem OCs.kill (B : Nat) (H : Heap) (id : Nat) : OCs B H (H.set id none) := by
  intro B' hB' ho j b v hj hb hv
  rw [List.getElem?_set] at hb
  split at hb
  · split at hb <;> simp at hb
  · exact ho j b v hj hb hv
theorem HRel.oc (h : HRel w0 ι H w) : OC H.length H := by
  intro j b v hj hb hv
  rcases h.tot j b hb with ⟨L, hL⟩ | hq
  rotate_left
  · exact Lt.flat (hq v hv)
  obtain ⟨c, e, fr, hc, _, _, _, hcell, _⟩ := h.blk j L b hL hb
  obtain ⟨i, hi⟩ := List.mem_iff_getElem?.1 hv
  obtain ⟨v', _, hr⟩ := hcell i v hi
  exact Lt.of hr h.dom
end
end Go.Proofs.Ytabmmdfhhpajgaa.Eng
