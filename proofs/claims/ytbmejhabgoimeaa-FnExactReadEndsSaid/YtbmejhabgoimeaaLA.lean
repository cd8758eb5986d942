/- A text of this claim (LA): lemmas for the proof, no conditions of their own. -/
import Derived.Test.YtbmejhabgoimeaaSB
import Derived.Deep.Slices
import Derived.WideShapes
set_option linter.unusedVariables false
set_option linter.unusedSimpArgs false
namespace Go.Proofs.Ytbmejhabgoimeaa.Eng
open Go Go.RowKit

/-! ### a law's arguments -/
def ET.Ok : (e : ET) → e.T → Prop
  | .int k, n => k.min ≤ n ∧ n ≤ k.max
  | .bool, _ => True
  | .str, s => s.length ≤ 9223372036854775807
  | .prod a b, x => a.Ok x.1 ∧ b.Ok x.2
def isFs (g : Nat → ET → Bool) (T : Ty) : List Field → Nat → ET → Bool
  | [], _, _ => false
  | [f], off, e => f.offset == off && g f.type e
  | f :: r, off, .prod a b => f.offset == off && g f.type a && isFs g T r (off + a.w) b
  | _ :: _ :: _, _, _ => false
/-- Values of type t are elements of shape e. -/
def isE (T : Ty) : Nat → Nat → ET → Bool
  | 0, _, _ => false
  | n + 1, t, e => match T t with
    | none => false
    | some d => d.size == e.w && match d.und with
      | .int k => e == .int k
      | .bool => e == .bool
      | .string => e == .str
      | .struct fs => isFs (isE T n) T fs.toList 0 e
      | _ => false
section
variable {P : Program} {T : Ty} {Q : Nat → Bool} {Hh : Type} {enc : TypeId × Value → Hh} {w W : World} {base : Nat} {spare : Nat → Bool} {held : Bool}
theorem tab_cells (hT : TabOk P T Q) {t : Nat} {d : TyD} (h : T t = some d) : P.cellsOf t = d.size ∧ P.underlying t = some d.und := by
  obtain ⟨hu, ⟨i, v, h1, h2, _⟩, _⟩ := tyOf_ok P t d (hT.1 _ _ h)
  exact ⟨by simp [Program.cellsOf, h1, h2], hu⟩
theorem take_same {α : Type} {X L : List α} {c n : Nat} (h : X.take c = L) (hl : L.length = n) : X.take n = L := by
  subst h
  rw [List.length_take] at hl
  by_cases hc : c ≤ X.length
  · rw [show n = c by omega]
  · rw [show n = X.length by omega, List.take_length, List.take_of_length_le (by omega)]
theorem isFs_ok (hT : TabOk P T Q) {g : Nat → ET → Bool} {cs : List Value} {rd : Field → Prop} (hg : ∀ f e, rd f → g f.type e = true → ∃ y : e.T, (cs.drop f.offset).take (P.cellsOf f.type) = (e.enc y).map toV ∧ e.Ok y) :
    ∀ {l : List Field} {off : Nat} {e : ET}, isFs g T l off e = true → (∀ f ∈ l, rd f) → ∃ y : e.T, (cs.drop off).take e.w = (e.enc y).map toV ∧ e.Ok y
  | [], off, e, h, _ => by simp [isFs] at h
  | [f], off, e, h, hr => by
    simp only [isFs, Bool.and_eq_true, beq_iff_eq] at h
    obtain ⟨rfl, h⟩ := h
    obtain ⟨y, h1, h2⟩ := hg f e (hr f (by simp)) h
    exact ⟨y, take_same h1 (by simp [e.enc_len]), h2⟩
  | f :: f2 :: r, off, e, h, hr => by
    cases e with
    | prod a b =>
      simp only [isFs, Bool.and_eq_true, beq_iff_eq] at h
      obtain ⟨⟨rfl, h1⟩, h2⟩ := h
      obtain ⟨y, g1, g2⟩ := hg f a (hr f (by simp)) h1
      obtain ⟨z, k1, k2⟩ := isFs_ok hT hg h2 (fun f hf => hr f (List.mem_cons_of_mem _ hf))
      refine ⟨(y, z), ?_, g2, k2⟩
      have e1 := take_same (n := a.w) g1 (by simp [a.enc_len])
      rw [← List.drop_drop] at k1
      simp only [ET.w, ET.enc]
      rw [List.take_add, e1, k1]; simp
    | _ => simp [isFs] at h
theorem isE_ok (hT : TabOk P T Q) : ∀ {n t : Nat} {e : ET} {fuel : Nat} {cs : List Value} {x : DataW Hh × List MemPlace}, isE T n t e = true → DataW.trod enc P w base spare held fuel t cs = some x → ∃ y : e.T, cs = (e.enc y).map toV ∧ e.Ok y
  | 0, t, e, fuel, cs, x, h, _ => by simp [isE] at h
  | n + 1, t, e, fuel, cs, x, h, hx => by
    simp only [isE] at h
    split at h
    · simp at h
    · rename_i d hd
      obtain ⟨hc, hu⟩ := tab_cells hT hd
      simp only [Bool.and_eq_true, beq_iff_eq] at h
      obtain ⟨hsz, h⟩ := h
      split at h
      · rename_i k he
        have h : e = .int k := by simpa using h
        subst h
        rw [he] at hu
        obtain ⟨m, rfl, _, hw⟩ := DataW.trod_int hu hx
        refine ⟨m, rfl, ?_⟩
        simpa [Lit.wf, ET.Ok] using hw
      · rename_i he
        have h : e = .bool := by simpa using h
        subst h
        rw [he] at hu
        obtain ⟨b, rfl, _⟩ := DataW.trod_bool hu hx
        exact ⟨b, rfl, trivial⟩
      · rename_i he
        have h : e = .str := by simpa using h
        subst h
        rw [he] at hu
        obtain ⟨s, rfl, _, hw⟩ := DataW.trod_string hu hx
        exact ⟨s.data.toList, rfl, by simpa [maxLen, ET.Ok] using hw⟩
      · rename_i fs he
        rw [he] at hu
        obtain ⟨xs, m, _, _, hlen, hxl, hf⟩ := DataW.trod_struct hu hx
        obtain ⟨y, h1, h2⟩ := isFs_ok (rd := fun f : Field => ∃ i : Nat, fs[i]? = some f) hT (fun f e' ⟨i, hi⟩ he' => by
          have hi' : i < xs.length := by rw [hxl]; exact (Array.getElem?_eq_some_iff.1 hi).1
          have := hf i f hi
          rw [List.getElem?_eq_getElem hi'] at this
          exact isE_ok hT he' this) h (fun f hf => by
          obtain ⟨i, hi⟩ := List.getElem?_of_mem hf
          exact ⟨i, by rwa [Array.getElem?_toList] at hi⟩)
        refine ⟨y, ?_, h2⟩
        rw [← h1, List.drop_zero, List.take_of_length_le (by omega)]
      · simp at h
/-- A slice's elements. -/
theorem slice_open (hT : TabOk P T Q) {t el n : Nat} {e : ET} (ht : P.underlying t = some (.slice el)) (hel : isE T n el e = true) {fuel : Nat} {v : Value} {x : DataW Hh × List MemPlace} (h : DataW.trod enc P W 0 (fun _ => true) held fuel t [v] = some x) :
    ∃ l : List e.T, (∀ y ∈ l, e.Ok y) ∧ l.length ≤ 9223372036854775807 ∧ ((v = .slice none 0 0 ∧ l = []) ∨ ∃ (a : Addr) (len cap : Nat), v = .slice (some a) len cap ∧ len ≤ cap ∧ l.length = cap ∧ ∀ i, i < cap * e.w → W.cell? (a.add i) = ((l.flatMap e.enc).map toV)[i]?) := by
  rcases Go.Deep.open_slice ht h with ⟨h1, h2⟩ | ⟨a, len, cap, m, n', D, Pl, h1, _, hl, hm, hmm, _, hx⟩
  · simp at h1; exact ⟨[], by simp, by simp, .inl ⟨h1, rfl⟩⟩
  · simp at h1
    simp at hmm
    subst hmm
    have hsz : P.cellsOf el = e.w := by
      cases n with
      | zero => simp [isE] at hel
      | succ n =>
        simp only [isE] at hel
        split at hel
        · simp at hel
        · rename_i d hd
          simp only [Bool.and_eq_true, beq_iff_eq] at hel
          rw [(tab_cells hT hd).1, hel.1]
    rw [hsz] at hx
    have : Inhabited e.T := ⟨e.zero⟩
    obtain ⟨f, hf⟩ := Go.Deep.choose_lt (α := e.T) (p := fun i y => W.cells? 0 (a.add (i * e.w)) e.w = some ((e.enc y).map toV) ∧ e.Ok y) (fun i hi => by
      obtain ⟨cs', q1, q2⟩ := hx i hi
      obtain ⟨y, rfl, hy⟩ := isE_ok hT hel q2
      exact ⟨y, q1, hy⟩)
    refine ⟨(List.range m).map f, fun y hy => ?_, by rw [List.length_map, List.length_range]; exact hm, .inr ⟨a, len, m, h1, hl, by simp, fun i hi => ?_⟩⟩
    · obtain ⟨i, hi, rfl⟩ := List.mem_map.1 hy
      exact (hf i (by simpa using hi)).2
    · have hw : 0 < e.w := Nat.pos_of_ne_zero fun h0 => by rw [h0] at hi; simp at hi
      have hq : i / e.w < m := (Nat.div_lt_iff_lt_mul hw).2 hi
      have hat : ((List.range m).map f)[i / e.w]? = some (f (i / e.w)) := by simp [hq]
      obtain ⟨X, Y, e1, e2, _⟩ := flat_at hat
      obtain ⟨_, _, hcell⟩ := World.cells?_some (hf _ hq).1
      have := hcell (i % e.w) (Nat.mod_lt _ hw)
      rw [Go.Deep.add_add, show i / e.w * e.w + i % e.w = i by rw [Nat.mul_comm]; exact Nat.div_add_mod i e.w] at this
      rw [this, e2]
      simp only [List.map_append]
      rw [List.append_assoc, List.getElem?_append_right (by simp [e1]; exact Nat.div_mul_le_self i e.w), List.length_map, e1, List.getElem?_append_left (by rw [List.length_map, e.enc_len]; have := Nat.mod_lt i hw; have h9 := Nat.div_add_mod i e.w; rw [Nat.mul_comm] at h9; omega)]
      congr 1
      have := Nat.div_add_mod i e.w
      rw [Nat.mul_comm] at this; omega

/-- What the machine holds as a law begins. -/
structure Ent (W : World) (ρ : Nm) (S : List SB) (H : Heap) (ι : Ren) (as : List SV) (raw vs : List Value) : Prop where
  den : Den ρ S H
  dom : Dom ρ S H
  args : LDR ρ as raw
  rel : HRel W ι H W
  vals : LRel ι raw vs
  ro : ∀ (id : Nat) (b : Blk), H[id]? = some (some b) → b.wr = false
  len : S.length = H.length
theorem ent_nil (W : World) : Ent W (fun _ => none) [] [] (fun _ => none) [] [] [] where
  den := ⟨fun b x h => by simp at h, fun b b' id w w' h => by simp at h⟩
  dom := fun b id w h => by simp at h
  args := .nil _
  rel := ⟨Below.refl _ _, fun _ _ h => by simp at h, fun _ _ _ h => by simp at h, fun _ _ _ _ _ _ h => by simp at h, fun _ _ h => by simp at h, fun _ _ h => by simp at h⟩
  vals := .nil _
  ro := fun id b h => by simp at h
  len := rfl
variable {ρ : Nm} {S : List SB} {H : Heap} {ι : Ren} {as : List SV} {raw vs : List Value}
/-- A plain value. -/
theorem Ent.flat (h : Ent W ρ S H ι as raw vs) {s : SV} (hs : flatS s = true) : Ent W ρ S H ι (as ++ [s]) (raw ++ [toV s]) (vs ++ [toV s]) :=
  ⟨h.den, h.dom, h.args.append (.cons (toV_rel hs ρ) (.nil ρ)), h.rel, h.vals.append (.cons (.flat ((toV_rel hs ρ).flat hs)) (.nil ι)), h.ro, h.len⟩
/-- A struct of plain values. -/
theorem Ent.agg (h : Ent W ρ S H ι as raw vs) {xs : List SV} (hs : xs.all flatS = true) : Ent W ρ S H ι (as ++ [.agg xs]) (raw ++ [.agg ⟨xs.map toV⟩]) (vs ++ [.agg ⟨xs.map toV⟩]) := by
  have hl : LDR ρ xs (xs.map toV) := by
    refine ⟨by simp, fun i v v' h1 h2 => ?_⟩
    rw [List.getElem?_map, h1] at h2
    simp at h2; subst h2
    exact toV_rel (List.all_eq_true.1 hs v (List.mem_of_getElem? h1)) ρ
  have hf := hl.flat hs
  refine ⟨h.den, h.dom, h.args.append (.cons (.agg _ _ hl.1 hl.2) (.nil ρ)), h.rel, h.vals.append (.cons (.agg _ _ rfl ?_) (.nil ι)), h.ro, h.len⟩
  exact (LRel.flat fun v hv => List.all_eq_true.1 hf v hv).2
theorem HRel.dead (h : HRel W ι H W) : HRel W ι (H ++ [none]) W := by
  have old : ∀ (id : Nat) (b : Blk), (H ++ [none])[id]? = some (some b) → H[id]? = some (some b) := fun id b e => by
    by_cases hl : id < H.length
    · rwa [List.getElem?_append_left hl] at e
    · rw [List.getElem?_append_right (by omega)] at e
      cases hk : id - H.length with
      | zero => simp [hk] at e
      | succ n => simp [hk] at e
  exact ⟨h.below, fun id L e => by have := h.dom id L e; simp; omega, fun id L b e1 e2 => h.blk id L b e1 (old _ _ e2), fun i j L M b b2 e1 e2 hne e3 hw e4 => h.sep i j L M b b2 e1 e2 hne (old _ _ e3) hw (old _ _ e4), fun id b e => h.flat id b (old _ _ e), fun id b e => h.tot id b (old _ _ e)⟩
/-- A slice that is nil. -/
theorem Ent.nil (h : Ent W ρ S H ι as raw vs) (e : ET) : Ent W (updN ρ S.length (H.length, e.w)) (S ++ [.arrO e [] e.w]) (H ++ [none]) ι (as ++ [.opt true S.length 0 0]) (raw ++ [.slice none 0 0]) (vs ++ [.slice none 0 0]) := by
  have hle := updN_le h.dom (H.length, e.w)
  refine ⟨⟨fun b x hb hg => ?_, fun b b' id w1 w2 h1 h2 => ?_⟩, fun b id w' hh => ?_, (h.args.mono hle).append (.cons (.optN _ _ _ _ _ (updN_self _ _ _) rfl rfl) (.nil _)), h.rel.dead, h.vals.append (.cons .nilSl (.nil ι)), fun id b e1 => ?_, by simp [h.len]⟩
  · by_cases hl : b < S.length
    · rw [List.getElem?_append_left hl] at hb
      obtain ⟨id, w, k, h1, h2, h3⟩ := h.den.blk b x hb hg
      exact ⟨id, w, k, hle _ _ h1, by rw [getB_eq] at h2 ⊢; rw [List.getElem?_append_left (h.dom b id w h1).2]; exact h2, h3.mono hle⟩
    · have hb2 : b = S.length := by have := (List.getElem?_eq_some_iff.1 hb).1; simp at this; omega
      subst hb2
      simp at hb; subst hb; simp [isGone] at hg
  · simp only [updN] at h1 h2
    split at h1 <;> split at h2
    · omega
    · obtain ⟨rfl, rfl⟩ := Prod.mk.inj (Option.some.inj h1); have := (h.dom b' _ _ h2).2; omega
    · obtain ⟨rfl, rfl⟩ := Prod.mk.inj (Option.some.inj h2); have := (h.dom b _ _ h1).2; omega
    · exact h.den.inj b b' id w1 w2 h1 h2
  · simp only [updN] at hh
    split at hh
    · obtain ⟨rfl, rfl⟩ := Prod.mk.inj (Option.some.inj hh); simp; omega
    · have := h.dom b id w' hh; simp; omega
  · by_cases hl : id < H.length
    · rw [List.getElem?_append_left hl] at e1; exact h.ro id b e1
    · rw [List.getElem?_append_right (by omega)] at e1
      cases hk : id - H.length with
      | zero => simp [hk] at e1
      | succ n => simp [hk] at e1
/-- A slice. -/
theorem Ent.sl (h : Ent W ρ S H ι as raw vs) (e : ET) {l : List e.T} {a : Addr} {len cap : Nat} (hlc : len ≤ cap) (hl : l.length = cap) (hc : ∀ i, i < cap * e.w → W.cell? (a.add i) = ((l.flatMap e.enc).map toV)[i]?) (hw0 : 0 < e.w) :
    ∃ ι', Ent W (updN ρ S.length (H.length, e.w)) (S ++ [.arrO e l e.w]) (if l = [] then H ++ [none] else H ++ [some (⟨(l.flatMap e.enc).map toV, e.w, false, true⟩ : Blk)]) ι' (as ++ [.opt false S.length len 0]) (raw ++ [.slice (some ⟨H.length, 0, none⟩) len (len + 1)]) (vs ++ [.slice (some a) len cap]) := by
  have hle := updN_le h.dom (H.length, e.w)
  have hlen : (if l = [] then H ++ [none] else H ++ [some (⟨(l.flatMap e.enc).map toV, e.w, false, true⟩ : Blk)]).length = H.length + 1 := by split <;> simp
  let L : Loc := ⟨a.block, a.off, cap * e.w, e.w⟩
  have hextn : ∀ id M, ι id = some M → upd ι H.length L id = some M := h.rel.ext (upd_ext ι H.length L)
  have hcl : ((l.flatMap e.enc).map toV).length = cap * e.w := by rw [List.length_map, flat_len, hl]
  have ldr : ∀ ρ : Nm, LDR ρ (l.flatMap e.enc) ((l.flatMap e.enc).map toV) := fun ρ => by
    refine ⟨by simp, fun i v v' h1 h2 => ?_⟩
    rw [List.getElem?_map, h1] at h2
    simp at h2; subst h2
    exact toV_rel (List.all_eq_true.1 (flat_all l) v (List.mem_of_getElem? h1)) ρ
  -- the row in the machine
  have row : l ≠ [] → ∃ c el fr, W.heap[a.block]? = some (.cells c el fr) ∧ a.spot = none ∧ a.off + cap * e.w ≤ c.size ∧ ∀ i, i < cap * e.w → c[a.off + i]? = ((l.flatMap e.enc).map toV)[i]? := fun hne => by
    have hcap : 0 < cap := by rw [← hl]; exact List.length_pos_iff.2 hne
    have hpos : 0 < cap * e.w := Nat.mul_pos hcap hw0
    have h0 := hc 0 hpos
    have hs : ((l.flatMap e.enc).map toV)[0]? ≠ none := by rw [List.getElem?_eq_getElem (by rw [hcl]; exact hpos)]; simp
    rw [← h0] at hs
    simp only [Addr.add, if_pos, World.cell?] at hs
    split at hs
    · rename_i c el fr hb
      have hsp : a.spot = none := by
        cases hsp : a.spot with
        | none => rfl
        | some k => simp [hsp] at hs
      have each : ∀ i, i < cap * e.w → c[a.off + i]? = ((l.flatMap e.enc).map toV)[i]? := fun i hi => by
        have := hc i hi
        rw [← this]
        obtain ⟨ab, ao, asp⟩ := a
        simp only at hsp hb; subst hsp
        rw [addr_add]
        simp [World.cell?, hb]
      refine ⟨c, el, fr, hb, hsp, ?_, each⟩
      have h9 := each (cap * e.w - 1) (by omega)
      rw [List.getElem?_eq_getElem (by rw [hcl]; omega)] at h9
      have := (Array.getElem?_eq_some_iff.1 h9).1
      omega
    · exact absurd rfl hs
  have oldid : ∀ (id : Nat) (b : Blk), (if l = [] then H ++ [none] else H ++ [some (⟨(l.flatMap e.enc).map toV, e.w, false, true⟩ : Blk)])[id]? = some (some b) → (id < H.length ∧ H[id]? = some (some b)) ∨ (id = H.length ∧ l ≠ [] ∧ b = ⟨(l.flatMap e.enc).map toV, e.w, false, true⟩) := fun id b e1 => by
    by_cases hlt : id < H.length
    · left; refine ⟨hlt, ?_⟩
      split at e1 <;> rwa [List.getElem?_append_left hlt] at e1
    · right
      have : id = H.length := by have := (List.getElem?_eq_some_iff.1 e1).1; rw [hlen] at this; omega
      subst this
      split at e1
      · simp at e1
      · rename_i hne; simp at e1; exact ⟨rfl, hne, e1.symm⟩
  refine ⟨upd ι H.length L, ⟨fun b x hb hg => ?_, fun b b' id w1 w2 h1 h2 => ?_⟩, fun b id w' hh => ?_, (h.args.mono hle).append (.cons (.optS _ _ _ _ _ (updN_self _ _ _)) (.nil _)), ⟨Below.refl _ _, fun id M e1 => ?_, fun id M b e1 e2 => ?_, fun i j M N b b2 e1 e2 hne e3 hw e4 => ?_, fun id b e1 hf v hv => ?_, fun id b e1 => ?_⟩, (h.vals.mono hextn).append (.cons ?_ (.nil _)), fun id b e1 => ?_, by rw [hlen]; simp [h.len]⟩
  · by_cases hlt : b < S.length
    · rw [List.getElem?_append_left hlt] at hb
      obtain ⟨id, w, k, h1, h2, h3⟩ := h.den.blk b x hb hg
      have hid := (h.dom b id w h1).2
      refine ⟨id, w, k, hle _ _ h1, ?_, h3.mono hle⟩
      rw [getB_eq] at h2 ⊢
      split <;> rw [List.getElem?_append_left hid] <;> exact h2
    · have hb2 : b = S.length := by have := (List.getElem?_eq_some_iff.1 hb).1; simp at this; omega
      subst hb2
      simp at hb; subst hb
      have hne : l ≠ [] := by simpa [isGone] using hg
      refine ⟨H.length, e.w, ⟨(l.flatMap e.enc).map toV, e.w, false, true⟩, updN_self _ _ _, by rw [getB_eq, if_neg hne]; simp, rfl, rfl, rfl, ldr _⟩
  · simp only [updN] at h1 h2
    split at h1 <;> split at h2
    · omega
    · obtain ⟨rfl, rfl⟩ := Prod.mk.inj (Option.some.inj h1); have := (h.dom b' _ _ h2).2; omega
    · obtain ⟨rfl, rfl⟩ := Prod.mk.inj (Option.some.inj h2); have := (h.dom b _ _ h1).2; omega
    · exact h.den.inj b b' id w1 w2 h1 h2
  · simp only [updN] at hh
    rw [hlen]
    split at hh
    · obtain ⟨rfl, rfl⟩ := Prod.mk.inj (Option.some.inj hh); simp; omega
    · have := h.dom b id w' hh; simp; omega
  · simp only [upd] at e1
    rw [hlen]
    split at e1
    · omega
    · have := h.rel.dom id M e1; omega
  · rcases oldid id b e2 with ⟨hlt, e2⟩ | ⟨rfl, hne, rfl⟩
    · simp only [upd, if_neg (Nat.ne_of_lt hlt)] at e1
      obtain ⟨c, el, fr, q1, q2, q3, q4, q5, q6⟩ := h.rel.blk id M b e1 e2
      exact ⟨c, el, fr, q1, q2, q3, q4, fun j v hv => by obtain ⟨v', g1, g2⟩ := q5 j v hv; exact ⟨v', g1, g2.mono hextn⟩, q6⟩
    · simp only [upd, if_pos] at e1
      obtain rfl := Option.some.inj e1
      obtain ⟨c, el, fr, q1, q2, q3, q4⟩ := row hne
      refine ⟨c, el, fr, q1, q3, by rw [hcl]; exact Nat.le_refl _, rfl, fun j v hv => ?_, fun hw => by simp at hw⟩
      have hj : j < cap * e.w := by rw [← hcl]; exact (List.getElem?_eq_some_iff.1 hv).1
      refine ⟨v, by rw [← hv]; exact q4 j hj, .flat ?_⟩
      exact List.all_eq_true.1 ((ldr ρ).flat (flat_all l)) v (List.mem_of_getElem? hv)
  · rcases oldid i b e3 with ⟨_, e3⟩ | ⟨_, _, rfl⟩
    · rw [h.ro i b e3] at hw; simp at hw
    · simp at hw
  · rcases oldid id b e1 with ⟨_, e1⟩ | ⟨_, _, rfl⟩
    · exact h.rel.flat id b e1 hf v hv
    · exact List.all_eq_true.1 ((ldr ρ).flat (flat_all l)) v hv
  · rcases oldid id b e1 with ⟨hlt, e1⟩ | ⟨rfl, _, rfl⟩
    · rcases h.rel.tot id b e1 with ⟨M, hM⟩ | hf
      · exact .inl ⟨M, hextn _ _ hM⟩
      · exact .inr hf
    · exact .inl ⟨L, by simp [upd]⟩
  · have hL : upd ι H.length L H.length = some L := by simp [upd]
    refine .sl _ _ _ _ L a cap hL hlc (fun hz => by omega) (by omega) (by simp [L]) ?_
    by_cases hcap : cap = 0
    · exact .inr hcap
    · left
      have hne : l ≠ [] := by intro e0; rw [e0] at hl; simp at hl; omega
      obtain ⟨_, _, _, _, hsp, _⟩ := row hne
      obtain ⟨ab, ao, asp⟩ := a
      simp only at hsp; subst hsp; simp [L]
  · rcases oldid id b e1 with ⟨_, e1⟩ | ⟨_, _, rfl⟩
    · exact h.ro id b e1
    · rfl
theorem Ent.slice (h : Ent W ρ S H ι as raw vs) (e : ET) {l : List e.T} {v : Value} (hs : (v = .slice none 0 0 ∧ l = []) ∨ ∃ (a : Addr) (len cap : Nat), v = .slice (some a) len cap ∧ len ≤ cap ∧ l.length = cap ∧ ∀ i, i < cap * e.w → W.cell? (a.add i) = ((l.flatMap e.enc).map toV)[i]?) (hw0 : 0 < e.w) :
    ∃ (c : Bool) (n : Nat) (ρ' : Nm) (H' : Heap) (ι' : Ren) (raw' : List Value), Ent W ρ' (S ++ [.arrO e l e.w]) H' ι' (as ++ [.opt c S.length n 0]) raw' (vs ++ [v]) ∧ n ≤ l.length ∧ (c = true → l = []) := by
  rcases hs with ⟨rfl, rfl⟩ | ⟨a, len, cap, rfl, h1, h2, h3⟩
  · exact ⟨true, 0, _, _, _, _, h.nil e, Nat.le_refl _, fun _ => rfl⟩
  · obtain ⟨ι', hE⟩ := h.sl e h1 h2 h3 hw0
    exact ⟨false, len, _, _, ι', _, hE, by omega, fun e => by simp at e⟩
/-- What a law does, said of the machine. -/
theorem Ent.runs (h : Ent W ρ S H ι as raw vs) {f : FuncId} {S' : List SB} {b : Bool} (hr : RunsS P f as S (.bool b) S') : Calls P f ⟨vs⟩ W fun e W' => e = .returned (.bool b) ∧ Below W.heap.size W W' := by
  obtain ⟨v', H', ρ', h1, h2, h3⟩ := hr H ρ raw h.den h.dom h.args
  cases h2
  refine (h1.2 W ι W vs h.rel h.vals).mono fun e W' ⟨v, v', H', ι', he, ⟨hv, _⟩, hrel, hh, _⟩ => ?_
  subst he; subst hv
  cases hrel
  exact ⟨rfl, hh.below⟩
end
end Go.Proofs.Ytbmejhabgoimeaa.Eng
set_option linter.unusedVariables false
set_option linter.unusedSimpArgs false
namespace Go.Proofs.Ytbmejhabgoimeaa.Eng
open Go Go.RowKit

/-! ### a law's arguments with slices inside -/
/-- The shape of a value: plain, a slice of plain elements, or two such. -/
inductive VT where
  | flat (e : ET) | sl (e : ET) | pr (a b : VT)
def VT.w : VT → Nat
  | .flat e => e.w
  | .sl _ => 1
  | .pr a b => a.w + b.w
def isVs (g : Nat → VT → Bool) : List Field → Nat → VT → Bool
  | [], _, _ => false
  | [f], off, e => f.offset == off && g f.type e
  | f :: r, off, .pr a b => f.offset == off && g f.type a && isVs g r (off + a.w) b
  | _ :: _ :: _, _, _ => false
/-- Values of type t have the shape. -/
def isV (T : Ty) : Nat → Nat → VT → Bool
  | 0, _, _ => false
  | n + 1, t, .flat e => isE T (n + 1) t e
  | n + 1, t, e => match T t with
    | none => false
    | some d => d.size == e.w && match d.und with
      | .slice el => match e with | .sl e' => isE T n el e' | _ => false
      | .struct fs => isVs (isV T n) fs.toList 0 e
      | _ => false
section
variable {P : Program} {T : Ty} {Q : Nat → Bool} {Hh : Type} {enc : TypeId × Value → Hh} {W : World} {held : Bool}
/-- What the cells of such a value are. -/
def Opens (W : World) : VT → List Value → Prop
  | .flat e, cs => ∃ y : e.T, cs = (e.enc y).map toV ∧ e.Ok y
  | .sl e, cs => ∃ (v : Value) (l : List e.T), cs = [v] ∧ (∀ y ∈ l, e.Ok y) ∧ l.length ≤ 9223372036854775807 ∧ ((v = .slice none 0 0 ∧ l = []) ∨ ∃ (a : Addr) (len cap : Nat), v = .slice (some a) len cap ∧ len ≤ cap ∧ l.length = cap ∧ ∀ i, i < cap * e.w → W.cell? (a.add i) = ((l.flatMap e.enc).map toV)[i]?)
  | .pr a b, cs => ∃ c1 c2 : List Value, cs = c1 ++ c2 ∧ Opens W a c1 ∧ Opens W b c2
theorem Opens.len : ∀ {e : VT} {cs : List Value}, Opens W e cs → cs.length = e.w
  | .flat e, cs, h => by obtain ⟨y, rfl, _⟩ := h; simp [VT.w, e.enc_len]
  | .sl e, cs, h => by obtain ⟨v, l, rfl, _⟩ := h; rfl
  | .pr a b, cs, h => by obtain ⟨c1, c2, rfl, h1, h2⟩ := h; rw [List.length_append, h1.len, h2.len]; rfl
theorem isVs_ok {g : Nat → VT → Bool} {cs : List Value} {rd : Field → Prop} (hg : ∀ f e, rd f → g f.type e = true → Opens W e ((cs.drop f.offset).take (P.cellsOf f.type))) :
    ∀ {l : List Field} {off : Nat} {e : VT}, isVs g l off e = true → (∀ f ∈ l, rd f) → Opens W e ((cs.drop off).take e.w)
  | [], off, e, h, _ => by simp [isVs] at h
  | [f], off, e, h, hr => by
    simp only [isVs, Bool.and_eq_true, beq_iff_eq] at h
    obtain ⟨rfl, h⟩ := h
    have h1 := hg f e (hr f (by simp)) h
    rw [take_same rfl h1.len]; exact h1
  | f :: f2 :: r, off, e, h, hr => by
    cases e with
    | pr a b =>
      simp only [isVs, Bool.and_eq_true, beq_iff_eq] at h
      obtain ⟨⟨rfl, h1⟩, h2⟩ := h
      have g1 := hg f a (hr f (by simp)) h1
      have k1 := isVs_ok hg h2 (fun f hf => hr f (List.mem_cons_of_mem _ hf))
      refine ⟨(cs.drop f.offset).take a.w, (cs.drop (f.offset + a.w)).take b.w, ?_, by rw [take_same rfl g1.len]; exact g1, k1⟩
      rw [← List.drop_drop]
      simp only [VT.w]
      rw [List.take_add]
    | _ => simp [isVs] at h
theorem isV_ok (hT : TabOk P T Q) : ∀ {n t : Nat} {e : VT} {fuel : Nat} {cs : List Value} {x : DataW Hh × List MemPlace}, isV T n t e = true → DataW.trod enc P W 0 (fun _ => true) held fuel t cs = some x → Opens W e cs
  | 0, t, e, fuel, cs, x, h, _ => by simp [isV] at h
  | n + 1, t, e, fuel, cs, x, h, hx => by
    have hs : ∀ (e : VT) (d : TyD), T t = some d → (d.size == e.w && match d.und with
      | .slice el => match e with | .sl e' => isE T n el e' | _ => false
      | .struct fs => isVs (isV T n) fs.toList 0 e
      | _ => false) = true → Opens W e cs := fun e d hd h => by
      obtain ⟨hc, hu⟩ := tab_cells hT hd
      simp only [Bool.and_eq_true, beq_iff_eq] at h
      obtain ⟨hsz, h⟩ := h
      split at h
      · rename_i el he
        rw [he] at hu
        split at h
        · rename_i e'
          obtain ⟨v, rfl⟩ : ∃ v, cs = [v] := by
            rcases Go.Deep.open_slice hu hx with ⟨h1, _⟩ | ⟨a, len, cap, m, n', D, Pl, h1, _⟩
            · exact ⟨_, h1⟩
            · exact ⟨_, h1⟩
          obtain ⟨l, q1, q2, q3⟩ := slice_open hT hu h hx
          exact ⟨v, l, rfl, q1, q2, q3⟩
        · simp at h
      · rename_i fs he
        rw [he] at hu
        obtain ⟨xs, m, _, _, hlen, hxl, hf⟩ := DataW.trod_struct hu hx
        have h1 := isVs_ok (W := W) (rd := fun f : Field => ∃ i : Nat, fs[i]? = some f) (fun f e' ⟨i, hi⟩ he' => by
          have hi' : i < xs.length := by rw [hxl]; exact (Array.getElem?_eq_some_iff.1 hi).1
          have := hf i f hi
          rw [List.getElem?_eq_getElem hi'] at this
          exact isV_ok hT he' this) h (fun f hf => by
          obtain ⟨i, hi⟩ := List.getElem?_of_mem hf
          exact ⟨i, by rwa [Array.getElem?_toList] at hi⟩)
        rw [List.drop_zero, List.take_of_length_le (by omega)] at h1
        exact h1
      · simp at h
    cases e with
    | flat e => exact isE_ok hT h hx
    | sl e =>
      simp only [isV] at h
      split at h
      · simp at h
      · rename_i d hd; exact hs _ d hd h
    | pr a b =>
      simp only [isV] at h
      split at h
      · simp at h
      · rename_i d hd; exact hs _ d hd h
variable {ρ : Nm} {S : List SB} {H : Heap} {ι : Ren} {as : List SV} {raw vs : List Value}
/-- Plain cells. -/
theorem Ent.cells (h : Ent W ρ S H ι as raw vs) {xs : List SV} (hs : xs.all flatS = true) : Ent W ρ S H ι (as ++ xs) (raw ++ xs.map toV) (vs ++ xs.map toV) := by
  have hl : LDR ρ xs (xs.map toV) := by
    refine ⟨by simp, fun i v v' h1 h2 => ?_⟩
    rw [List.getElem?_map, h1] at h2
    simp at h2; subst h2
    exact toV_rel (List.all_eq_true.1 hs v (List.mem_of_getElem? h1)) ρ
  have hf := hl.flat hs
  exact ⟨h.den, h.dom, h.args.append hl, h.rel, h.vals.append (LRel.flat fun v hv => List.all_eq_true.1 hf v hv), h.ro, h.len⟩
theorem LDR.tail {ρ : Nm} {as bs : List SV} {ra rb : List Value} (hl : as.length = ra.length) (h : LDR ρ (as ++ bs) (ra ++ rb)) : LDR ρ as ra ∧ LDR ρ bs rb := by
  obtain ⟨h1, h2⟩ := h
  refine ⟨⟨hl, fun i v v' e1 e2 => h2 i v v' ?_ ?_⟩, ⟨by simp at h1; omega, fun i v v' e1 e2 => h2 (as.length + i) v v' ?_ ?_⟩⟩
  · rw [List.getElem?_append_left (List.getElem?_eq_some_iff.1 e1).1]; exact e1
  · rw [List.getElem?_append_left (List.getElem?_eq_some_iff.1 e2).1]; exact e2
  · rw [List.getElem?_append_right (by omega), Nat.add_sub_cancel_left]; exact e1
  · rw [hl, List.getElem?_append_right (by omega), Nat.add_sub_cancel_left]; exact e2
theorem LRel.tail {ι : Ren} {as bs ra rb : List Value} (hl : as.length = ra.length) (h : LRel ι (as ++ bs) (ra ++ rb)) : LRel ι as ra ∧ LRel ι bs rb := by
  obtain ⟨h1, h2⟩ := h
  refine ⟨⟨hl, fun i v v' e1 e2 => h2 i v v' ?_ ?_⟩, ⟨by simp at h1; omega, fun i v v' e1 e2 => h2 (as.length + i) v v' ?_ ?_⟩⟩
  · rw [List.getElem?_append_left (List.getElem?_eq_some_iff.1 e1).1]; exact e1
  · rw [List.getElem?_append_left (List.getElem?_eq_some_iff.1 e2).1]; exact e2
  · rw [List.getElem?_append_right (by omega), Nat.add_sub_cancel_left]; exact e1
  · rw [hl, List.getElem?_append_right (by omega), Nat.add_sub_cancel_left]; exact e2
/-- Cells put together to a struct: m arguments stay as they are. -/
theorem Ent.pack (h : Ent W ρ S H ι as raw vs) (m : Nat) : Ent W ρ S H ι (as.take m ++ [.agg (as.drop m)]) (raw.take m ++ [.agg ⟨raw.drop m⟩]) (vs.take m ++ [.agg ⟨vs.drop m⟩]) := by
  have l1 := h.args.1
  have l2 := h.vals.1
  have ha := h.args
  rw [← List.take_append_drop m as, ← List.take_append_drop m raw] at ha
  have hv := h.vals
  rw [← List.take_append_drop m raw, ← List.take_append_drop m vs] at hv
  obtain ⟨a1, a2⟩ := LDR.tail (by simp; omega) ha
  obtain ⟨v1, v2⟩ := LRel.tail (by simp; omega) hv
  exact ⟨h.den, h.dom, a1.append (.cons (.agg _ _ a2.1 a2.2) (.nil ρ)), h.rel, v1.append (.cons (.agg _ _ v2.1 v2.2) (.nil ι)), h.ro, h.len⟩
end
end Go.Proofs.Ytbmejhabgoimeaa.Eng
