/- A text of this claim (S6): lemmas for the proof, no conditions of their own. -/
import Derived.Test.YtabmmdfhhpajgaaS5
set_option linter.unusedVariables false
set_option linter.unusedSimpArgs false
namespace Go.Proofs.Ytabmmdfhhpajgaa.Eng
open Go Go.RowKit
section
variable {P : Program} {T : Ty} {Q : Nat → Bool} {ρ ρ' : Nm} {S S' : List SB} {H H' : Heap} {t : List SV} {t' : List Value} {B k : Nat} {o : Oper}

theorem opS_sound (hT : TabOk P T Q) (hD : Den ρ S H) (hd : Dom ρ S H) (ht : TSD ρ t t') (hB : ∀ b id w, k ≤ b → ρ b = some (id, w) → B ≤ id) {K : SV → List SB → Prop} (h : opS T Q k t S o.op K) : Does P B t' H o ρ S K := by
  obtain ⟨dst, op, ty0, pos, after, guard⟩ := o
  simp only at h
  cases op <;> simp only [opS] at h <;> first | exact h.elim | skip
  case move x =>
    obtain ⟨v, v', h1, h2, h3⟩ := evK_ok ht h
    exact does_same hD hd h1 (by simp only [opA, evL_ev h2]; rfl) h3
  case assign x =>
    obtain ⟨v, v', h1, h2, h3⟩ := evK_ok ht h
    exact does_same hD hd h1 (by simp only [opA, evL_ev h2]; rfl) h3
  case pick c a b =>
    obtain ⟨v, v', h1, h2, h3⟩ := evK_ok ht h
    split at h1
    · rename_i q
      cases h3
      cases q with
      | true =>
        obtain ⟨u, u', g1, g2, g3⟩ := evK_ok ht (h1.t rfl)
        exact does_same hD hd g1 (by simp only [opA, h2, evL_ev g2]; rfl) g3
      | false =>
        obtain ⟨u, u', g1, g2, g3⟩ := evK_ok ht (h1.f rfl)
        exact does_same hD hd g1 (by simp only [opA, h2, evL_ev g2]; rfl) g3
    · exact h1.elim
  case alloc ty =>
    split at h
    · rename_i d hty
      split at h
      · rename_i cs hcs
        obtain ⟨ρ', S', w, h1, h2, h3⟩ := newS_ok (fl' := d.fl) hT hD hd (ofVs_ok hcs).1 rfl h
        exact ⟨_, _, S', _, ρ', h1, by simp only [opA, hT.1 _ _ hty]; rfl, ptr0 h2, h3⟩
      · exact h.elim
    · exact h.elim
  case box ty x =>
    split at h
    · rename_i d hty
      obtain ⟨v, v', h1, h2, h3⟩ := evK_ok ht h
      have hc := cells_dr h3
      split at h1
      · rename_i e l
        split at h1
        · rename_i hdf
          obtain ⟨ρ', S', g1, g2, g3⟩ := push_ok (x := .arr e l 0 true) (w := e.w) (k := ⟨cellsL v', 0, true, d.fl && (cellsL v').all flatV⟩) hD hd (fun ρ' hm => ⟨rfl, rfl, fun _ => rfl, by rw [hdf, hc.flat (flat_all l)]; rfl, hc.mono hm⟩) h1
          exact ⟨_, _, S', _, ρ', g1, by simp only [opA, hT.1 _ _ hty, h2]; rfl, ptr0 g2, g3⟩
        · exact h1.elim
      split at h1
      · rename_i hfl
        obtain ⟨ρ', S', w, g1, g2, g3⟩ := newS_ok (fl' := d.fl && (cellsL v').all flatV) hT hD hd hc (by
          cases hdf : d.fl with
          | false => rfl
          | true =>
            rw [hdf] at hfl
            simp only [Bool.not_true, Bool.false_or] at hfl
            rw [hc.flat hfl]; rfl) h1
        exact ⟨_, _, S', _, ρ', g1, by simp only [opA, hT.1 _ _ hty, h2]; rfl, ptr0 g2, g3⟩
      · exact h1.elim
    · exact h.elim
  case build ty parts =>
    split at h
    · rename_i d hty
      obtain ⟨l, l', h1, h2, h3⟩ := evPK_ok ht h
      obtain ⟨v, v', g1, g2, g3⟩ := buildS_ok hT hty h3 h1
      exact does_same hD hd g1 (by simp only [opA, h2, g2]; rfl) g3
    · exact h.elim
  case buildSlice ty len parts =>
    obtain ⟨e, x, de, el, h, he, hw, hz, hdf⟩ := elemK_ok hT h
    obtain ⟨l, l', h, h2, h3⟩ := evPK_ok ht h
    split at h
    · rename_i hle
      split at h
      · rename_i zs hzs
        split at h
        · rename_i cs hcs
          split at h
          · rename_i es hes
            obtain ⟨r', g1, g2⟩ := fillS_ok (place' := fun i => some (i * de.size, de.size)) (fun i => rfl) (zeros_ldr (ofVs_ok (ρ := ρ) hzs).1 len) h3 hcs
            obtain ⟨f1, f2⟩ := decN_ok hes
            obtain ⟨ρ', S', k1, k2, k3⟩ := push_ok (x := .arr e es de.size true) (w := e.w) (k := ⟨r', de.size, true, de.fl && r'.all flatV⟩) hD hd (fun ρ' hm => ⟨rfl, rfl, fun _ => rfl, by rw [hdf, g2.flat (by rw [← f1]; exact flat_all _)]; rfl, by rw [f1]; exact g2.mono hm⟩) h
            refine ⟨_, .slice (some ⟨H.length, 0, none⟩) len (len + 1), S', _, ρ', k1, ?_, sl0 k2, k3⟩
            simp only [opA, h2, buildSliceA, he]
            rw [if_pos (Nat.le_of_ble_eq_true hle), g1]
          · exact h.elim
        · exact h.elim
      · exact h.elim
    · exact h.elim
  case load ty x =>
    split at h
    · rename_i d hty
      obtain ⟨v, v', h1, h2, h3⟩ := evK_ok ht h
      obtain ⟨u, u', g1, g2, g3⟩ := loadS_ok hD (hT.1 _ _ hty) h3 h1
      exact does_same hD hd g1 (by simp only [opA, h2, g2]; rfl) g3
    · exact h.elim
  case store ty x y =>
    split at h
    · rename_i d hty
      obtain ⟨v, v', h1, h2, h3⟩ := evK_ok ht h
      obtain ⟨u, u', g1, g2, g3⟩ := evK_ok ht h1
      obtain ⟨S', H', k1, k2, k3⟩ := storeS_ok hD hd hB (hT.1 _ _ hty) h3 g3 g1
      exact ⟨_, _, S', H', ρ, k1, by simp only [opA, h2, g2, k2]; rfl, undef_dr ρ, k3⟩
    · exact h.elim
  case nilCheck x =>
    obtain ⟨v, v', h1, h2, h3⟩ := evK_ok ht h
    split at h1
    · cases h3; exact does_same hD hd h1 (by simp only [opA, h2]; rfl) (by constructor; assumption)
    · cases h3; exact does_same hD hd h1 (by simp only [opA, h2]; rfl) (by constructor <;> assumption)
    · exact h1.elim
  case binOp op ty x y yt =>
    obtain ⟨v, v', h1, h2, h3⟩ := evK_ok ht h
    obtain ⟨u, u', g1, g2, g3⟩ := evK_ok ht h1
    obtain ⟨s, w, k1, k2, k3⟩ := binS_ok hT h3 g3 g1
    exact does_same hD hd k1 (by simp only [opA, h2, g2, k2]; rfl) k3
  case unOp op ty x =>
    obtain ⟨v, v', h1, h2, h3⟩ := evK_ok ht h
    split at h1
    · split at h1
      · cases h3; exact does_same hD hd h1 (by simp only [opA, h2, unA]; rfl) (.int _ _)
      · exact h1.elim
    · split at h1
      · cases h3; exact does_same hD hd h1 (by simp only [opA, h2, unA]; rfl) (.bool _)
      · exact h1.elim
    · exact h1.elim
  case convert s d x =>
    obtain ⟨v, v', h1, h2, h3⟩ := evK_ok ht h
    obtain ⟨u, u', g1, g2, g3⟩ := convS_ok hT h3 h1
    exact does_same hD hd g1 (by simp only [opA, h2, g2]; rfl) g3
  case makeFunc f first caps =>
    split at h
    · split at h
      · rename_i hf
        obtain ⟨l, l', h1, h2, h3⟩ := evsK_ok ht h
        have hs : first.size = 0 := by rw [← Array.length_toList, hf]; rfl
        exact does_same hD hd h1 (by simp only [opA, hs, if_true, h2]; rfl) (.fn _ _ _ h3.1 h3.2)
      · exact h.elim
    · exact h.elim
  case makeSlice ty l c =>
    obtain ⟨e, x, de, el, h, he, hw, hz, hdf⟩ := elemK_ok hT h
    obtain ⟨v, v', h1, h2, h3⟩ := evK_ok ht h
    obtain ⟨u, u', g1, g2, g3⟩ := evK_ok ht h1
    split at g1
    · rename_i k0 n
      split at g1
      · rename_i k1 m
        cases h3; cases g3
        obtain ⟨hv, g1⟩ := g1
        obtain ⟨ρ', S', f1, f2, f3⟩ := push_ok (x := .arr e (List.replicate n.toNat x) de.size true) (w := e.w) (k := ⟨zerosL de.zero n.toNat, de.size, true, de.fl⟩) hD hd (fun ρ' hm => ⟨rfl, rfl, fun _ => rfl, hdf, by rw [rep_flat]; exact zeros_ldr (hz ρ') _⟩) g1
        refine ⟨_, .slice (some ⟨H.length, 0, none⟩) n.toNat (n.toNat + 1), S', _, ρ', f1, ?_, sl0 f2, f3⟩
        simp only [opA, h2, g2, makeSliceA, he]
        rw [if_pos hv.h]
      · exact g1.elim
    · exact g1.elim
  case slice ty x lo hi mx =>
    obtain ⟨v, v', h1, h2, h3⟩ := evK_ok ht h
    obtain ⟨l1, h1, e1⟩ := optK_ok ht h1
    obtain ⟨l2, h1, e2⟩ := optK_ok ht h1
    obtain ⟨l3, h1, e3⟩ := optK_ok ht h1
    obtain ⟨u, u', g1, g2, g3⟩ := sliceS_ok hT hD h3 h1
    exact does_same hD hd g1 (by simp only [opA, h2, e1, e2, e3, g2]; rfl) g3
  case fieldAddr ty x f =>
    obtain ⟨v, v', h1, h2, h3⟩ := evK_ok ht h
    split at h1
    · rename_i b i o
      cases h3 with | ptr _ _ _ id w hb =>
      split at h1
      · rename_i d hty
        split at h1
        · rename_i fs hu
          split at h1
          · rename_i fd hfd
            split at h1
            · rename_i df hdf
              split at h1
              · exact h1.elim
              · rename_i hs
                rw [getT_eq, Array.getElem?_toList] at hfd
                have hs' : ¬ df.size = 0 := by intro e; rw [e] at hs; simp at hs
                refine does_same hD hd h1 (v' := .pointer (some ⟨id, i * w + o + fd.offset, none⟩)) ?_ ?_
                · simp only [opA, h2, fieldAtA, hT.1 _ _ hty, hu, hfd, hT.1 _ _ hdf]
                  rw [if_neg hs']; rfl
                · rw [Nat.add_assoc]; exact .ptr b i _ id w hb
            · exact h1.elim
          · exact h1.elim
        · exact h1.elim
      · exact h1.elim
    · exact h1.elim
  case field ty x f =>
    obtain ⟨v, v', h1, h2, h3⟩ := evK_ok ht h
    split at h1
    · rename_i xs
      cases h3 with | agg _ ys hl hr =>
      split at h1
      · rename_i d hty
        split at h1
        · rename_i fs hu
          split at h1
          · rename_i fd hfd
            split at h1
            · rename_i df hdf
              split at h1
              · rename_i hle
                have hle := Nat.le_of_ble_eq_true hle
                rw [getT_eq, Array.getElem?_toList] at hfd
                have hlr : LDR ρ xs ys := ⟨hl, hr⟩
                obtain ⟨u, u', g1, g2, g3⟩ := outS_ok h1 ((hlr.drop fd.offset).take (cnt df))
                refine does_same hD hd g1 ?_ g3
                simp only [opA, h2, fieldA, hT.1 _ _ hty, hu, hfd, partL, hT.1 _ _ hdf]
                unfold cnt at g2 hle
                by_cases ha : aggD df.und = true
                · simp only [ha, if_true] at g2 hle ⊢
                  rw [if_pos (by rw [← hl]; exact hle), g2]; rfl
                · have ha' : aggD df.und = false := by simpa using ha
                  simp only [ha', Bool.false_eq_true, if_false] at g2 hle ⊢
                  rw [List.getElem?_take, if_pos (by omega), List.getElem?_drop] at g2
                  simp only [Nat.add_zero] at g2
                  rw [g2]; rfl
              · exact h1.elim
            · exact h1.elim
          · exact h1.elim
        · exact h1.elim
      · exact h1.elim
    · exact h1.elim
  case indexAddr ty x i =>
    obtain ⟨v, v', h1, h2, h3⟩ := evK_ok ht h
    obtain ⟨u, u', g1, g2, g3⟩ := evK_ok ht h1
    split at g1
    · rename_i d hty
      split at g1
      · rename_i kk n
        cases g3
        split at g1
        · rename_i el hu
          split at g1
          · rename_i b s len xx
            cases h3 with | sl _ _ _ _ id w hb =>
            split at g1
            · rename_i de hde
              split at g1
              · rename_i e l sz wr hS
                split at g1
                · rename_i hw
                  have hw : e.w = de.size := by simpa using hw
                  obtain ⟨kb, hk, rfl, _⟩ := hD.get hS rfl hb
                  obtain ⟨hv, g1⟩ := g1
                  refine does_same hD hd g1 (v' := .pointer (some ⟨id, s * e.w + n.toNat * de.size, none⟩)) ?_ ?_
                  · simp only [opA, h2, g2, indexAtA, hT.1 _ _ hty, hu, hT.1 _ _ hde]
                    rw [if_pos hv.h]; rfl
                  · rw [← hw, ← Nat.add_mul]; exact .ptr b _ 0 id e.w hb
                · exact g1.elim
              · exact g1.elim
            · exact g1.elim
          · exact g1.elim
        · rename_i len el hu
          split at g1
          · rename_i b j
            cases h3 with | ptr _ _ _ id w hb =>
            split at g1
            · rename_i de hde
              split at g1
              · rename_i e l sz wr hS
                split at g1
                · rename_i hw
                  have hw : e.w = de.size := by simpa using hw
                  obtain ⟨kb, hk, rfl, _⟩ := hD.get hS rfl hb
                  obtain ⟨hv, g1⟩ := g1
                  refine does_same hD hd g1 (v' := .pointer (some ⟨id, j * e.w + 0 + n.toNat * de.size, none⟩)) ?_ ?_
                  · simp only [opA, h2, g2, indexAtA, hT.1 _ _ hty, hu, hT.1 _ _ hde]
                    rw [if_pos hv.h]; rfl
                  · rw [← hw, Nat.add_zero, ← Nat.add_mul]; exact .ptr b _ 0 id e.w hb
                · exact g1.elim
              · exact g1.elim
            · exact g1.elim
          · exact g1.elim
        · exact g1.elim
      · exact g1.elim
    · exact g1.elim
  case index ty x i =>
    obtain ⟨v, v', h1, h2, h3⟩ := evK_ok ht h
    obtain ⟨u, u', g1, g2, g3⟩ := evK_ok ht h1
    split at g1
    · rename_i d hty
      split at g1
      · rename_i kk n
        cases g3
        split at g1
        · rename_i hu
          split at g1
          · rename_i s
            cases h3
            obtain ⟨hv, g1⟩ := g1
            obtain ⟨c, hc, g1⟩ := atL_iff.1 g1
            refine does_same hD hd g1 (v' := .int .u8 (c.toNat : Int)) ?_ (.int _ _)
            simp only [opA, h2, g2, indexA, hT.1 _ _ hty, hu]
            rw [if_pos hv.h, hc]; rfl
          · exact g1.elim
        · rename_i len el hu
          split at g1
          · rename_i e l
            cases h3
            split at g1
            · rename_i de hde
              split at g1
              · rename_i hw
                have hw : e.w = de.size := by simpa using hw
                obtain ⟨hv, g1⟩ := g1
                obtain ⟨a, ha, g1⟩ := atL_iff.1 g1
                obtain ⟨X, Y, e1, e2, _⟩ := flat_at ha
                have hen : LDR ρ (e.enc a) ((e.enc a).map toV) := map_toV (e.enc_flat a) ρ
                obtain ⟨u, u', f1, f2, f3⟩ := outS_ok g1 hen
                refine does_same hD hd f1 (v' := u') ?_ f3
                have hlen : (X ++ e.enc a ++ Y).length = X.length + e.w + Y.length := by simp [e.enc_len]; omega
                simp only [opA, h2, g2, indexA, hT.1 _ _ hty, hu, hT.1 _ _ hde, partL]
                rw [if_pos hv.h]
                have hseg : ((X ++ e.enc a ++ Y).drop (n.toNat * de.size)).take de.size = e.enc a := by
                  rw [← hw, ← e1, List.append_assoc, List.drop_left, ← e.enc_len a, List.take_left]
                by_cases hag : aggD de.und = true
                · rw [if_pos hag] at f2 ⊢
                  have hle : n.toNat * de.size + de.size ≤ ((X ++ e.enc a ++ Y).map toV).length := by
                    rw [List.length_map, hlen, e1, hw]; omega
                  rw [e2]
                  simp only [hle, if_true, ← List.map_drop, ← List.map_take, hseg]
                  rw [f2]; rfl
                · rw [if_neg hag] at f2 ⊢
                  have h0 : (((X ++ e.enc a ++ Y).map toV).drop (n.toNat * de.size))[0]? = some u' := by
                    rw [← List.map_drop]
                    have := congrArg (fun z : List SV => (z.map toV)[0]?) hseg
                    simp only [List.map_take] at this
                    rw [f2, List.getElem?_take] at this
                    split at this
                    · exact this
                    · simp at this
                  rw [List.getElem?_drop] at h0
                  simp only [Nat.add_zero] at h0
                  rw [e2, h0]; rfl
              · exact g1.elim
            · exact g1.elim
          · rename_i cs
            cases h3 with | agg _ ys hl hr =>
            split at g1
            · rename_i de hde
              split at g1
              · exact g1.elim
              · rename_i ha
                split at g1
                · rename_i hs
                  have hs : de.size = 1 := by simpa using hs
                  obtain ⟨hv, g1⟩ := g1
                  obtain ⟨c, hc, g1⟩ := atL_iff.1 g1
                  have hlr : LDR ρ cs ys := ⟨hl, hr⟩
                  obtain ⟨c', hc', hr'⟩ := hlr.get hc
                  refine does_same hD hd g1 (v' := c') ?_ hr'
                  simp only [opA, h2, g2, indexA, hT.1 _ _ hty, hu, hT.1 _ _ hde, partL, ha]
                  rw [if_pos hv.h, hs, Nat.mul_one]
                  simp [hc']
                · exact g1.elim
            · exact g1.elim
          · exact g1.elim
        · exact g1.elim
      · exact g1.elim
    · exact g1.elim
  case extract x i =>
    obtain ⟨v, v', h1, h2, h3⟩ := evK_ok ht h
    split at h1
    · rename_i vs
      cases h3 with | tup _ ys hl hr =>
      split at h1
      · rename_i u hu
        rw [getT_eq] at hu
        have hlr : LDR ρ vs ys := ⟨hl, hr⟩
        obtain ⟨u', hu', hr'⟩ := hlr.get hu
        exact does_same hD hd h1 (by simp only [opA, h2]; simp [hu']) hr'
      · exact h1.elim
    · exact h1.elim
  case call c =>
    obtain ⟨callee, args, tys⟩ := c
    simp only at h
    split at h
    · rename_i b hb0
      obtain ⟨l, l', h, h2, h3⟩ := evsK_ok ht h
      split at h
      · -- len
        split at h
        · rename_i ty r1 hty0
          split at h
          · rename_i x r2
            split at h
            · rename_i d hty
              obtain ⟨x', r', rfl, hx, hr⟩ := h3.inv_cons
              split at h
              · rename_i hu
                split at h
                · cases hx
                  refine does_same hD hd h ?_ (.int _ _)
                  simp only [opA, h2, hty0, builtinA, lenA, hT.1 _ _ hty, hu]; rfl
                · exact h.elim
              · rename_i n el hu
                refine does_same hD hd h ?_ (.int _ _)
                simp only [opA, h2, hty0, builtinA, lenA, hT.1 _ _ hty, hu]; rfl
              · rename_i el hu
                split at h
                · cases hx
                  refine does_same hD hd h ?_ (.int _ _)
                  simp only [opA, h2, hty0, builtinA, lenA, hT.1 _ _ hty, hu]; rfl
                · cases hx with
                  | optN _ _ _ id w hb hn hx0 =>
                    subst hn
                    refine does_same hD hd h ?_ (.int _ _)
                    simp only [opA, h2, hty0, builtinA, lenA, hT.1 _ _ hty, hu]; rfl
                  | optS _ _ _ id w hb =>
                    refine does_same hD hd h ?_ (.int _ _)
                    simp only [opA, h2, hty0, builtinA, lenA, hT.1 _ _ hty, hu]; rfl
                · cases hx
                  refine does_same hD hd h ?_ (.int _ _)
                  simp only [opA, h2, hty0, builtinA, lenA, hT.1 _ _ hty, hu]; rfl
                · exact h.elim
              · exact h.elim
            · exact h.elim
          · exact h.elim
        · exact h.elim
      · -- max
        split at h
        · rename_i kk x r
          obtain ⟨x', r', rfl, hx, hr⟩ := h3.inv_cons
          cases hx
          obtain ⟨v, v', g1, g2, g3⟩ := maxS_ok hr h
          refine does_same hD hd g1 ?_ g3
          simp only [opA, h2, builtinA, g2]; rfl
        · exact h.elim
      · split at h
        · rename_i kk x r
          obtain ⟨x', r', rfl, hx, hr⟩ := h3.inv_cons
          cases hx
          obtain ⟨v, v', g1, g2, g3⟩ := minS_ok hr h
          refine does_same hD hd g1 ?_ g3
          simp only [opA, h2, builtinA, g2]; rfl
        · exact h.elim
      · -- append
        split at h
        · rename_i t1 t2 hty0
          split at h
          · rename_i s x
            obtain ⟨s', r', rfl, hs, hr⟩ := h3.inv_cons
            obtain ⟨x', r'', rfl, hx, hr2⟩ := hr.inv_cons
            have := hr2.inv_nil
            subst this
            obtain ⟨u, u', S', H', ρ', g1, g2, g3, g4⟩ := appendS_ok hT hD hd hs hx h
            exact ⟨u, u', S', H', ρ', g1, by simp only [opA, h2, hty0, builtinA]; exact g2, g3, g4⟩
          · exact h.elim
        · exact h.elim
      · exact h.elim
    · exact h.elim
end
end Go.Proofs.Ytabmmdfhhpajgaa.Eng
