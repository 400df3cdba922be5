/-
  A symbolic executor for the model's code, part G: the theorem over all operations that call no function. Generic in the program. No premise.
-/
import Derived.Test.YtopbnnmkdildgaaAwF
namespace Go.Aw
open Go.RowKit
set_option linter.unusedVariables false
set_option linter.unusedSimpArgs false

section
variable {P : Program} {T : Nat → Option TI} {w0 : Cx} {N : Nat} {D : List Deferred} {ρ : Env} {s : FS} {a : Act} {W : World}

/-! ### Equality of values -/
def mkVal (agg : Bool) (vs : List Value) : Value := if agg = true then .agg vs.toArray else vs.headD undef

theorem rels1 {ρ : Env} {x : SV} {vs : List Value} (h : Rels ρ [x] vs) : ∃ y, vs = [y] ∧ Rel ρ x y := by
  match vs, h with
  | [y], h => simp only [Rels] at h; exact ⟨y, rfl, h.1⟩
  | [], h => simp [Rels] at h
  | _ :: _ :: _, h => simp [Rels] at h

theorem run_part {t : Nat} {n : TypeInfo} {d : TypeDesc} (h1 : P.info? t = some n) (h2 : P.underlying t = some d) {vs : List Value} {off : Nat} (hl : ((vs.drop off).take n.size).length = n.size) (h0 : isAggD d = false → n.size ≠ 0) :
    (part t vs.toArray off).run P W = .ok (mkVal (isAggD d) ((vs.drop off).take n.size)) W := by
  simp only [part, Sem.run_bind, run_isAgg' h2, Result.andThen_ok]
  cases hd : isAggD d with
  | true =>
    simp only [if_true, Sem.run_bind, run_sizeOf' h1, Result.andThen_ok, Sem.run_pure, mkVal]
    congr 2
    apply Array.ext'
    simp [List.extract_eq_take_drop]
  | false =>
    have := h0 hd
    simp only [List.length_take, List.length_drop] at hl
    have hlt : off < vs.length := by omega
    have e1 : (vs.toArray)[off]? = some vs[off] := by simp [hlt]
    simp only [Bool.false_eq_true, if_false, e1, mkVal]
    have : (vs.drop off).take n.size = vs[off] :: ((vs.drop (off + 1)).take (n.size - 1)) := by
      obtain ⟨m, hn⟩ : ∃ m, n.size = m + 1 := ⟨n.size - 1, by omega⟩
      rw [hn, List.drop_eq_getElem_cons hlt, List.take_succ_cons]; simp
    simp [this]

theorem eqC_ok (hT : TOk P T) : ∀ (d t : Nat) (xs ys : List SV) (vs us : List Value) (r : Bool), eqC T d t xs ys = some r → Rels ρ xs vs → Rels ρ ys us →
    ∀ (i : TI), conv P t = some i → ∀ m, d ≤ m → (Op.equalIn m t (mkVal i.agg vs) (mkVal i.agg us)).run P W = .ok r W
  | 0, t, xs, ys, vs, us, r, h, _, _, _, _, _, _ => by simp [eqC] at h
  | d + 1, t, xs, ys, vs, us, r, h, hx, hy, i, hi, m, hm => by
    obtain ⟨m', rfl⟩ : ∃ m', m = m' + 1 := ⟨m - 1, by omega⟩
    obtain ⟨n, de, z, h1, h2, h3, hie⟩ := conv_spec hi
    simp only [eqC] at h
    split at h
    · cases h
    rename_i i0 hTt
    have hii : i0 = i := by have := (hT t _ hTt).symm.trans hi; simpa using this
    subst hii
    split at h
    · rename_i k hk
      rw [hie] at hk
      simp only at hk
      cases de <;> simp [kindOf] at hk
      subst hk
      split at h
      · rename_i k1 a1 k2 b1
        split at h
        · rename_i hkk
          subst hkk
          simp only [Option.some.injEq] at h
          obtain ⟨y1, rfl, e1⟩ := rels1 hx
          obtain ⟨y2, rfl, e2⟩ := rels1 hy
          simp only [Rel] at e1 e2
          subst e1 e2
          rw [hie]
          simp only [mkVal, isAggD, Bool.false_eq_true, if_false, List.headD_cons]
          rw [run_equalIn_int W m' t _ _ a1 b1 h2, h]
        · cases h
      · cases h
    · rename_i hk
      rw [hie] at hk
      simp only at hk
      cases de <;> simp [kindOf] at hk
      have key : ∀ (p q : Bool), vs = [.bool p] → us = [.bool q] → (p == q) = r → (Op.equalIn (m' + 1) t (mkVal i0.agg vs) (mkVal i0.agg us)).run P W = .ok r W := fun p q e1 e2 e3 => by
        subst e1 e2
        rw [hie]
        simp only [mkVal, isAggD, Bool.false_eq_true, if_false, List.headD_cons]
        rw [run_equalIn_bool' W m' t p q h2, e3]
      split at h <;> first
        | (simp only [Option.some.injEq] at h
           obtain ⟨y1, rfl, e1⟩ := rels1 hx
           obtain ⟨y2, rfl, e2⟩ := rels1 hy
           simp only [Rel] at e1 e2
           subst e1 e2
           exact key _ _ rfl rfl h)
        | cases h
    · rename_i fs hk
      split at h
      · rename_i hok
        rw [hie] at hk hok
        simp only at hk hok
        cases de <;> simp [kindOf] at hk
        rename_i fields
        simp only [Bool.and_eq_true, Bool.not_eq_true'] at hok
        obtain ⟨⟨hok1, hok2⟩, hok3⟩ := hok
        simp only [noBlank, List.all_eq_true] at hok3
        rw [hie]
        simp only [mkVal, isAggD, if_true]
        have hfo : P.fieldsOf t = fields := by simp [Program.fieldsOf, h2]
        rw [run_equalIn_struct W m' t _ _ (by rw [hfo]; exact h2) hok1, hfo]
        -- the fields, one after the other
        have go : ∀ (fl : List Field) (r : Bool), (∀ f ∈ fl, (f.name != "_") = true) →
            (fl.map fun f => (f.offset, f.type, P.cellsOf f.type)).foldr (fun f r => if ((xs.drop f.1).take f.2.2).length = f.2.2 ∧ ((ys.drop f.1).take f.2.2).length = f.2.2 ∧ f.2.2 ≠ 0 then
              match eqC T d f.2.1 ((xs.drop f.1).take f.2.2) ((ys.drop f.1).take f.2.2), r with
              | some x, some y => some (x && y)
              | _, _ => none
              else none) (some true) = some r →
            (Op.eqFields m' vs.toArray us.toArray fl).run P W = .ok r W := by
          intro fl
          induction fl with
          | nil => intro r _ h; simp only [List.map_nil, List.foldr_nil, Option.some.injEq] at h; subst h; simp [Op.eqFields]
          | cons f fl ih =>
            intro r hn h
            simp only [List.map_cons, List.foldr_cons] at h
            have hne : f.name ≠ "_" := by have := hn f (by simp); simpa using this
            split at h
            · rename_i hlens
              obtain ⟨hl1, hl2, hl3⟩ := hlens
              split at h
              · rename_i x y hx1 hy1
                simp only [Option.some.injEq] at h
                have ih' := ih y (fun g hg => hn g (by simp [hg])) hy1
                -- the field's own type
                have hd0 : ∃ i', conv P f.type = some i' := by
                  cases d with
                  | zero => simp [eqC] at hx1
                  | succ d' =>
                    simp only [eqC] at hx1
                    split at hx1
                    · cases hx1
                    · rename_i i' hTf; exact ⟨_, hT _ _ hTf⟩
                obtain ⟨i', hi'⟩ := hd0
                obtain ⟨n', de', z', g1, g2, g3, hie'⟩ := conv_spec hi'
                have hcs : P.cellsOf f.type = n'.size := by simp [Program.cellsOf, g1]
                rw [hcs] at hl1 hl2 hl3 hx1
                have rx : Rels ρ ((xs.drop f.offset).take n'.size) ((vs.drop f.offset).take n'.size) := Rels.take _ (Rels.drop _ hx)
                have ry : Rels ρ ((ys.drop f.offset).take n'.size) ((us.drop f.offset).take n'.size) := Rels.take _ (Rels.drop _ hy)
                have heq := eqC_ok hT d f.type _ _ _ _ x hx1 rx ry i' hi' m' (by omega)
                have px := run_part (P := P) (W := W) g1 g2 (vs := vs) (off := f.offset) (by rw [← rx.length]; exact hl1) (fun _ => hl3)
                have py := run_part (P := P) (W := W) g1 g2 (vs := us) (off := f.offset) (by rw [← ry.length]; exact hl2) (fun _ => hl3)
                rw [hie'] at heq
                simp only at heq
                simp only [Op.eqFields, hne, ne_eq, not_false_eq_true, if_true, Sem.run_bind, px, py, Result.andThen_ok, heq]
                cases x with
                | false => simp at h; subst h; simp
                | true => simp at h; subst h; simp [ih']
              · cases h
            · cases h
        exact go fields.toList r (fun f hf => hok3 f hf) (by rw [hk]; exact h)
      · cases h
    · cases h

end
end Go.Aw
