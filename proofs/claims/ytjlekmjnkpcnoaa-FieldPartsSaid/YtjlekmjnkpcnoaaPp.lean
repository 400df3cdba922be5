/-
  FieldParts: for every panel and every depth the law returns true, and its arguments read behind the call as they read before. No condition.
-/
import Derived.Test.YtjlekmjnkpcnoaaFr
namespace Go.Proofs.Ytjlekmjnkpcnoaa
open Go.Proofs Go.Aw Go.RowKit
set_option maxRecDepth 100000
set_option linter.unusedVariables false
set_option linter.unusedSimpArgs false

/-! ### FieldParts -/
theorem law_parts (p : PN) (d : Int) : F4 p d = true := by
  have hs : ∀ (v : Int), (S4_0 p d v = .inl (v + 1) ∧ v < ((F18 p d).1.length : Nat)) ∨ S4_0 p d v = .inr true := by
    intro v
    cases h : decide ((v : Int) < (((F18 p d).1.length : Nat) : Int)) with
    | true => left; exact ⟨by simp [S4_0, parts_eq, h], of_decide_eq_true h⟩
    | false => right; simp only [S4_0, parts_eq, h, cond_false, known_t]
  have hl : ∀ (n : Nat) (v : Int), v ≤ ((F18 p d).1.length : Nat) → (((F18 p d).1.length : Nat) : Int) - v < n → loopF (S4_0 p d) n v = true := by
    intro n
    induction n with
    | zero => intro v hv hn; omega
    | succ n ih =>
      intro v hv hn
      rcases hs v with ⟨h, hlt⟩ | h
      · rw [loopF_inl h]; exact ih _ (by omega) (by omega)
      · exact loopF_inr h
  unfold F4
  rw [parts_eq, bne_self_eq_false, cond_false, bne_self_eq_false, cond_false]
  exact hl _ 0 (by omega) (by omega)

open Go.ChangeShapes Go.WideShapes Go.ChangeAt
theorem fieldParts_len9 {l : List Int} (h : l.length = 9) : ∃ a0 a1 a2 a3 a4 a5 a6 a7 a8, l = [a0, a1, a2, a3, a4, a5, a6, a7, a8] := by
  match l, h with
  | [a0, a1, a2, a3, a4, a5, a6, a7, a8], _ => exact ⟨a0, a1, a2, a3, a4, a5, a6, a7, a8, rfl⟩
set_option maxRecDepth 100000 in
theorem fieldParts_lifted (os : Os) (started : os.Started) (H : Type) (enc : TypeId × Value → H) :
    ReturnsInHanded {} Try.checked os 4 .any (Rows.fieldPartsSpec.pre6 enc Try.prog Try.f4 Rows.fieldPartsRow.domain false) (Rows.fieldPartsSpec.post enc Try.prog Try.f4 false true false false) := by
  refine returnsInHanded_of_change (C := Try.checked) own started (by kernel_rfl) Try.func4
    (ChangeSpec.witness6 (enc := enc) (C := Try.checked) false ⟨#[], #[.agg #[.int .i64 0, .int .i64 0, .int .i64 0, .int .i64 0, .int .i64 0, .int .i64 0, .int .i64 0, .int .i64 0, .int .i64 0], .int .i64 0], []⟩ 8 (by kernel_rfl) (by kernel_rfl) (by kernel_rfl) (by kernel_rfl)) ?_
  intro W base args ds gs before hval0 hW hcnd _
  have hval : ∀ (j : Nat) t v, Try.f4.params[j]? = some t → args[j]? = some v → Value.okWide Try.prog W .any base t v := hval0
  have hW' := hW
  obtain ⟨p, q, hA0, hV, rfl, hfz, hnd⟩ := hW
  have hA : DataW.TrodAll enc Try.prog W 0 (fun _ => true) true Try.f4.params.toList args.toList ds p := hA0
  rw [Try.params4] at hA hval
  obtain ⟨v0, vs0, d0, ds0, p0, q0, hargs, rfl, rfl, h0, r0⟩ := trodAll_cons hA
  obtain ⟨v1, vs1, d1, ds1, p1, q1, rfl, rfl, rfl, h1, r1⟩ := trodAll_cons r0
  obtain ⟨rfl, rfl, rfl⟩ := trodAll_nil r1
  obtain rfl : args = #[v0, v1] := by cases args; simp_all
  obtain ⟨rfl, rfl⟩ := trodVars_none hV
  obtain ⟨rfl, ns0, rfl, l0⟩ := open_flat Try.underlying25 (by kernel_rfl) (hval 0 25 v0 rfl rfl) h0
  rw [show Try.prog.cellsOf 25 = 9 from by kernel_rfl] at l0
  obtain ⟨x0_0, x0_1, x0_2, x0_3, x0_4, x0_5, x0_6, x0_7, x0_8, rfl⟩ := fieldParts_len9 l0
  obtain ⟨x1, rfl, rfl, rfl, w1⟩ := open_int Try.underlying3 (hval 1 3 v1 rfl rfl) h1
  clear hA0 hval0 hval hA
  simp only [List.append_nil] at hW'
  have hC : Con Try.prog 4 [.a ([x0_0, x0_1, x0_2, x0_3, x0_4, x0_5, x0_6, x0_7, x0_8].map iv), iv x1] [] (.v (.bool true)) [] := by
    have h := C4 ((x0_0, x0_1, x0_2), (x0_3, x0_4, x0_5), (x0_6, x0_7, x0_8)) x1
    rw [law_parts] at h
    exact h
  refine (law_calls (vs := [.agg ([x0_0, x0_1, x0_2, x0_3, x0_4, x0_5, x0_6, x0_7, x0_8].map (Value.int .i64)).toArray, .int .i64 x1]) hC ⟨rel_agg [x0_0, x0_1, x0_2, x0_3, x0_4, x0_5, x0_6, x0_7, x0_8], rfl, trivial⟩ W).mono fun e W' ⟨he, hb⟩ => ?_
  subst he
  exact ⟨_, rfl, post_below (before := []) hW' hb (fun _ _ _ => (all_mk (shut_bool Try.underlying4 _) trodAll_mk0)) (all_mk (Below.trod laidOut (by kernel_rfl) (of_decide_eq_true (by kernel_rfl)) h0 hb (fun x hx => by cases hx)) (all_mk (Below.trod laidOut (by kernel_rfl) (of_decide_eq_true (by kernel_rfl)) h1 hb (fun x hx => by cases hx)) trodAll_mk0)) rfl⟩
theorem fieldParts_over : Rows.fieldPartsRow.holds Try.pinned (OpenSpec.ofChange Rows.fieldPartsSpec) :=
  OpenClaim.holds_of_wide 4 Try.f4 rfl rfl rfl rfl rfl rfl rfl ⟨rfl, rfl, rfl, rfl, rfl⟩ rfl rfl rfl rfl rfl (by kernel_rfl) Try.func4 (by kernel_rfl)
    (of_decide_eq_true (by kernel_rfl)) (by unfold Func.isWrapper; first | (rw [if_pos (by decide +kernel)]; kernel_rfl) | (rw [if_neg (by decide +kernel)]; exact ⟨rfl, rfl⟩))
    (fun os started H enc _ => fieldParts_lifted os started H enc)
/-- THE STATEMENT -/
theorem fieldParts_proved : Rows.FieldPartsSaid :=
  fieldParts_over

end Go.Proofs.Ytjlekmjnkpcnoaa
