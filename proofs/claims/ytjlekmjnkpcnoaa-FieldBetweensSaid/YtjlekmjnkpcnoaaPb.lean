/-
  FieldBetweens: for every two panels and every depth the law returns true, and its arguments read behind the call as they read before. No condition.
-/
import Derived.Test.YtjlekmjnkpcnoaaMi
import Derived.ProofKit
namespace Go.Proofs.Ytjlekmjnkpcnoaa
open Go.Proofs Go.Aw Go.RowKit
set_option maxRecDepth 100000
set_option linter.unusedVariables false
set_option linter.unusedSimpArgs false

open Go.ChangeShapes Go.WideShapes Go.ChangeAt
theorem fieldBetweens_len9 {l : List Int} (h : l.length = 9) : ∃ a0 a1 a2 a3 a4 a5 a6 a7 a8, l = [a0, a1, a2, a3, a4, a5, a6, a7, a8] := by
  match l, h with
  | [a0, a1, a2, a3, a4, a5, a6, a7, a8], _ => exact ⟨a0, a1, a2, a3, a4, a5, a6, a7, a8, rfl⟩
set_option maxRecDepth 100000 in
theorem fieldBetweens_lifted (os : Os) (started : os.Started) (H : Type) (enc : TypeId × Value → H) :
    ReturnsInHanded {} Try.checked os 8 .any (Rows.fieldBetweensSpec.pre6 enc Try.prog Try.f8 Rows.fieldBetweensRow.domain false) (Rows.fieldBetweensSpec.post enc Try.prog Try.f8 false true false false) := by
  refine returnsInHanded_of_change (C := Try.checked) own started (by kernel_rfl) Try.func8
    (ChangeSpec.witness6 (enc := enc) (C := Try.checked) false ⟨#[], #[.agg #[.int .i64 0, .int .i64 0, .int .i64 0, .int .i64 0, .int .i64 0, .int .i64 0, .int .i64 0, .int .i64 0, .int .i64 0], .agg #[.int .i64 0, .int .i64 0, .int .i64 0, .int .i64 0, .int .i64 0, .int .i64 0, .int .i64 0, .int .i64 0, .int .i64 0], .int .i64 0], []⟩ 8 (by kernel_rfl) (by kernel_rfl) (by kernel_rfl) (by kernel_rfl)) ?_
  intro W base args ds gs before hval0 hW hcnd _
  have hval : ∀ (j : Nat) t v, Try.f8.params[j]? = some t → args[j]? = some v → Value.okWide Try.prog W .any base t v := hval0
  have hW' := hW
  obtain ⟨p, q, hA0, hV, rfl, hfz, hnd⟩ := hW
  have hA : DataW.TrodAll enc Try.prog W 0 (fun _ => true) true Try.f8.params.toList args.toList ds p := hA0
  rw [Try.params8] at hA hval
  obtain ⟨v0, vs0, d0, ds0, p0, q0, hargs, rfl, rfl, h0, r0⟩ := trodAll_cons hA
  obtain ⟨v1, vs1, d1, ds1, p1, q1, rfl, rfl, rfl, h1, r1⟩ := trodAll_cons r0
  obtain ⟨v2, vs2, d2, ds2, p2, q2, rfl, rfl, rfl, h2, r2⟩ := trodAll_cons r1
  obtain ⟨rfl, rfl, rfl⟩ := trodAll_nil r2
  obtain rfl : args = #[v0, v1, v2] := by cases args; simp_all
  obtain ⟨rfl, rfl⟩ := trodVars_none hV
  obtain ⟨rfl, ns0, rfl, l0⟩ := open_flat Try.underlying25 (by kernel_rfl) (hval 0 25 v0 rfl rfl) h0
  rw [show Try.prog.cellsOf 25 = 9 from by kernel_rfl] at l0
  obtain ⟨x0_0, x0_1, x0_2, x0_3, x0_4, x0_5, x0_6, x0_7, x0_8, rfl⟩ := fieldBetweens_len9 l0
  obtain ⟨rfl, ns1, rfl, l1⟩ := open_flat Try.underlying25 (by kernel_rfl) (hval 1 25 v1 rfl rfl) h1
  rw [show Try.prog.cellsOf 25 = 9 from by kernel_rfl] at l1
  obtain ⟨x1_0, x1_1, x1_2, x1_3, x1_4, x1_5, x1_6, x1_7, x1_8, rfl⟩ := fieldBetweens_len9 l1
  obtain ⟨x2, rfl, rfl, rfl, w2⟩ := open_int Try.underlying3 (hval 2 3 v2 rfl rfl) h2
  clear hA0 hval0 hval hA
  simp only [List.append_nil] at hW'
  have hC : Con Try.prog 8 [.a ([x0_0, x0_1, x0_2, x0_3, x0_4, x0_5, x0_6, x0_7, x0_8].map iv), .a ([x1_0, x1_1, x1_2, x1_3, x1_4, x1_5, x1_6, x1_7, x1_8].map iv), iv x2] [] (.v (.bool true)) [] := by
    have h := C8 ((x0_0, x0_1, x0_2), (x0_3, x0_4, x0_5), (x0_6, x0_7, x0_8)) ((x1_0, x1_1, x1_2), (x1_3, x1_4, x1_5), (x1_6, x1_7, x1_8)) x2
    rw [law_betweens] at h
    exact h
  refine (law_calls (vs := [.agg ([x0_0, x0_1, x0_2, x0_3, x0_4, x0_5, x0_6, x0_7, x0_8].map (Value.int .i64)).toArray, .agg ([x1_0, x1_1, x1_2, x1_3, x1_4, x1_5, x1_6, x1_7, x1_8].map (Value.int .i64)).toArray, .int .i64 x2]) hC ⟨rel_agg [x0_0, x0_1, x0_2, x0_3, x0_4, x0_5, x0_6, x0_7, x0_8], rel_agg [x1_0, x1_1, x1_2, x1_3, x1_4, x1_5, x1_6, x1_7, x1_8], rfl, trivial⟩ W).mono fun e W' ⟨he, hb⟩ => ?_
  subst he
  exact ⟨_, rfl, post_below (before := []) hW' hb (fun _ _ _ => (all_mk (shut_bool Try.underlying4 _) trodAll_mk0)) (all_mk (Below.trod laidOut (by kernel_rfl) (of_decide_eq_true (by kernel_rfl)) h0 hb (fun x hx => by cases hx)) (all_mk (Below.trod laidOut (by kernel_rfl) (of_decide_eq_true (by kernel_rfl)) h1 hb (fun x hx => by cases hx)) (all_mk (Below.trod laidOut (by kernel_rfl) (of_decide_eq_true (by kernel_rfl)) h2 hb (fun x hx => by cases hx)) trodAll_mk0))) rfl⟩
theorem fieldBetweens_over : Rows.fieldBetweensRow.holds Try.pinned (OpenSpec.ofChange Rows.fieldBetweensSpec) :=
  OpenClaim.holds_of_wide 8 Try.f8 rfl rfl rfl rfl rfl rfl rfl ⟨rfl, rfl, rfl, rfl, rfl⟩ rfl rfl rfl rfl rfl (by kernel_rfl) Try.func8 (by kernel_rfl)
    (of_decide_eq_true (by kernel_rfl)) (by unfold Func.isWrapper; first | (rw [if_pos (by decide +kernel)]; kernel_rfl) | (rw [if_neg (by decide +kernel)]; exact ⟨rfl, rfl⟩))
    (fun os started H enc _ => fieldBetweens_lifted os started H enc)
/-- THE STATEMENT -/
theorem fieldBetweens_proved : Rows.FieldBetweensSaid :=
  fieldBetweens_over

end Go.Proofs.Ytjlekmjnkpcnoaa
