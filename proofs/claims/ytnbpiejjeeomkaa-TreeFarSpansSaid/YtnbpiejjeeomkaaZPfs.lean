/-
  TreeFarSpans: for every two nodes the law returns true, and its arguments read behind the call as they read before. No condition.
-/
import Derived.Test.YtnbpiejjeeomkaaVPfs3
import Derived.ProofKit
namespace Go.Proofs.Ytnbpiejjeeomkaa
open Go.Proofs Go.Aw Go.RowKit
set_option maxRecDepth 100000
set_option linter.unusedVariables false
set_option linter.unusedSimpArgs false

open Classical in
theorem sm64 (x : P3) : F44 x 64 = decide (bd 64 x) := by
  by_cases h : bd 64 x
  · rw [(small64_iff x).2 h]; simp [h]
  · rw [Bool.eq_false_iff.2 (fun e => h ((small64_iff x).1 e))]; simp [h]
/-- what both are -/
noncomputable def fsV (a b : ND) : (Int × Int) × Int :=
  open Classical in if knw a ∧ knw b then
    (let R := F41 (a.2.2.2.2.2 * 1099511627776) + F41 (b.2.2.2.2.2 * 1099511627776)
     let D := ds a.2.2.2.2.1 b.2.2.2.2.1 * 1099511627776
     if F42 D ≤ R then ((0, 0), 10) else ((W (Int.tdiv 1099511627776 (F41 D + R)), W (Int.tdiv (1099511627776 + F42 D - R - 1) (F42 D - R))), 0)) else ((0, 0), 1)
open Classical in
theorem fs_f (a b : ND) : F21 a b = fsV a b := by
  unfold F21 fsV
  rw [kn_f, kn_f]
  by_cases ha : knw a
  · by_cases hb : knw b
    · obtain ⟨e, d0, d1⟩ := dq_f ha.2 hb.2
      have hD := rt2 (n := ds a.2.2.2.2.1 b.2.2.2.2.1 * 1099511627776) (by omega) (by omega)
      have hA := rt2 (n := a.2.2.2.2.2 * 1099511627776) (by have := ha.1; omega) (by have := ha.1; omega)
      have hB := rt2 (n := b.2.2.2.2.2 * 1099511627776) (by have := hb.1; omega) (by have := hb.1; omega)
      rw [e, (unit_eq (n := ds a.2.2.2.2.1 b.2.2.2.2.1) (by omega)).1, (unit_eq ha.1).1, (unit_eq hb.1).1, if_pos ⟨ha, hb⟩]
      rw [W_eq (n := F41 (a.2.2.2.2.2 * 1099511627776) + F41 (b.2.2.2.2.2 * 1099511627776)) (by omega) (by omega)]
      simp only [decide_eq_true ha, decide_eq_true hb, Bool.not_true, cond_false]
      by_cases hc : F42 (ds a.2.2.2.2.1 b.2.2.2.2.1 * 1099511627776) ≤ F41 (a.2.2.2.2.2 * 1099511627776) + F41 (b.2.2.2.2.2 * 1099511627776)
      · rw [decide_eq_true hc, cond_true, if_pos hc]
      · rw [decide_eq_false hc, cond_false, if_neg hc]
        rw [W_eq (n := F41 (ds a.2.2.2.2.1 b.2.2.2.2.1 * 1099511627776) + (F41 (a.2.2.2.2.2 * 1099511627776) + F41 (b.2.2.2.2.2 * 1099511627776))) (by omega) (by omega),
          W_eq (n := F42 (ds a.2.2.2.2.1 b.2.2.2.2.1 * 1099511627776) - (F41 (a.2.2.2.2.2 * 1099511627776) + F41 (b.2.2.2.2.2 * 1099511627776))) (by omega) (by omega),
          W_eq (n := 1099511627776 + (F42 (ds a.2.2.2.2.1 b.2.2.2.2.1 * 1099511627776) - (F41 (a.2.2.2.2.2 * 1099511627776) + F41 (b.2.2.2.2.2 * 1099511627776)))) (by omega) (by omega),
          W_eq (n := 1099511627776 + (F42 (ds a.2.2.2.2.1 b.2.2.2.2.1 * 1099511627776) - (F41 (a.2.2.2.2.2 * 1099511627776) + F41 (b.2.2.2.2.2 * 1099511627776))) - 1) (by omega) (by omega)]
        rw [show (1099511627776 + (F42 (ds a.2.2.2.2.1 b.2.2.2.2.1 * 1099511627776) - (F41 (a.2.2.2.2.2 * 1099511627776) + F41 (b.2.2.2.2.2 * 1099511627776))) - 1) = 1099511627776 + F42 (ds a.2.2.2.2.1 b.2.2.2.2.1 * 1099511627776) - (F41 (a.2.2.2.2.2 * 1099511627776) + F41 (b.2.2.2.2.2 * 1099511627776)) - 1 by omega]
    · rw [if_neg (fun h => hb h.2)]; simp [ha, hb]
  · rw [if_neg (fun h => ha h.1)]; simp [ha]
open Classical in
theorem fs_r (a b : ND) : F22 a b = fsV a b := by
  unfold F22 fsV
  rw [w5_r, w5_r, sm64, sm64]
  by_cases ha : knw a
  · by_cases hb : knw b
    · obtain ⟨_, d0, d1⟩ := dq_f ha.2 hb.2
      have e : F45 a b = ds a.2.2.2.2.1 b.2.2.2.2.1 := dq_r ha.2 hb.2
      have hD := rt2 (n := ds a.2.2.2.2.1 b.2.2.2.2.1 * 1099511627776) (by omega) (by omega)
      have hA := rt2 (n := a.2.2.2.2.2 * 1099511627776) (by have := ha.1; omega) (by have := ha.1; omega)
      have hB := rt2 (n := b.2.2.2.2.2 * 1099511627776) (by have := hb.1; omega) (by have := hb.1; omega)
      rw [e, (unit_eq (n := ds a.2.2.2.2.1 b.2.2.2.2.1) (by omega)).2, (unit_eq ha.1).2, (unit_eq hb.1).2, if_pos ⟨ha, hb⟩, hA.2.1, hB.2.1, hD.1, hD.2.1]
      rw [W_eq (n := F41 (a.2.2.2.2.2 * 1099511627776) + F41 (b.2.2.2.2.2 * 1099511627776)) (by omega) (by omega)]
      simp only [decide_eq_true ha.1, decide_eq_true hb.1, decide_eq_true ha.2, decide_eq_true hb.2, Bool.not_true, cond_false]
      by_cases hc : F42 (ds a.2.2.2.2.1 b.2.2.2.2.1 * 1099511627776) ≤ F41 (a.2.2.2.2.2 * 1099511627776) + F41 (b.2.2.2.2.2 * 1099511627776)
      · rw [decide_eq_true hc, cond_true, if_pos hc]
      · rw [decide_eq_false hc, cond_false, if_neg hc]
        rw [W_eq (n := F41 (ds a.2.2.2.2.1 b.2.2.2.2.1 * 1099511627776) + (F41 (a.2.2.2.2.2 * 1099511627776) + F41 (b.2.2.2.2.2 * 1099511627776))) (by omega) (by omega),
          W_eq (n := F42 (ds a.2.2.2.2.1 b.2.2.2.2.1 * 1099511627776) - (F41 (a.2.2.2.2.2 * 1099511627776) + F41 (b.2.2.2.2.2 * 1099511627776))) (by omega) (by omega),
          W_eq (n := 1099511627776 + F42 (ds a.2.2.2.2.1 b.2.2.2.2.1 * 1099511627776)) (by omega) (by omega),
          W_eq (n := 1099511627776 + F42 (ds a.2.2.2.2.1 b.2.2.2.2.1 * 1099511627776) - (F41 (a.2.2.2.2.2 * 1099511627776) + F41 (b.2.2.2.2.2 * 1099511627776))) (by omega) (by omega),
          W_eq (n := 1099511627776 + F42 (ds a.2.2.2.2.1 b.2.2.2.2.1 * 1099511627776) - (F41 (a.2.2.2.2.2 * 1099511627776) + F41 (b.2.2.2.2.2 * 1099511627776)) - 1) (by omega) (by omega)]
    · rw [if_neg (fun h => hb h.2)]
      unfold knw at ha hb
      by_cases hb1 : 0 ≤ b.2.2.2.2.2 ∧ b.2.2.2.2.2 ≤ 131072
      · have hb2 : ¬ bd 64 b.2.2.2.2.1 := fun h => hb ⟨hb1, h⟩
        simp [ha.1, ha.2, hb1, hb2]
      · simp [ha.1, hb1]
  · rw [if_neg (fun h => ha h.1)]
    unfold knw at ha
    by_cases ha1 : 0 ≤ a.2.2.2.2.2 ∧ a.2.2.2.2.2 ≤ 131072
    · have ha2 : ¬ bd 64 a.2.2.2.2.1 := fun h => ha ⟨ha1, h⟩
      by_cases hb1 : 0 ≤ b.2.2.2.2.2 ∧ b.2.2.2.2.2 ≤ 131072 <;> simp [ha1, ha2, hb1]
    · simp [ha1]
theorem fs_comm (a b : ND) : fsV b a = fsV a b := by
  unfold fsV
  rw [ds_comm b.2.2.2.2.1 a.2.2.2.2.1, Int.add_comm (F41 (b.2.2.2.2.2 * 1099511627776))]
  by_cases ha : knw a <;> by_cases hb : knw b <;> simp [ha, hb]
theorem law_far (a b : ND) : F5 a b = true := by
  unfold F5
  rw [sane_5, fs_f, fs_f, fs_r, fs_comm]
  simp

open Go.ChangeShapes Go.WideShapes Go.ChangeAt
theorem treeFarSpans_len8 {l : List Int} (h : l.length = 8) : ∃ a0 a1 a2 a3 a4 a5 a6 a7, l = [a0, a1, a2, a3, a4, a5, a6, a7] := by
  match l, h with
  | [a0, a1, a2, a3, a4, a5, a6, a7], _ => exact ⟨a0, a1, a2, a3, a4, a5, a6, a7, rfl⟩
set_option maxRecDepth 100000 in
theorem treeFarSpans_lifted (os : Os) (started : os.Started) (H : Type) (enc : TypeId × Value → H) :
    ReturnsInHanded {} Try.checked os 5 .any (Rows.treeFarSpansSpec.pre6 enc Try.prog Try.f5 Rows.treeFarSpansRow.domain false) (Rows.treeFarSpansSpec.post enc Try.prog Try.f5 false true false false) := by
  refine returnsInHanded_of_change (C := Try.checked) own started (by kernel_rfl) Try.func5
    (ChangeSpec.witness6 (enc := enc) (C := Try.checked) false ⟨#[], #[.agg #[.int .i64 0, .int .i64 0, .int .i64 0, .int .i64 0, .int .i64 0, .int .i64 0, .int .i64 0, .int .i64 0], .agg #[.int .i64 0, .int .i64 0, .int .i64 0, .int .i64 0, .int .i64 0, .int .i64 0, .int .i64 0, .int .i64 0]], []⟩ 8 (by kernel_rfl) (by kernel_rfl) (by kernel_rfl) (by kernel_rfl)) ?_
  intro W base args ds gs before hval0 hW hcnd _
  have hval : ∀ (j : Nat) t v, Try.f5.params[j]? = some t → args[j]? = some v → Value.okWide Try.prog W .any base t v := hval0
  have hW' := hW
  obtain ⟨p, q, hA0, hV, rfl, hfz, hnd⟩ := hW
  have hA : DataW.TrodAll enc Try.prog W 0 (fun _ => true) true Try.f5.params.toList args.toList ds p := hA0
  rw [Try.params5] at hA hval
  obtain ⟨v0, vs0, d0, ds0, p0, q0, hargs, rfl, rfl, h0, r0⟩ := trodAll_cons hA
  obtain ⟨v1, vs1, d1, ds1, p1, q1, rfl, rfl, rfl, h1, r1⟩ := trodAll_cons r0
  obtain ⟨rfl, rfl, rfl⟩ := trodAll_nil r1
  obtain rfl : args = #[v0, v1] := by cases args; simp_all
  obtain ⟨rfl, rfl⟩ := trodVars_none hV
  obtain ⟨rfl, ns0, rfl, l0⟩ := open_flat Try.underlying40 (by kernel_rfl) (hval 0 40 v0 rfl rfl) h0
  rw [show Try.prog.cellsOf 40 = 8 from by kernel_rfl] at l0
  obtain ⟨x0_0, x0_1, x0_2, x0_3, x0_4, x0_5, x0_6, x0_7, rfl⟩ := treeFarSpans_len8 l0
  obtain ⟨rfl, ns1, rfl, l1⟩ := open_flat Try.underlying40 (by kernel_rfl) (hval 1 40 v1 rfl rfl) h1
  rw [show Try.prog.cellsOf 40 = 8 from by kernel_rfl] at l1
  obtain ⟨x1_0, x1_1, x1_2, x1_3, x1_4, x1_5, x1_6, x1_7, rfl⟩ := treeFarSpans_len8 l1
  clear hA0 hval0 hval hA
  simp only [List.append_nil, List.nil_append] at hW'
  have hC : Con Try.prog 5 [.a ([x0_0, x0_1, x0_2, x0_3, x0_4, x0_5, x0_6, x0_7].map iv), .a ([x1_0, x1_1, x1_2, x1_3, x1_4, x1_5, x1_6, x1_7].map iv)] [] (.v (.bool true)) [] := by
    have h := C5 (x0_0, x0_1, x0_2, x0_3, (x0_4, x0_5, x0_6), x0_7) (x1_0, x1_1, x1_2, x1_3, (x1_4, x1_5, x1_6), x1_7)
    rw [law_far] at h
    exact h
  refine (law_calls (vs := [.agg ([x0_0, x0_1, x0_2, x0_3, x0_4, x0_5, x0_6, x0_7].map (Value.int .i64)).toArray, .agg ([x1_0, x1_1, x1_2, x1_3, x1_4, x1_5, x1_6, x1_7].map (Value.int .i64)).toArray]) hC ⟨rel_agg [x0_0, x0_1, x0_2, x0_3, x0_4, x0_5, x0_6, x0_7], rel_agg [x1_0, x1_1, x1_2, x1_3, x1_4, x1_5, x1_6, x1_7], trivial⟩ W).mono fun e W' ⟨he, hb⟩ => ?_
  subst he
  exact ⟨_, rfl, post_below (before := []) hW' hb (fun _ _ _ => (all_mk (shut_bool Try.underlying4 _) trodAll_mk0)) (all_mk (Below.trod laidOut (by kernel_rfl) (of_decide_eq_true (by kernel_rfl)) h0 hb (fun x hx => by cases hx)) (all_mk (Below.trod laidOut (by kernel_rfl) (of_decide_eq_true (by kernel_rfl)) h1 hb (fun x hx => by cases hx)) trodAll_mk0)) rfl⟩
theorem treeFarSpans_over : Rows.treeFarSpansRow.holds Try.pinned (OpenSpec.ofChange Rows.treeFarSpansSpec) :=
  OpenClaim.holds_of_wide 5 Try.f5 rfl rfl rfl rfl rfl rfl rfl ⟨rfl, rfl, rfl, rfl, rfl⟩ rfl rfl rfl rfl rfl (by kernel_rfl) Try.func5 (by kernel_rfl)
    (of_decide_eq_true (by kernel_rfl)) (by unfold Func.isWrapper; first | (rw [if_pos (by decide +kernel)]; kernel_rfl) | (rw [if_neg (by decide +kernel)]; exact ⟨rfl, rfl⟩))
    (fun os started H enc _ => treeFarSpans_lifted os started H enc)
/-- THE STATEMENT -/
theorem treeFarSpans_proved : Rows.TreeFarSpansSaid :=
  treeFarSpans_over

end Go.Proofs.Ytnbpiejjeeomkaa
