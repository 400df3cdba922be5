/-
  SoundHears: for every pulse, point, speed, tick and depth the law returns true, and its arguments read behind the call as they read before. No condition.
-/
import Derived.Test.YtopbnnmkdildgaaMu0
import Derived.ProofKit
namespace Go.Proofs.Ytopbnnmkdildgaa
open Go.Proofs Go.Aw Go.RowKit
set_option maxRecDepth 100000
set_option linter.unusedVariables false
set_option linter.unusedSimpArgs false

/-- facet/facetlaw08.SoundHears -/
def F6 (a0 : ((Int × Int × Int) × (Int × Int × Int) × Int × Int × Int) × Int × Int) (a1 : (Int × Int × Int) × Int × Int × Int) : Bool :=
  (bif ((((F23 a0 a1.1 a1.2.1 a1.2.2.1 a1.2.2.2).1.1 : Int) == (F24 a0 a1.1 a1.2.1 a1.2.2.1 a1.2.2.2).1.1) && ((((F23 a0 a1.1 a1.2.1 a1.2.2.1 a1.2.2.2).1.2 : Int) == (F24 a0 a1.1 a1.2.1 a1.2.2.1 a1.2.2.2).1.2) && true)) then
   (bif (((F23 a0 a1.1 a1.2.1 a1.2.2.1 a1.2.2.2).2 : Int) == (F24 a0 a1.1 a1.2.1 a1.2.2.1 a1.2.2.2).2) then
    F18
   else
    false)
  else
   false)

noncomputable def oC6_0 (a0 : ((Int × Int × Int) × (Int × Int × Int) × Int × Int × Int) × Int × Int) (a1 : (Int × Int × Int) × Int × Int × Int) : Or := .call [] (.t [(.a (k2 (F23 a0 a1.1 a1.2.1 a1.2.2.1 a1.2.2.2).1)), (iv (F23 a0 a1.1 a1.2.1 a1.2.2.1 a1.2.2.2).2)]) []
noncomputable def oC6_1 (a0 : ((Int × Int × Int) × (Int × Int × Int) × Int × Int × Int) × Int × Int) (a1 : (Int × Int × Int) × Int × Int × Int) : Or := .call [] (.t [(.a (k2 (F24 a0 a1.1 a1.2.1 a1.2.2.1 a1.2.2.2).1)), (iv (F24 a0 a1.1 a1.2.1 a1.2.2.1 a1.2.2.2).2)]) []
noncomputable def oC6_2 (a0 : ((Int × Int × Int) × (Int × Int × Int) × Int × Int × Int) × Int × Int) (a1 : (Int × Int × Int) × Int × Int × Int) : Ob := .call 23 [(.a [(iv a0.1.1.1), (iv a0.1.1.2.1), (iv a0.1.1.2.2), (iv a0.1.2.1.1), (iv a0.1.2.1.2.1), (iv a0.1.2.1.2.2), (iv a0.1.2.2.1), (iv a0.1.2.2.2.1), (iv a0.1.2.2.2.2), (iv a0.2.1), (iv a0.2.2)]), (.a (k3 a1.1)), (iv a1.2.1), (iv a1.2.2.1), (iv a1.2.2.2)] [] (.t [(.a (k2 (F23 a0 a1.1 a1.2.1 a1.2.2.1 a1.2.2.2).1)), (iv (F23 a0 a1.1 a1.2.1 a1.2.2.1 a1.2.2.2).2)]) []
noncomputable def oC6_3 (a0 : ((Int × Int × Int) × (Int × Int × Int) × Int × Int × Int) × Int × Int) (a1 : (Int × Int × Int) × Int × Int × Int) : Ob := .call 24 [(.a [(iv a0.1.1.1), (iv a0.1.1.2.1), (iv a0.1.1.2.2), (iv a0.1.2.1.1), (iv a0.1.2.1.2.1), (iv a0.1.2.1.2.2), (iv a0.1.2.2.1), (iv a0.1.2.2.2.1), (iv a0.1.2.2.2.2), (iv a0.2.1), (iv a0.2.2)]), (.a (k3 a1.1)), (iv a1.2.1), (iv a1.2.2.1), (iv a1.2.2.2)] [] (.t [(.a (k2 (F24 a0 a1.1 a1.2.1 a1.2.2.1 a1.2.2.2).1)), (iv (F24 a0 a1.1 a1.2.1 a1.2.2.1 a1.2.2.2).2)]) []
noncomputable def oC6_4 (a0 : ((Int × Int × Int) × (Int × Int × Int) × Int × Int × Int) × Int × Int) (a1 : (Int × Int × Int) × Int × Int × Int) : Ob := .eq ((((F23 a0 a1.1 a1.2.1 a1.2.2.1 a1.2.2.2).1.1 : Int) == (F24 a0 a1.1 a1.2.1 a1.2.2.1 a1.2.2.2).1.1) && ((((F23 a0 a1.1 a1.2.1 a1.2.2.1 a1.2.2.2).1.2 : Int) == (F24 a0 a1.1 a1.2.1 a1.2.2.1 a1.2.2.2).1.2) && true)) true
theorem C6 (a0 : ((Int × Int × Int) × (Int × Int × Int) × Int × Int × Int) × Int × Int) (a1 : (Int × Int × Int) × Int × Int × Int) : Con Try.prog 6 [(.a [(iv a0.1.1.1), (iv a0.1.1.2.1), (iv a0.1.1.2.2), (iv a0.1.2.1.1), (iv a0.1.2.1.2.1), (iv a0.1.2.1.2.2), (iv a0.1.2.2.1), (iv a0.1.2.2.2.1), (iv a0.1.2.2.2.2), (iv a0.2.1), (iv a0.2.2)]), (.a [(iv a1.1.1), (iv a1.1.2.1), (iv a1.1.2.2), (iv a1.2.1), (iv a1.2.2.1), (iv a1.2.2.2)])] [] (.v (.bool (F6 a0 a1))) [] := by
  cases h0 : ((((F23 a0 a1.1 a1.2.1 a1.2.2.1 a1.2.2.2).1.1 : Int) == (F24 a0 a1.1 a1.2.1 a1.2.2.1 a1.2.2.2).1.1) && ((((F23 a0 a1.1 a1.2.1 a1.2.2.1 a1.2.2.2).1.2 : Int) == (F24 a0 a1.1 a1.2.1 a1.2.2.1 a1.2.2.2).1.2) && true)) with
  | true =>
    cases h1 : (((F23 a0 a1.1 a1.2.1 a1.2.2.1 a1.2.2.2).2 : Int) == (F24 a0 a1.1 a1.2.1 a1.2.2.1 a1.2.2.2).2) with
    | true =>
      have q1 := eq_of_beq h1
      have e : (F6 a0 a1) = F18 := by simp only [F6, h0, h1, cond_true, cond_false]
      rw [e]
      refine con_of (n := 9) Try.func6 rfl (ent Try.func6 (by kernel_rfl) rfl) (by show 2 ≤ Try.f6.ntmps; decide) (by kernel_rfl) trivial (fun cx hcx => ?_)
      exact ret_of (T := T0) hT hm (f := 5000) (orc := [(oC6_0 a0 a1), (oC6_1 a0 a1), .d true, .d true, .call [] (.v (.bool F18)) []]) [] [] [] hcx
        (obs := [(oC6_2 a0 a1), (oC6_3 a0 a1), (oC6_4 a0 a1), .eq (((F23 a0 a1.1 a1.2.1 a1.2.2.1 a1.2.2.2).2 : Int) == (F24 a0 a1.1 a1.2.1 a1.2.2.1 a1.2.2.2).2) true, .call 18 [] [] (.v (.bool F18)) []]) (by kernel_rfl) ⟨(C23 a0 a1.1 a1.2.1 a1.2.2.1 a1.2.2.2), (C24 a0 a1.1 a1.2.1 a1.2.2.1 a1.2.2.2), h0, h1, (C18), trivial⟩
    | false =>
      have q1 := ne_of_beq_false h1
      have e : (F6 a0 a1) = false := by simp only [F6, h0, h1, cond_true, cond_false]
      rw [e]
      refine con_of (n := 9) Try.func6 rfl (ent Try.func6 (by kernel_rfl) rfl) (by show 2 ≤ Try.f6.ntmps; decide) (by kernel_rfl) trivial (fun cx hcx => ?_)
      exact ret_of (T := T0) hT hm (f := 5000) (orc := [(oC6_0 a0 a1), (oC6_1 a0 a1), .d true, .d false]) [] [] [] hcx
        (obs := [(oC6_2 a0 a1), (oC6_3 a0 a1), (oC6_4 a0 a1), .eq (((F23 a0 a1.1 a1.2.1 a1.2.2.1 a1.2.2.2).2 : Int) == (F24 a0 a1.1 a1.2.1 a1.2.2.1 a1.2.2.2).2) false]) (by kernel_rfl) ⟨(C23 a0 a1.1 a1.2.1 a1.2.2.1 a1.2.2.2), (C24 a0 a1.1 a1.2.1 a1.2.2.1 a1.2.2.2), h0, h1, trivial⟩
  | false =>
    have e : (F6 a0 a1) = false := by simp only [F6, h0, cond_true, cond_false]
    rw [e]
    refine con_of (n := 9) Try.func6 rfl (ent Try.func6 (by kernel_rfl) rfl) (by show 2 ≤ Try.f6.ntmps; decide) (by kernel_rfl) trivial (fun cx hcx => ?_)
    exact ret_of (T := T0) hT hm (f := 5000) (orc := [(oC6_0 a0 a1), (oC6_1 a0 a1), .d false]) [] [] [] hcx
      (obs := [(oC6_2 a0 a1), (oC6_3 a0 a1), .eq ((((F23 a0 a1.1 a1.2.1 a1.2.2.1 a1.2.2.2).1.1 : Int) == (F24 a0 a1.1 a1.2.1 a1.2.2.1 a1.2.2.2).1.1) && ((((F23 a0 a1.1 a1.2.1 a1.2.2.1 a1.2.2.2).1.2 : Int) == (F24 a0 a1.1 a1.2.1 a1.2.2.1 a1.2.2.2).1.2) && true)) false]) (by kernel_rfl) ⟨(C23 a0 a1.1 a1.2.1 a1.2.2.1 a1.2.2.2), (C24 a0 a1.1 a1.2.1 a1.2.2.1 a1.2.2.2), h0, trivial⟩

theorem law_hears (p : PU) (x : P3 × Int × Int × Int) : F6 p x = true := by
  unfold F6
  rw [Heard_f, Heard_r, sane_t]
  simp

open Go.ChangeShapes Go.WideShapes Go.ChangeAt
theorem soundHears_len6 {l : List Int} (h : l.length = 6) : ∃ a0 a1 a2 a3 a4 a5, l = [a0, a1, a2, a3, a4, a5] := by
  match l, h with
  | [a0, a1, a2, a3, a4, a5], _ => exact ⟨a0, a1, a2, a3, a4, a5, rfl⟩
theorem soundHears_len11 {l : List Int} (h : l.length = 11) : ∃ a0 a1 a2 a3 a4 a5 a6 a7 a8 a9 a10, l = [a0, a1, a2, a3, a4, a5, a6, a7, a8, a9, a10] := by
  match l, h with
  | [a0, a1, a2, a3, a4, a5, a6, a7, a8, a9, a10], _ => exact ⟨a0, a1, a2, a3, a4, a5, a6, a7, a8, a9, a10, rfl⟩
set_option maxRecDepth 100000 in
theorem soundHears_lifted (os : Os) (started : os.Started) (H : Type) (enc : TypeId × Value → H) :
    ReturnsInHanded {} Try.checked os 6 .any (Rows.soundHearsSpec.pre6 enc Try.prog Try.f6 Rows.soundHearsRow.domain false) (Rows.soundHearsSpec.post enc Try.prog Try.f6 false true false false) := by
  refine returnsInHanded_of_change (C := Try.checked) own started (by kernel_rfl) Try.func6
    (ChangeSpec.witness6 (enc := enc) (C := Try.checked) false ⟨#[], #[.agg #[.int .i64 0, .int .i64 0, .int .i64 0, .int .i64 0, .int .i64 0, .int .i64 0, .int .i64 0, .int .i64 0, .int .i64 0, .int .i64 0, .int .i64 0], .agg #[.int .i64 0, .int .i64 0, .int .i64 0, .int .i64 0, .int .i64 0, .int .i64 0]], []⟩ 8 (by kernel_rfl) (by kernel_rfl) (by kernel_rfl) (by kernel_rfl)) ?_
  intro W base args ds gs before hval0 hW hcnd _
  have hval : ∀ (j : Nat) t v, Try.f6.params[j]? = some t → args[j]? = some v → Value.okWide Try.prog W .any base t v := hval0
  have hW' := hW
  obtain ⟨p, q, hA0, hV, rfl, hfz, hnd⟩ := hW
  have hA : DataW.TrodAll enc Try.prog W 0 (fun _ => true) true Try.f6.params.toList args.toList ds p := hA0
  rw [Try.params6] at hA hval
  obtain ⟨v0, vs0, d0, ds0, p0, q0, hargs, rfl, rfl, h0, r0⟩ := trodAll_cons hA
  obtain ⟨v1, vs1, d1, ds1, p1, q1, rfl, rfl, rfl, h1, r1⟩ := trodAll_cons r0
  obtain ⟨rfl, rfl, rfl⟩ := trodAll_nil r1
  obtain rfl : args = #[v0, v1] := by cases args; simp_all
  obtain ⟨rfl, rfl⟩ := trodVars_none hV
  obtain ⟨rfl, ns0, rfl, l0⟩ := open_flat Try.underlying41 (by kernel_rfl) (hval 0 41 v0 rfl rfl) h0
  rw [show Try.prog.cellsOf 41 = 11 from by kernel_rfl] at l0
  obtain ⟨x0_0, x0_1, x0_2, x0_3, x0_4, x0_5, x0_6, x0_7, x0_8, x0_9, x0_10, rfl⟩ := soundHears_len11 l0
  obtain ⟨rfl, ns1, rfl, l1⟩ := open_flat Try.underlying45 (by kernel_rfl) (hval 1 45 v1 rfl rfl) h1
  rw [show Try.prog.cellsOf 45 = 6 from by kernel_rfl] at l1
  obtain ⟨x1_0, x1_1, x1_2, x1_3, x1_4, x1_5, rfl⟩ := soundHears_len6 l1
  clear hA0 hval0 hval hA
  simp only [List.append_nil] at hW'
  have hC : Con Try.prog 6 [.a ([x0_0, x0_1, x0_2, x0_3, x0_4, x0_5, x0_6, x0_7, x0_8, x0_9, x0_10].map iv), .a ([x1_0, x1_1, x1_2, x1_3, x1_4, x1_5].map iv)] [] (.v (.bool true)) [] := by
    have h := C6 (((x0_0, x0_1, x0_2), (x0_3, x0_4, x0_5), (x0_6, x0_7, x0_8)), x0_9, x0_10) ((x1_0, x1_1, x1_2), x1_3, x1_4, x1_5)
    rw [law_hears] at h
    exact h
  refine (law_calls (vs := [.agg ([x0_0, x0_1, x0_2, x0_3, x0_4, x0_5, x0_6, x0_7, x0_8, x0_9, x0_10].map (Value.int .i64)).toArray, .agg ([x1_0, x1_1, x1_2, x1_3, x1_4, x1_5].map (Value.int .i64)).toArray]) hC ⟨rel_agg [x0_0, x0_1, x0_2, x0_3, x0_4, x0_5, x0_6, x0_7, x0_8, x0_9, x0_10], rel_agg [x1_0, x1_1, x1_2, x1_3, x1_4, x1_5], trivial⟩ W).mono fun e W' ⟨he, hb⟩ => ?_
  subst he
  exact ⟨_, rfl, post_below (before := []) hW' hb (fun _ _ _ => (all_mk (shut_bool Try.underlying4 _) trodAll_mk0)) (all_mk (Below.trod laidOut (by kernel_rfl) (of_decide_eq_true (by kernel_rfl)) h0 hb (fun x hx => by cases hx)) (all_mk (Below.trod laidOut (by kernel_rfl) (of_decide_eq_true (by kernel_rfl)) h1 hb (fun x hx => by cases hx)) trodAll_mk0)) rfl⟩
theorem soundHears_over : Rows.soundHearsRow.holds Try.pinned (OpenSpec.ofChange Rows.soundHearsSpec) :=
  OpenClaim.holds_of_wide 6 Try.f6 rfl rfl rfl rfl rfl rfl rfl ⟨rfl, rfl, rfl, rfl, rfl⟩ rfl rfl rfl rfl rfl (by kernel_rfl) Try.func6 (by kernel_rfl)
    (of_decide_eq_true (by kernel_rfl)) (by unfold Func.isWrapper; first | (rw [if_pos (by decide +kernel)]; kernel_rfl) | (rw [if_neg (by decide +kernel)]; exact ⟨rfl, rfl⟩))
    (fun os started H enc _ => soundHears_lifted os started H enc)
/-- THE STATEMENT -/
theorem soundHears_proved : Rows.SoundHearsSaid :=
  soundHears_over

end Go.Proofs.Ytopbnnmkdildgaa
