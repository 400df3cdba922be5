/-
  SoundTravels: for every two points and every speed the law returns true, and its arguments read behind the call as they read before. No condition.
-/
import Derived.Test.YtopbnnmkdildgaaMt
import Derived.ProofKit
namespace Go.Proofs.Ytopbnnmkdildgaa
open Go.Proofs Go.Aw Go.RowKit
set_option maxRecDepth 100000
set_option linter.unusedVariables false
set_option linter.unusedSimpArgs false

/-- facet/facetlaw08.SoundTravels -/
def F4 (a0 : Int × Int × Int) (a1 : Int × Int × Int) (a2 : Int) : Bool :=
  (bif (((F16 a0 a1 a2).1 : Int) == (F17 a0 a1 a2).1) then
   (bif (((F16 a0 a1 a2).2 : Int) == (F17 a0 a1 a2).2) then
    (bif (((F16 a1 a0 a2).1 : Int) == (F16 a0 a1 a2).1) then
     (bif (((F16 a1 a0 a2).2 : Int) == (F16 a0 a1 a2).2) then
      F18
     else
      false)
    else
     false)
   else
    false)
  else
   false)

noncomputable def oC4_0 (a0 : Int × Int × Int) (a1 : Int × Int × Int) (a2 : Int) : Ob := .call 16 [(.a (k3 a0)), (.a (k3 a1)), (iv a2)] [] (.t (k2 (F16 a0 a1 a2))) []
noncomputable def oC4_1 (a0 : Int × Int × Int) (a1 : Int × Int × Int) (a2 : Int) : Ob := .call 17 [(.a (k3 a0)), (.a (k3 a1)), (iv a2)] [] (.t (k2 (F17 a0 a1 a2))) []
noncomputable def oC4_2 (a0 : Int × Int × Int) (a1 : Int × Int × Int) (a2 : Int) : Ob := .call 16 [(.a (k3 a1)), (.a (k3 a0)), (iv a2)] [] (.t (k2 (F16 a1 a0 a2))) []
theorem C4 (a0 : Int × Int × Int) (a1 : Int × Int × Int) (a2 : Int) : Con Try.prog 4 [(.a (k3 a0)), (.a (k3 a1)), (iv a2)] [] (.v (.bool (F4 a0 a1 a2))) [] := by
  cases h0 : (((F16 a0 a1 a2).1 : Int) == (F17 a0 a1 a2).1) with
  | true =>
    cases h1 : (((F16 a0 a1 a2).2 : Int) == (F17 a0 a1 a2).2) with
    | true =>
      cases h2 : (((F16 a1 a0 a2).1 : Int) == (F16 a0 a1 a2).1) with
      | true =>
        cases h3 : (((F16 a1 a0 a2).2 : Int) == (F16 a0 a1 a2).2) with
        | true =>
          have q0 := eq_of_beq h0
          have q1 := eq_of_beq h1
          have q2 := eq_of_beq h2
          have q3 := eq_of_beq h3
          have e : (F4 a0 a1 a2) = F18 := by simp only [F4, h0, h1, h2, h3, cond_true, cond_false]
          rw [e]
          refine con_of (n := 9) Try.func4 rfl (ent Try.func4 (by kernel_rfl) rfl) (by show 3 ≤ Try.f4.ntmps; decide) (by kernel_rfl) trivial (fun cx hcx => ?_)
          exact ret_of (T := T0) hT hm (f := 5000) (orc := [.call [] (.t (k2 (F16 a0 a1 a2))) [], .call [] (.t (k2 (F17 a0 a1 a2))) [], .call [] (.t (k2 (F16 a1 a0 a2))) [], .d true, .d true, .d true, .d true, .call [] (.v (.bool F18)) []]) [] [] [] hcx
            (obs := [(oC4_0 a0 a1 a2), (oC4_1 a0 a1 a2), (oC4_2 a0 a1 a2), .eq (((F16 a0 a1 a2).1 : Int) == (F17 a0 a1 a2).1) true, .eq (((F16 a0 a1 a2).2 : Int) == (F17 a0 a1 a2).2) true, .eq (((F16 a1 a0 a2).1 : Int) == (F16 a0 a1 a2).1) true, .eq (((F16 a1 a0 a2).2 : Int) == (F16 a0 a1 a2).2) true, .call 18 [] [] (.v (.bool F18)) []]) (by kernel_rfl) ⟨(C16 a0 a1 a2), (C17 a0 a1 a2), (C16 a1 a0 a2), h0, h1, h2, h3, (C18), trivial⟩
        | false =>
          have q0 := eq_of_beq h0
          have q1 := eq_of_beq h1
          have q2 := eq_of_beq h2
          have q3 := ne_of_beq_false h3
          have e : (F4 a0 a1 a2) = false := by simp only [F4, h0, h1, h2, h3, cond_true, cond_false]
          rw [e]
          refine con_of (n := 9) Try.func4 rfl (ent Try.func4 (by kernel_rfl) rfl) (by show 3 ≤ Try.f4.ntmps; decide) (by kernel_rfl) trivial (fun cx hcx => ?_)
          exact ret_of (T := T0) hT hm (f := 5000) (orc := [.call [] (.t (k2 (F16 a0 a1 a2))) [], .call [] (.t (k2 (F17 a0 a1 a2))) [], .call [] (.t (k2 (F16 a1 a0 a2))) [], .d true, .d true, .d true, .d false]) [] [] [] hcx
            (obs := [(oC4_0 a0 a1 a2), (oC4_1 a0 a1 a2), (oC4_2 a0 a1 a2), .eq (((F16 a0 a1 a2).1 : Int) == (F17 a0 a1 a2).1) true, .eq (((F16 a0 a1 a2).2 : Int) == (F17 a0 a1 a2).2) true, .eq (((F16 a1 a0 a2).1 : Int) == (F16 a0 a1 a2).1) true, .eq (((F16 a1 a0 a2).2 : Int) == (F16 a0 a1 a2).2) false]) (by kernel_rfl) ⟨(C16 a0 a1 a2), (C17 a0 a1 a2), (C16 a1 a0 a2), h0, h1, h2, h3, trivial⟩
      | false =>
        have q0 := eq_of_beq h0
        have q1 := eq_of_beq h1
        have q2 := ne_of_beq_false h2
        have e : (F4 a0 a1 a2) = false := by simp only [F4, h0, h1, h2, cond_true, cond_false]
        rw [e]
        refine con_of (n := 9) Try.func4 rfl (ent Try.func4 (by kernel_rfl) rfl) (by show 3 ≤ Try.f4.ntmps; decide) (by kernel_rfl) trivial (fun cx hcx => ?_)
        exact ret_of (T := T0) hT hm (f := 5000) (orc := [.call [] (.t (k2 (F16 a0 a1 a2))) [], .call [] (.t (k2 (F17 a0 a1 a2))) [], .call [] (.t (k2 (F16 a1 a0 a2))) [], .d true, .d true, .d false]) [] [] [] hcx
          (obs := [(oC4_0 a0 a1 a2), (oC4_1 a0 a1 a2), (oC4_2 a0 a1 a2), .eq (((F16 a0 a1 a2).1 : Int) == (F17 a0 a1 a2).1) true, .eq (((F16 a0 a1 a2).2 : Int) == (F17 a0 a1 a2).2) true, .eq (((F16 a1 a0 a2).1 : Int) == (F16 a0 a1 a2).1) false]) (by kernel_rfl) ⟨(C16 a0 a1 a2), (C17 a0 a1 a2), (C16 a1 a0 a2), h0, h1, h2, trivial⟩
    | false =>
      have q0 := eq_of_beq h0
      have q1 := ne_of_beq_false h1
      have e : (F4 a0 a1 a2) = false := by simp only [F4, h0, h1, cond_true, cond_false]
      rw [e]
      refine con_of (n := 9) Try.func4 rfl (ent Try.func4 (by kernel_rfl) rfl) (by show 3 ≤ Try.f4.ntmps; decide) (by kernel_rfl) trivial (fun cx hcx => ?_)
      exact ret_of (T := T0) hT hm (f := 5000) (orc := [.call [] (.t (k2 (F16 a0 a1 a2))) [], .call [] (.t (k2 (F17 a0 a1 a2))) [], .call [] (.t (k2 (F16 a1 a0 a2))) [], .d true, .d false]) [] [] [] hcx
        (obs := [(oC4_0 a0 a1 a2), (oC4_1 a0 a1 a2), (oC4_2 a0 a1 a2), .eq (((F16 a0 a1 a2).1 : Int) == (F17 a0 a1 a2).1) true, .eq (((F16 a0 a1 a2).2 : Int) == (F17 a0 a1 a2).2) false]) (by kernel_rfl) ⟨(C16 a0 a1 a2), (C17 a0 a1 a2), (C16 a1 a0 a2), h0, h1, trivial⟩
  | false =>
    have q0 := ne_of_beq_false h0
    have e : (F4 a0 a1 a2) = false := by simp only [F4, h0, cond_true, cond_false]
    rw [e]
    refine con_of (n := 9) Try.func4 rfl (ent Try.func4 (by kernel_rfl) rfl) (by show 3 ≤ Try.f4.ntmps; decide) (by kernel_rfl) trivial (fun cx hcx => ?_)
    exact ret_of (T := T0) hT hm (f := 5000) (orc := [.call [] (.t (k2 (F16 a0 a1 a2))) [], .call [] (.t (k2 (F17 a0 a1 a2))) [], .call [] (.t (k2 (F16 a1 a0 a2))) [], .d false]) [] [] [] hcx
      (obs := [(oC4_0 a0 a1 a2), (oC4_1 a0 a1 a2), (oC4_2 a0 a1 a2), .eq (((F16 a0 a1 a2).1 : Int) == (F17 a0 a1 a2).1) false]) (by kernel_rfl) ⟨(C16 a0 a1 a2), (C17 a0 a1 a2), (C16 a1 a0 a2), h0, trivial⟩

theorem law_travels (a b : P3) (s : Int) : F4 a b s = true := by
  unfold F4
  rw [Travel_f, Travel_r, Travel_f b a, ds_comm b a, sane_t]
  by_cases h1 : bd 256 a <;> by_cases h2 : bd 256 b <;> by_cases h3 : 1 ≤ s ∧ s ≤ 16 <;> simp [h1, h2, h3]

open Go.ChangeShapes Go.WideShapes Go.ChangeAt
theorem soundTravels_len3 {l : List Int} (h : l.length = 3) : ∃ a0 a1 a2, l = [a0, a1, a2] := by
  match l, h with
  | [a0, a1, a2], _ => exact ⟨a0, a1, a2, rfl⟩
set_option maxRecDepth 100000 in
theorem soundTravels_lifted (os : Os) (started : os.Started) (H : Type) (enc : TypeId × Value → H) :
    ReturnsInHanded {} Try.checked os 4 .any (Rows.soundTravelsSpec.pre6 enc Try.prog Try.f4 Rows.soundTravelsRow.domain false) (Rows.soundTravelsSpec.post enc Try.prog Try.f4 false true false false) := by
  refine returnsInHanded_of_change (C := Try.checked) own started (by kernel_rfl) Try.func4
    (ChangeSpec.witness6 (enc := enc) (C := Try.checked) false ⟨#[], #[.agg #[.int .i64 0, .int .i64 0, .int .i64 0], .agg #[.int .i64 0, .int .i64 0, .int .i64 0], .int .i64 0], []⟩ 8 (by kernel_rfl) (by kernel_rfl) (by kernel_rfl) (by kernel_rfl)) ?_
  intro W base args ds gs before hval0 hW hcnd _
  have hval : ∀ (j : Nat) t v, Try.f4.params[j]? = some t → args[j]? = some v → Value.okWide Try.prog W .any base t v := hval0
  have hW' := hW
  obtain ⟨p, q, hA0, hV, rfl, hfz, hnd⟩ := hW
  have hA : DataW.TrodAll enc Try.prog W 0 (fun _ => true) true Try.f4.params.toList args.toList ds p := hA0
  rw [Try.params4] at hA hval
  obtain ⟨v0, vs0, d0, ds0, p0, q0, hargs, rfl, rfl, h0, r0⟩ := trodAll_cons hA
  obtain ⟨v1, vs1, d1, ds1, p1, q1, rfl, rfl, rfl, h1, r1⟩ := trodAll_cons r0
  obtain ⟨v2, vs2, d2, ds2, p2, q2, rfl, rfl, rfl, h2, r2⟩ := trodAll_cons r1
  obtain ⟨rfl, rfl, rfl⟩ := trodAll_nil r2
  obtain rfl : args = #[v0, v1, v2] := by cases args; simp_all
  obtain ⟨rfl, rfl⟩ := trodVars_none hV
  obtain ⟨rfl, ns0, rfl, l0⟩ := open_flat Try.underlying24 (by kernel_rfl) (hval 0 24 v0 rfl rfl) h0
  rw [show Try.prog.cellsOf 24 = 3 from by kernel_rfl] at l0
  obtain ⟨x0_0, x0_1, x0_2, rfl⟩ := soundTravels_len3 l0
  obtain ⟨rfl, ns1, rfl, l1⟩ := open_flat Try.underlying24 (by kernel_rfl) (hval 1 24 v1 rfl rfl) h1
  rw [show Try.prog.cellsOf 24 = 3 from by kernel_rfl] at l1
  obtain ⟨x1_0, x1_1, x1_2, rfl⟩ := soundTravels_len3 l1
  obtain ⟨x2, rfl, rfl, rfl, w2⟩ := open_int Try.underlying3 (hval 2 3 v2 rfl rfl) h2
  clear hA0 hval0 hval hA
  simp only [List.append_nil] at hW'
  have hC : Con Try.prog 4 [.a ([x0_0, x0_1, x0_2].map iv), .a ([x1_0, x1_1, x1_2].map iv), iv x2] [] (.v (.bool true)) [] := by
    have h := C4 (x0_0, x0_1, x0_2) (x1_0, x1_1, x1_2) x2
    rw [law_travels] at h
    exact h
  refine (law_calls (vs := [.agg ([x0_0, x0_1, x0_2].map (Value.int .i64)).toArray, .agg ([x1_0, x1_1, x1_2].map (Value.int .i64)).toArray, .int .i64 x2]) hC ⟨rel_agg [x0_0, x0_1, x0_2], rel_agg [x1_0, x1_1, x1_2], rfl, trivial⟩ W).mono fun e W' ⟨he, hb⟩ => ?_
  subst he
  exact ⟨_, rfl, post_below (before := []) hW' hb (fun _ _ _ => (all_mk (shut_bool Try.underlying4 _) trodAll_mk0)) (all_mk (Below.trod laidOut (by kernel_rfl) (of_decide_eq_true (by kernel_rfl)) h0 hb (fun x hx => by cases hx)) (all_mk (Below.trod laidOut (by kernel_rfl) (of_decide_eq_true (by kernel_rfl)) h1 hb (fun x hx => by cases hx)) (all_mk (Below.trod laidOut (by kernel_rfl) (of_decide_eq_true (by kernel_rfl)) h2 hb (fun x hx => by cases hx)) trodAll_mk0))) rfl⟩
theorem soundTravels_over : Rows.soundTravelsRow.holds Try.pinned (OpenSpec.ofChange Rows.soundTravelsSpec) :=
  OpenClaim.holds_of_wide 4 Try.f4 rfl rfl rfl rfl rfl rfl rfl ⟨rfl, rfl, rfl, rfl, rfl⟩ rfl rfl rfl rfl rfl (by kernel_rfl) Try.func4 (by kernel_rfl)
    (of_decide_eq_true (by kernel_rfl)) (by unfold Func.isWrapper; first | (rw [if_pos (by decide +kernel)]; kernel_rfl) | (rw [if_neg (by decide +kernel)]; exact ⟨rfl, rfl⟩))
    (fun os started H enc _ => soundTravels_lifted os started H enc)
/-- THE STATEMENT -/
theorem soundTravels_proved : Rows.SoundTravelsSaid :=
  soundTravels_over

end Go.Proofs.Ytopbnnmkdildgaa
