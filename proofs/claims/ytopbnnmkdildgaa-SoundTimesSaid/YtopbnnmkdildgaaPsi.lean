/-
  SoundTimes: for every pulse, point and speed the law returns true, and its arguments read behind the call as they read before. No condition.
-/
import Derived.Test.YtopbnnmkdildgaaMt
import Derived.ProofKit
namespace Go.Proofs.Ytopbnnmkdildgaa
open Go.Proofs Go.Aw Go.RowKit
set_option maxRecDepth 100000
set_option linter.unusedVariables false
set_option linter.unusedSimpArgs false

/-- facet/facetlaw08.SoundTimes -/
def F5 (a0 : ((Int × Int × Int) × (Int × Int × Int) × Int × Int × Int) × Int × Int) (a1 : Int × Int × Int) (a2 : Int) : Bool :=
  (bif (((F19 a0 a1 a2).1 : Int) == (F20 a0 a1 a2).1) then
   (bif (((F19 a0 a1 a2).2 : Int) == (F20 a0 a1 a2).2) then
    (bif (((F21 a0 a1 a2).1 : Int) == (F22 a0 a1 a2).1) then
     (bif (((F21 a0 a1 a2).2 : Int) == (F22 a0 a1 a2).2) then
      F18
     else
      false)
    else
     false)
   else
    false)
  else
   false)

noncomputable def oC5_0 (a0 : ((Int × Int × Int) × (Int × Int × Int) × Int × Int × Int) × Int × Int) (a1 : Int × Int × Int) (a2 : Int) : Ob := .call 19 [(.a [(iv a0.1.1.1), (iv a0.1.1.2.1), (iv a0.1.1.2.2), (iv a0.1.2.1.1), (iv a0.1.2.1.2.1), (iv a0.1.2.1.2.2), (iv a0.1.2.2.1), (iv a0.1.2.2.2.1), (iv a0.1.2.2.2.2), (iv a0.2.1), (iv a0.2.2)]), (.a (k3 a1)), (iv a2)] [] (.t (k2 (F19 a0 a1 a2))) []
noncomputable def oC5_1 (a0 : ((Int × Int × Int) × (Int × Int × Int) × Int × Int × Int) × Int × Int) (a1 : Int × Int × Int) (a2 : Int) : Ob := .call 20 [(.a [(iv a0.1.1.1), (iv a0.1.1.2.1), (iv a0.1.1.2.2), (iv a0.1.2.1.1), (iv a0.1.2.1.2.1), (iv a0.1.2.1.2.2), (iv a0.1.2.2.1), (iv a0.1.2.2.2.1), (iv a0.1.2.2.2.2), (iv a0.2.1), (iv a0.2.2)]), (.a (k3 a1)), (iv a2)] [] (.t (k2 (F20 a0 a1 a2))) []
noncomputable def oC5_2 (a0 : ((Int × Int × Int) × (Int × Int × Int) × Int × Int × Int) × Int × Int) (a1 : Int × Int × Int) (a2 : Int) : Ob := .call 21 [(.a [(iv a0.1.1.1), (iv a0.1.1.2.1), (iv a0.1.1.2.2), (iv a0.1.2.1.1), (iv a0.1.2.1.2.1), (iv a0.1.2.1.2.2), (iv a0.1.2.2.1), (iv a0.1.2.2.2.1), (iv a0.1.2.2.2.2), (iv a0.2.1), (iv a0.2.2)]), (.a (k3 a1)), (iv a2)] [] (.t (k2 (F21 a0 a1 a2))) []
noncomputable def oC5_3 (a0 : ((Int × Int × Int) × (Int × Int × Int) × Int × Int × Int) × Int × Int) (a1 : Int × Int × Int) (a2 : Int) : Ob := .call 22 [(.a [(iv a0.1.1.1), (iv a0.1.1.2.1), (iv a0.1.1.2.2), (iv a0.1.2.1.1), (iv a0.1.2.1.2.1), (iv a0.1.2.1.2.2), (iv a0.1.2.2.1), (iv a0.1.2.2.2.1), (iv a0.1.2.2.2.2), (iv a0.2.1), (iv a0.2.2)]), (.a (k3 a1)), (iv a2)] [] (.t (k2 (F22 a0 a1 a2))) []
theorem C5 (a0 : ((Int × Int × Int) × (Int × Int × Int) × Int × Int × Int) × Int × Int) (a1 : Int × Int × Int) (a2 : Int) : Con Try.prog 5 [(.a [(iv a0.1.1.1), (iv a0.1.1.2.1), (iv a0.1.1.2.2), (iv a0.1.2.1.1), (iv a0.1.2.1.2.1), (iv a0.1.2.1.2.2), (iv a0.1.2.2.1), (iv a0.1.2.2.2.1), (iv a0.1.2.2.2.2), (iv a0.2.1), (iv a0.2.2)]), (.a (k3 a1)), (iv a2)] [] (.v (.bool (F5 a0 a1 a2))) [] := by
  cases h0 : (((F19 a0 a1 a2).1 : Int) == (F20 a0 a1 a2).1) with
  | true =>
    cases h1 : (((F19 a0 a1 a2).2 : Int) == (F20 a0 a1 a2).2) with
    | true =>
      cases h2 : (((F21 a0 a1 a2).1 : Int) == (F22 a0 a1 a2).1) with
      | true =>
        cases h3 : (((F21 a0 a1 a2).2 : Int) == (F22 a0 a1 a2).2) with
        | true =>
          have q0 := eq_of_beq h0
          have q1 := eq_of_beq h1
          have q2 := eq_of_beq h2
          have q3 := eq_of_beq h3
          have e : (F5 a0 a1 a2) = F18 := by simp only [F5, h0, h1, h2, h3, cond_true, cond_false]
          rw [e]
          refine con_of (n := 9) Try.func5 rfl (ent Try.func5 (by kernel_rfl) rfl) (by show 3 ≤ Try.f5.ntmps; decide) (by kernel_rfl) trivial (fun cx hcx => ?_)
          exact ret_of (T := T0) hT hm (f := 5000) (orc := [.call [] (.t (k2 (F19 a0 a1 a2))) [], .call [] (.t (k2 (F20 a0 a1 a2))) [], .call [] (.t (k2 (F21 a0 a1 a2))) [], .call [] (.t (k2 (F22 a0 a1 a2))) [], .d true, .d true, .d true, .d true, .call [] (.v (.bool F18)) []]) [] [] [] hcx
            (obs := [(oC5_0 a0 a1 a2), (oC5_1 a0 a1 a2), (oC5_2 a0 a1 a2), (oC5_3 a0 a1 a2), .eq (((F19 a0 a1 a2).1 : Int) == (F20 a0 a1 a2).1) true, .eq (((F19 a0 a1 a2).2 : Int) == (F20 a0 a1 a2).2) true, .eq (((F21 a0 a1 a2).1 : Int) == (F22 a0 a1 a2).1) true, .eq (((F21 a0 a1 a2).2 : Int) == (F22 a0 a1 a2).2) true, .call 18 [] [] (.v (.bool F18)) []]) (by kernel_rfl) ⟨(C19 a0 a1 a2), (C20 a0 a1 a2), (C21 a0 a1 a2), (C22 a0 a1 a2), h0, h1, h2, h3, (C18), trivial⟩
        | false =>
          have q0 := eq_of_beq h0
          have q1 := eq_of_beq h1
          have q2 := eq_of_beq h2
          have q3 := ne_of_beq_false h3
          have e : (F5 a0 a1 a2) = false := by simp only [F5, h0, h1, h2, h3, cond_true, cond_false]
          rw [e]
          refine con_of (n := 9) Try.func5 rfl (ent Try.func5 (by kernel_rfl) rfl) (by show 3 ≤ Try.f5.ntmps; decide) (by kernel_rfl) trivial (fun cx hcx => ?_)
          exact ret_of (T := T0) hT hm (f := 5000) (orc := [.call [] (.t (k2 (F19 a0 a1 a2))) [], .call [] (.t (k2 (F20 a0 a1 a2))) [], .call [] (.t (k2 (F21 a0 a1 a2))) [], .call [] (.t (k2 (F22 a0 a1 a2))) [], .d true, .d true, .d true, .d false]) [] [] [] hcx
            (obs := [(oC5_0 a0 a1 a2), (oC5_1 a0 a1 a2), (oC5_2 a0 a1 a2), (oC5_3 a0 a1 a2), .eq (((F19 a0 a1 a2).1 : Int) == (F20 a0 a1 a2).1) true, .eq (((F19 a0 a1 a2).2 : Int) == (F20 a0 a1 a2).2) true, .eq (((F21 a0 a1 a2).1 : Int) == (F22 a0 a1 a2).1) true, .eq (((F21 a0 a1 a2).2 : Int) == (F22 a0 a1 a2).2) false]) (by kernel_rfl) ⟨(C19 a0 a1 a2), (C20 a0 a1 a2), (C21 a0 a1 a2), (C22 a0 a1 a2), h0, h1, h2, h3, trivial⟩
      | false =>
        have q0 := eq_of_beq h0
        have q1 := eq_of_beq h1
        have q2 := ne_of_beq_false h2
        have e : (F5 a0 a1 a2) = false := by simp only [F5, h0, h1, h2, cond_true, cond_false]
        rw [e]
        refine con_of (n := 9) Try.func5 rfl (ent Try.func5 (by kernel_rfl) rfl) (by show 3 ≤ Try.f5.ntmps; decide) (by kernel_rfl) trivial (fun cx hcx => ?_)
        exact ret_of (T := T0) hT hm (f := 5000) (orc := [.call [] (.t (k2 (F19 a0 a1 a2))) [], .call [] (.t (k2 (F20 a0 a1 a2))) [], .call [] (.t (k2 (F21 a0 a1 a2))) [], .call [] (.t (k2 (F22 a0 a1 a2))) [], .d true, .d true, .d false]) [] [] [] hcx
          (obs := [(oC5_0 a0 a1 a2), (oC5_1 a0 a1 a2), (oC5_2 a0 a1 a2), (oC5_3 a0 a1 a2), .eq (((F19 a0 a1 a2).1 : Int) == (F20 a0 a1 a2).1) true, .eq (((F19 a0 a1 a2).2 : Int) == (F20 a0 a1 a2).2) true, .eq (((F21 a0 a1 a2).1 : Int) == (F22 a0 a1 a2).1) false]) (by kernel_rfl) ⟨(C19 a0 a1 a2), (C20 a0 a1 a2), (C21 a0 a1 a2), (C22 a0 a1 a2), h0, h1, h2, trivial⟩
    | false =>
      have q0 := eq_of_beq h0
      have q1 := ne_of_beq_false h1
      have e : (F5 a0 a1 a2) = false := by simp only [F5, h0, h1, cond_true, cond_false]
      rw [e]
      refine con_of (n := 9) Try.func5 rfl (ent Try.func5 (by kernel_rfl) rfl) (by show 3 ≤ Try.f5.ntmps; decide) (by kernel_rfl) trivial (fun cx hcx => ?_)
      exact ret_of (T := T0) hT hm (f := 5000) (orc := [.call [] (.t (k2 (F19 a0 a1 a2))) [], .call [] (.t (k2 (F20 a0 a1 a2))) [], .call [] (.t (k2 (F21 a0 a1 a2))) [], .call [] (.t (k2 (F22 a0 a1 a2))) [], .d true, .d false]) [] [] [] hcx
        (obs := [(oC5_0 a0 a1 a2), (oC5_1 a0 a1 a2), (oC5_2 a0 a1 a2), (oC5_3 a0 a1 a2), .eq (((F19 a0 a1 a2).1 : Int) == (F20 a0 a1 a2).1) true, .eq (((F19 a0 a1 a2).2 : Int) == (F20 a0 a1 a2).2) false]) (by kernel_rfl) ⟨(C19 a0 a1 a2), (C20 a0 a1 a2), (C21 a0 a1 a2), (C22 a0 a1 a2), h0, h1, trivial⟩
  | false =>
    have q0 := ne_of_beq_false h0
    have e : (F5 a0 a1 a2) = false := by simp only [F5, h0, cond_true, cond_false]
    rw [e]
    refine con_of (n := 9) Try.func5 rfl (ent Try.func5 (by kernel_rfl) rfl) (by show 3 ≤ Try.f5.ntmps; decide) (by kernel_rfl) trivial (fun cx hcx => ?_)
    exact ret_of (T := T0) hT hm (f := 5000) (orc := [.call [] (.t (k2 (F19 a0 a1 a2))) [], .call [] (.t (k2 (F20 a0 a1 a2))) [], .call [] (.t (k2 (F21 a0 a1 a2))) [], .call [] (.t (k2 (F22 a0 a1 a2))) [], .d false]) [] [] [] hcx
      (obs := [(oC5_0 a0 a1 a2), (oC5_1 a0 a1 a2), (oC5_2 a0 a1 a2), (oC5_3 a0 a1 a2), .eq (((F19 a0 a1 a2).1 : Int) == (F20 a0 a1 a2).1) false]) (by kernel_rfl) ⟨(C19 a0 a1 a2), (C20 a0 a1 a2), (C21 a0 a1 a2), (C22 a0 a1 a2), h0, trivial⟩

theorem law_times (p : PU) (x : P3) (s : Int) : F5 p x s = true := by
  unfold F5
  rw [First_f, First_r, Last_f, Last_r, sane_t]
  simp

open Go.ChangeShapes Go.WideShapes Go.ChangeAt
theorem soundTimes_len3 {l : List Int} (h : l.length = 3) : ∃ a0 a1 a2, l = [a0, a1, a2] := by
  match l, h with
  | [a0, a1, a2], _ => exact ⟨a0, a1, a2, rfl⟩
theorem soundTimes_len11 {l : List Int} (h : l.length = 11) : ∃ a0 a1 a2 a3 a4 a5 a6 a7 a8 a9 a10, l = [a0, a1, a2, a3, a4, a5, a6, a7, a8, a9, a10] := by
  match l, h with
  | [a0, a1, a2, a3, a4, a5, a6, a7, a8, a9, a10], _ => exact ⟨a0, a1, a2, a3, a4, a5, a6, a7, a8, a9, a10, rfl⟩
set_option maxRecDepth 100000 in
theorem soundTimes_lifted (os : Os) (started : os.Started) (H : Type) (enc : TypeId × Value → H) :
    ReturnsInHanded {} Try.checked os 5 .any (Rows.soundTimesSpec.pre6 enc Try.prog Try.f5 Rows.soundTimesRow.domain false) (Rows.soundTimesSpec.post enc Try.prog Try.f5 false true false false) := by
  refine returnsInHanded_of_change (C := Try.checked) own started (by kernel_rfl) Try.func5
    (ChangeSpec.witness6 (enc := enc) (C := Try.checked) false ⟨#[], #[.agg #[.int .i64 0, .int .i64 0, .int .i64 0, .int .i64 0, .int .i64 0, .int .i64 0, .int .i64 0, .int .i64 0, .int .i64 0, .int .i64 0, .int .i64 0], .agg #[.int .i64 0, .int .i64 0, .int .i64 0], .int .i64 0], []⟩ 8 (by kernel_rfl) (by kernel_rfl) (by kernel_rfl) (by kernel_rfl)) ?_
  intro W base args ds gs before hval0 hW hcnd _
  have hval : ∀ (j : Nat) t v, Try.f5.params[j]? = some t → args[j]? = some v → Value.okWide Try.prog W .any base t v := hval0
  have hW' := hW
  obtain ⟨p, q, hA0, hV, rfl, hfz, hnd⟩ := hW
  have hA : DataW.TrodAll enc Try.prog W 0 (fun _ => true) true Try.f5.params.toList args.toList ds p := hA0
  rw [Try.params5] at hA hval
  obtain ⟨v0, vs0, d0, ds0, p0, q0, hargs, rfl, rfl, h0, r0⟩ := trodAll_cons hA
  obtain ⟨v1, vs1, d1, ds1, p1, q1, rfl, rfl, rfl, h1, r1⟩ := trodAll_cons r0
  obtain ⟨v2, vs2, d2, ds2, p2, q2, rfl, rfl, rfl, h2, r2⟩ := trodAll_cons r1
  obtain ⟨rfl, rfl, rfl⟩ := trodAll_nil r2
  obtain rfl : args = #[v0, v1, v2] := by cases args; simp_all
  obtain ⟨rfl, rfl⟩ := trodVars_none hV
  obtain ⟨rfl, ns0, rfl, l0⟩ := open_flat Try.underlying41 (by kernel_rfl) (hval 0 41 v0 rfl rfl) h0
  rw [show Try.prog.cellsOf 41 = 11 from by kernel_rfl] at l0
  obtain ⟨x0_0, x0_1, x0_2, x0_3, x0_4, x0_5, x0_6, x0_7, x0_8, x0_9, x0_10, rfl⟩ := soundTimes_len11 l0
  obtain ⟨rfl, ns1, rfl, l1⟩ := open_flat Try.underlying24 (by kernel_rfl) (hval 1 24 v1 rfl rfl) h1
  rw [show Try.prog.cellsOf 24 = 3 from by kernel_rfl] at l1
  obtain ⟨x1_0, x1_1, x1_2, rfl⟩ := soundTimes_len3 l1
  obtain ⟨x2, rfl, rfl, rfl, w2⟩ := open_int Try.underlying3 (hval 2 3 v2 rfl rfl) h2
  clear hA0 hval0 hval hA
  simp only [List.append_nil] at hW'
  have hC : Con Try.prog 5 [.a ([x0_0, x0_1, x0_2, x0_3, x0_4, x0_5, x0_6, x0_7, x0_8, x0_9, x0_10].map iv), .a ([x1_0, x1_1, x1_2].map iv), iv x2] [] (.v (.bool true)) [] := by
    have h := C5 (((x0_0, x0_1, x0_2), (x0_3, x0_4, x0_5), (x0_6, x0_7, x0_8)), x0_9, x0_10) (x1_0, x1_1, x1_2) x2
    rw [law_times] at h
    exact h
  refine (law_calls (vs := [.agg ([x0_0, x0_1, x0_2, x0_3, x0_4, x0_5, x0_6, x0_7, x0_8, x0_9, x0_10].map (Value.int .i64)).toArray, .agg ([x1_0, x1_1, x1_2].map (Value.int .i64)).toArray, .int .i64 x2]) hC ⟨rel_agg [x0_0, x0_1, x0_2, x0_3, x0_4, x0_5, x0_6, x0_7, x0_8, x0_9, x0_10], rel_agg [x1_0, x1_1, x1_2], rfl, trivial⟩ W).mono fun e W' ⟨he, hb⟩ => ?_
  subst he
  exact ⟨_, rfl, post_below (before := []) hW' hb (fun _ _ _ => (all_mk (shut_bool Try.underlying4 _) trodAll_mk0)) (all_mk (Below.trod laidOut (by kernel_rfl) (of_decide_eq_true (by kernel_rfl)) h0 hb (fun x hx => by cases hx)) (all_mk (Below.trod laidOut (by kernel_rfl) (of_decide_eq_true (by kernel_rfl)) h1 hb (fun x hx => by cases hx)) (all_mk (Below.trod laidOut (by kernel_rfl) (of_decide_eq_true (by kernel_rfl)) h2 hb (fun x hx => by cases hx)) trodAll_mk0))) rfl⟩
theorem soundTimes_over : Rows.soundTimesRow.holds Try.pinned (OpenSpec.ofChange Rows.soundTimesSpec) :=
  OpenClaim.holds_of_wide 5 Try.f5 rfl rfl rfl rfl rfl rfl rfl ⟨rfl, rfl, rfl, rfl, rfl⟩ rfl rfl rfl rfl rfl (by kernel_rfl) Try.func5 (by kernel_rfl)
    (of_decide_eq_true (by kernel_rfl)) (by unfold Func.isWrapper; first | (rw [if_pos (by decide +kernel)]; kernel_rfl) | (rw [if_neg (by decide +kernel)]; exact ⟨rfl, rfl⟩))
    (fun os started H enc _ => soundTimes_lifted os started H enc)
/-- THE STATEMENT -/
theorem soundTimes_proved : Rows.SoundTimesSaid :=
  soundTimes_over

end Go.Proofs.Ytopbnnmkdildgaa
