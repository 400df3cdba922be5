/-
  FieldAdds: for every two lists of charged panels, point and depth the law returns true, and its arguments read behind the call as they read before. No condition.
-/
import Derived.Test.YtopbnnmkdildgaaU5
import Derived.ProofKit
namespace Go.Proofs.Ytopbnnmkdildgaa
open Go.Proofs Go.Aw Go.RowKit
set_option maxRecDepth 100000
set_option linter.unusedVariables false
set_option linter.unusedSimpArgs false

theorem long_le {l : List (PN × Int)} (h : F13_L l = false) : l.length ≤ 150 := by
  unfold F13_L at h
  have := of_decide_eq_false h
  omega

/-- facet/facetlaw03.FieldAdds at ('L', 'L') -/
def F3_L_L (a0 : List (((Int × Int × Int) × (Int × Int × Int) × Int × Int × Int) × Int)) (a1 : List (((Int × Int × Int) × (Int × Int × Int) × Int × Int × Int) × Int)) (a2 : ((Int × Int × Int) × (Int × Int × Int) × Int × Int × Int) × (Int × Int × Int) × Int) : Bool :=
  (bif (F13_L a0) then
   F14
  else
   (bif (F13_L a1) then
    F14
   else
    (bif (((F15_L a0 a2.2.1 a2.2.2).2 : Int) != 0) then
     F14
    else
     (bif (((F15_L a1 a2.2.1 a2.2.2).2 : Int) != 0) then
      F14
     else
      (bif (((F15_L ((([] : List (((Int × Int × Int) × (Int × Int × Int) × Int × Int × Int) × Int)) ++ a0) ++ a1) a2.2.1 a2.2.2).2 : Int) != 0) then
       F14
      else
       (bif (((F15_L ((([] : List (((Int × Int × Int) × (Int × Int × Int) × Int × Int × Int) × Int)) ++ a0) ++ a1) a2.2.1 a2.2.2).1.1 : Int) == (W ((F15_L a0 a2.2.1 a2.2.2).1.1 + (F15_L a1 a2.2.1 a2.2.2).1.1))) then
        (bif (((F15_L ((([] : List (((Int × Int × Int) × (Int × Int × Int) × Int × Int × Int) × Int)) ++ a0) ++ a1) a2.2.1 a2.2.2).1.2 : Int) == (W ((F15_L a0 a2.2.1 a2.2.2).1.2 + (F15_L a1 a2.2.1 a2.2.2).1.2))) then
         F14
        else
         false)
       else
        false))))))

noncomputable def oC3_L_L_0 (a0 : List (((Int × Int × Int) × (Int × Int × Int) × Int × Int × Int) × Int)) : Ob := .call 13 [(.s 0 0 a0.length 10)] [(.live false true (flat c76 a0))] (.v (.bool (F13_L a0))) []
noncomputable def oC3_L_L_1 (a1 : List (((Int × Int × Int) × (Int × Int × Int) × Int × Int × Int) × Int)) : Ob := .call 13 [(.s 0 0 a1.length 10)] [(.live false true (flat c76 a1))] (.v (.bool (F13_L a1))) []
noncomputable def oC3_L_L_2 (a0 : List (((Int × Int × Int) × (Int × Int × Int) × Int × Int × Int) × Int)) (a2 : ((Int × Int × Int) × (Int × Int × Int) × Int × Int × Int) × (Int × Int × Int) × Int) : Or := .call [0] (.t [(.a (k2 (F15_L a0 a2.2.1 a2.2.2).1)), (iv (F15_L a0 a2.2.1 a2.2.2).2)]) []
noncomputable def oC3_L_L_3 (a1 : List (((Int × Int × Int) × (Int × Int × Int) × Int × Int × Int) × Int)) (a2 : ((Int × Int × Int) × (Int × Int × Int) × Int × Int × Int) × (Int × Int × Int) × Int) : Or := .call [1] (.t [(.a (k2 (F15_L a1 a2.2.1 a2.2.2).1)), (iv (F15_L a1 a2.2.1 a2.2.2).2)]) []
noncomputable def oC3_L_L_4 (a0 : List (((Int × Int × Int) × (Int × Int × Int) × Int × Int × Int) × Int)) (a1 : List (((Int × Int × Int) × (Int × Int × Int) × Int × Int × Int) × Int)) (a2 : ((Int × Int × Int) × (Int × Int × Int) × Int × Int × Int) × (Int × Int × Int) × Int) : Or := .call [7] (.t [(.a (k2 (F15_L ((([] : List (((Int × Int × Int) × (Int × Int × Int) × Int × Int × Int) × Int)) ++ a0) ++ a1) a2.2.1 a2.2.2).1)), (iv (F15_L ((([] : List (((Int × Int × Int) × (Int × Int × Int) × Int × Int × Int) × Int)) ++ a0) ++ a1) a2.2.1 a2.2.2).2)]) []
noncomputable def oC3_L_L_5 (a0 : List (((Int × Int × Int) × (Int × Int × Int) × Int × Int × Int) × Int)) (a2 : ((Int × Int × Int) × (Int × Int × Int) × Int × Int × Int) × (Int × Int × Int) × Int) : Ob := .call 15 [(.s 0 0 a0.length 10), (.a (k3 a2.2.1)), (iv a2.2.2)] [(.live false true (flat c76 a0))] (.t [(.a (k2 (F15_L a0 a2.2.1 a2.2.2).1)), (iv (F15_L a0 a2.2.1 a2.2.2).2)]) []
noncomputable def oC3_L_L_6 (a1 : List (((Int × Int × Int) × (Int × Int × Int) × Int × Int × Int) × Int)) (a2 : ((Int × Int × Int) × (Int × Int × Int) × Int × Int × Int) × (Int × Int × Int) × Int) : Ob := .call 15 [(.s 0 0 a1.length 10), (.a (k3 a2.2.1)), (iv a2.2.2)] [(.live false true (flat c76 a1))] (.t [(.a (k2 (F15_L a1 a2.2.1 a2.2.2).1)), (iv (F15_L a1 a2.2.1 a2.2.2).2)]) []
noncomputable def oC3_L_L_7 (a0 : List (((Int × Int × Int) × (Int × Int × Int) × Int × Int × Int) × Int)) : Ob := .pr (([] : List SV).length = 0 * 10 ∧ (flat c76 a0).length = a0.length * 10 ∧ (flat c76 a0).all SV.one = true ∧ 0 + a0.length ≤ 2 ^ 40 ∧ (0 + a0.length) * 80 ≤ 2 ^ 47)
noncomputable def oC3_L_L_8 (a0 : List (((Int × Int × Int) × (Int × Int × Int) × Int × Int × Int) × Int)) (a1 : List (((Int × Int × Int) × (Int × Int × Int) × Int × Int × Int) × Int)) : Ob := .pr ((([] : List SV) ++ (flat c76 a0)).length = (0 + a0.length) * 10 ∧ (flat c76 a1).length = a1.length * 10 ∧ (flat c76 a1).all SV.one = true ∧ (0 + a0.length) + a1.length ≤ 2 ^ 40 ∧ ((0 + a0.length) + a1.length) * 80 ≤ 2 ^ 47)
noncomputable def oC3_L_L_9 (a0 : List (((Int × Int × Int) × (Int × Int × Int) × Int × Int × Int) × Int)) (a1 : List (((Int × Int × Int) × (Int × Int × Int) × Int × Int × Int) × Int)) (a2 : ((Int × Int × Int) × (Int × Int × Int) × Int × Int × Int) × (Int × Int × Int) × Int) : Ob := .call 15 [(.s 0 0 ((0 + a0.length) + a1.length) 10), (.a (k3 a2.2.1)), (iv a2.2.2)] [(.live false true ((([] : List SV) ++ (flat c76 a0)) ++ (flat c76 a1)))] (.t [(.a (k2 (F15_L ((([] : List (((Int × Int × Int) × (Int × Int × Int) × Int × Int × Int) × Int)) ++ a0) ++ a1) a2.2.1 a2.2.2).1)), (iv (F15_L ((([] : List (((Int × Int × Int) × (Int × Int × Int) × Int × Int × Int) × Int)) ++ a0) ++ a1) a2.2.1 a2.2.2).2)]) []
noncomputable def oC3_L_L_10 (a0 : List (((Int × Int × Int) × (Int × Int × Int) × Int × Int × Int) × Int)) (a1 : List (((Int × Int × Int) × (Int × Int × Int) × Int × Int × Int) × Int)) (a2 : ((Int × Int × Int) × (Int × Int × Int) × Int × Int × Int) × (Int × Int × Int) × Int) : Ob := .eq (((F15_L ((([] : List (((Int × Int × Int) × (Int × Int × Int) × Int × Int × Int) × Int)) ++ a0) ++ a1) a2.2.1 a2.2.2).2 : Int) != 0) false
noncomputable def oC3_L_L_11 (a0 : List (((Int × Int × Int) × (Int × Int × Int) × Int × Int × Int) × Int)) (a1 : List (((Int × Int × Int) × (Int × Int × Int) × Int × Int × Int) × Int)) (a2 : ((Int × Int × Int) × (Int × Int × Int) × Int × Int × Int) × (Int × Int × Int) × Int) : Ob := .eq (((F15_L ((([] : List (((Int × Int × Int) × (Int × Int × Int) × Int × Int × Int) × Int)) ++ a0) ++ a1) a2.2.1 a2.2.2).1.1 : Int) == (W ((F15_L a0 a2.2.1 a2.2.2).1.1 + (F15_L a1 a2.2.1 a2.2.2).1.1))) true
theorem C3_L_L (a0 : List (((Int × Int × Int) × (Int × Int × Int) × Int × Int × Int) × Int)) (a1 : List (((Int × Int × Int) × (Int × Int × Int) × Int × Int × Int) × Int)) (a2 : ((Int × Int × Int) × (Int × Int × Int) × Int × Int × Int) × (Int × Int × Int) × Int) (l0 : a0.length ≤ 9223372036854775807) (l1 : a1.length ≤ 9223372036854775807) : Con Try.prog 3 [(.s 0 0 a0.length 10), (.s 1 0 a1.length 10), (.a [(iv a2.1.1.1), (iv a2.1.1.2.1), (iv a2.1.1.2.2), (iv a2.1.2.1.1), (iv a2.1.2.1.2.1), (iv a2.1.2.1.2.2), (iv a2.1.2.2.1), (iv a2.1.2.2.2.1), (iv a2.1.2.2.2.2), (iv a2.2.1.1), (iv a2.2.1.2.1), (iv a2.2.1.2.2), (iv a2.2.2)])] [(.live false true (flat c76 a0)), (.live false true (flat c76 a1))] (.v (.bool (F3_L_L a0 a1 a2))) [] := by
  cases h0 : (F13_L a0) with
  | true =>
    try have hl0 := long_le h0
    try have hl1 := long_le h1
    have e : (F3_L_L a0 a1 a2) = F14 := by simp only [F3_L_L, h0, cond_true, cond_false]
    rw [e]
    refine con_of (n := 9) Try.func3 rfl (ent Try.func3 (by kernel_rfl) rfl) (by show 3 ≤ Try.f3.ntmps; decide) (by kernel_rfl) ⟨rfl, rfl, trivial⟩ (fun cx hcx => ?_)
    exact ret_of (T := T0) hT hm (f := 5000) (orc := [.call [0] (.v (.bool (F13_L a0))) [], .d true, .call [] (.v (.bool F14)) []]) [] [] [] hcx
      (obs := [(oC3_L_L_0 a0), .eq (F13_L a0) true, .call 14 [] [] (.v (.bool F14)) []]) (by kernel_rfl) ⟨(C13_L a0 (by (try simp only [List.length_append, List.length_cons, List.length_nil, Int.toNat_zero]); omega)), h0, (C14), trivial⟩
  | false =>
    cases h1 : (F13_L a1) with
    | true =>
      try have hl0 := long_le h0
      try have hl1 := long_le h1
      have e : (F3_L_L a0 a1 a2) = F14 := by simp only [F3_L_L, h0, h1, cond_true, cond_false]
      rw [e]
      refine con_of (n := 9) Try.func3 rfl (ent Try.func3 (by kernel_rfl) rfl) (by show 3 ≤ Try.f3.ntmps; decide) (by kernel_rfl) ⟨rfl, rfl, trivial⟩ (fun cx hcx => ?_)
      exact ret_of (T := T0) hT hm (f := 5000) (orc := [.call [0] (.v (.bool (F13_L a0))) [], .d false, .call [1] (.v (.bool (F13_L a1))) [], .d true, .call [] (.v (.bool F14)) []]) [] [] [] hcx
        (obs := [(oC3_L_L_0 a0), .eq (F13_L a0) false, (oC3_L_L_1 a1), .eq (F13_L a1) true, .call 14 [] [] (.v (.bool F14)) []]) (by kernel_rfl) ⟨(C13_L a0 (by (try simp only [List.length_append, List.length_cons, List.length_nil, Int.toNat_zero]); omega)), h0, (C13_L a1 (by (try simp only [List.length_append, List.length_cons, List.length_nil, Int.toNat_zero]); omega)), h1, (C14), trivial⟩
    | false =>
      cases h2 : (((F15_L a0 a2.2.1 a2.2.2).2 : Int) != 0) with
      | true =>
        have q2 := bne_iff_ne.1 h2
        try have hl0 := long_le h0
        try have hl1 := long_le h1
        have e : (F3_L_L a0 a1 a2) = F14 := by simp only [F3_L_L, h0, h1, h2, cond_true, cond_false]
        rw [e]
        refine con_of (n := 9) Try.func3 rfl (ent Try.func3 (by kernel_rfl) rfl) (by show 3 ≤ Try.f3.ntmps; decide) (by kernel_rfl) ⟨rfl, rfl, trivial⟩ (fun cx hcx => ?_)
        exact ret_of (T := T0) hT hm (f := 5000) (orc := [.call [0] (.v (.bool (F13_L a0))) [], .d false, .call [1] (.v (.bool (F13_L a1))) [], .d false, (oC3_L_L_2 a0 a2), (oC3_L_L_3 a1 a2), (oC3_L_L_4 a0 a1 a2), .d true, .call [] (.v (.bool F14)) []]) [] [] [] hcx
          (obs := [(oC3_L_L_0 a0), .eq (F13_L a0) false, (oC3_L_L_1 a1), .eq (F13_L a1) false, (oC3_L_L_5 a0 a2), (oC3_L_L_6 a1 a2), (oC3_L_L_7 a0), (oC3_L_L_8 a0 a1), (oC3_L_L_9 a0 a1 a2), .eq (((F15_L a0 a2.2.1 a2.2.2).2 : Int) != 0) true, .call 14 [] [] (.v (.bool F14)) []]) (by kernel_rfl) ⟨(C13_L a0 (by (try simp only [List.length_append, List.length_cons, List.length_nil, Int.toNat_zero]); omega)), h0, (C13_L a1 (by (try simp only [List.length_append, List.length_cons, List.length_nil, Int.toNat_zero]); omega)), h1, (C15_L a0 a2.2.1 a2.2.2 (by (try simp only [List.length_append, List.length_cons, List.length_nil, Int.toNat_zero]); omega)), (C15_L a1 a2.2.1 a2.2.2 (by (try simp only [List.length_append, List.length_cons, List.length_nil, Int.toNat_zero]); omega)), (show (([] : List SV).length = 0 * 10 ∧ (flat c76 a0).length = a0.length * 10 ∧ (flat c76 a0).all SV.one = true ∧ 0 + a0.length ≤ 2 ^ 40 ∧ (0 + a0.length) * 80 ≤ 2 ^ 47) from by refine ⟨?_, ?_, ?_, ?_, ?_⟩ <;> first | omega | exact flat_one (fun _ => rfl) | (simp [flat_lenc c76_len]; done) | (simp [flat_lenc c76_len]; omega)), (show ((([] : List SV) ++ (flat c76 a0)).length = (0 + a0.length) * 10 ∧ (flat c76 a1).length = a1.length * 10 ∧ (flat c76 a1).all SV.one = true ∧ (0 + a0.length) + a1.length ≤ 2 ^ 40 ∧ ((0 + a0.length) + a1.length) * 80 ≤ 2 ^ 47) from by refine ⟨?_, ?_, ?_, ?_, ?_⟩ <;> first | omega | exact flat_one (fun _ => rfl) | (simp [flat_lenc c76_len]; done) | (simp [flat_lenc c76_len]; omega)), (by have q := (C15_L ((([] : List (((Int × Int × Int) × (Int × Int × Int) × Int × Int × Int) × Int)) ++ a0) ++ a1) a2.2.1 a2.2.2 (by (try simp only [List.length_append, List.length_cons, List.length_nil, Int.toNat_zero]); omega)); rw [show flat c76 ((([] : List (((Int × Int × Int) × (Int × Int × Int) × Int × Int × Int) × Int)) ++ a0) ++ a1) = ((([] : List SV) ++ (flat c76 a0)) ++ (flat c76 a1)) from by simp [flat], show ((([] : List (((Int × Int × Int) × (Int × Int × Int) × Int × Int × Int) × Int)) ++ a0) ++ a1).length = ((0 + a0.length) + a1.length) from by simp] at q; exact q), h2, (C14), trivial⟩
      | false =>
        cases h3 : (((F15_L a1 a2.2.1 a2.2.2).2 : Int) != 0) with
        | true =>
          have q2 := bne_eq_false_iff_eq.1 h2
          have q3 := bne_iff_ne.1 h3
          try have hl0 := long_le h0
          try have hl1 := long_le h1
          have e : (F3_L_L a0 a1 a2) = F14 := by simp only [F3_L_L, h0, h1, h2, h3, cond_true, cond_false]
          rw [e]
          refine con_of (n := 9) Try.func3 rfl (ent Try.func3 (by kernel_rfl) rfl) (by show 3 ≤ Try.f3.ntmps; decide) (by kernel_rfl) ⟨rfl, rfl, trivial⟩ (fun cx hcx => ?_)
          exact ret_of (T := T0) hT hm (f := 5000) (orc := [.call [0] (.v (.bool (F13_L a0))) [], .d false, .call [1] (.v (.bool (F13_L a1))) [], .d false, (oC3_L_L_2 a0 a2), (oC3_L_L_3 a1 a2), (oC3_L_L_4 a0 a1 a2), .d false, .d true, .call [] (.v (.bool F14)) []]) [] [] [] hcx
            (obs := [(oC3_L_L_0 a0), .eq (F13_L a0) false, (oC3_L_L_1 a1), .eq (F13_L a1) false, (oC3_L_L_5 a0 a2), (oC3_L_L_6 a1 a2), (oC3_L_L_7 a0), (oC3_L_L_8 a0 a1), (oC3_L_L_9 a0 a1 a2), .eq (((F15_L a0 a2.2.1 a2.2.2).2 : Int) != 0) false, .eq (((F15_L a1 a2.2.1 a2.2.2).2 : Int) != 0) true, .call 14 [] [] (.v (.bool F14)) []]) (by kernel_rfl) ⟨(C13_L a0 (by (try simp only [List.length_append, List.length_cons, List.length_nil, Int.toNat_zero]); omega)), h0, (C13_L a1 (by (try simp only [List.length_append, List.length_cons, List.length_nil, Int.toNat_zero]); omega)), h1, (C15_L a0 a2.2.1 a2.2.2 (by (try simp only [List.length_append, List.length_cons, List.length_nil, Int.toNat_zero]); omega)), (C15_L a1 a2.2.1 a2.2.2 (by (try simp only [List.length_append, List.length_cons, List.length_nil, Int.toNat_zero]); omega)), (show (([] : List SV).length = 0 * 10 ∧ (flat c76 a0).length = a0.length * 10 ∧ (flat c76 a0).all SV.one = true ∧ 0 + a0.length ≤ 2 ^ 40 ∧ (0 + a0.length) * 80 ≤ 2 ^ 47) from by refine ⟨?_, ?_, ?_, ?_, ?_⟩ <;> first | omega | exact flat_one (fun _ => rfl) | (simp [flat_lenc c76_len]; done) | (simp [flat_lenc c76_len]; omega)), (show ((([] : List SV) ++ (flat c76 a0)).length = (0 + a0.length) * 10 ∧ (flat c76 a1).length = a1.length * 10 ∧ (flat c76 a1).all SV.one = true ∧ (0 + a0.length) + a1.length ≤ 2 ^ 40 ∧ ((0 + a0.length) + a1.length) * 80 ≤ 2 ^ 47) from by refine ⟨?_, ?_, ?_, ?_, ?_⟩ <;> first | omega | exact flat_one (fun _ => rfl) | (simp [flat_lenc c76_len]; done) | (simp [flat_lenc c76_len]; omega)), (by have q := (C15_L ((([] : List (((Int × Int × Int) × (Int × Int × Int) × Int × Int × Int) × Int)) ++ a0) ++ a1) a2.2.1 a2.2.2 (by (try simp only [List.length_append, List.length_cons, List.length_nil, Int.toNat_zero]); omega)); rw [show flat c76 ((([] : List (((Int × Int × Int) × (Int × Int × Int) × Int × Int × Int) × Int)) ++ a0) ++ a1) = ((([] : List SV) ++ (flat c76 a0)) ++ (flat c76 a1)) from by simp [flat], show ((([] : List (((Int × Int × Int) × (Int × Int × Int) × Int × Int × Int) × Int)) ++ a0) ++ a1).length = ((0 + a0.length) + a1.length) from by simp] at q; exact q), h2, h3, (C14), trivial⟩
        | false =>
          cases h4 : (((F15_L ((([] : List (((Int × Int × Int) × (Int × Int × Int) × Int × Int × Int) × Int)) ++ a0) ++ a1) a2.2.1 a2.2.2).2 : Int) != 0) with
          | true =>
            have q2 := bne_eq_false_iff_eq.1 h2
            have q3 := bne_eq_false_iff_eq.1 h3
            have q4 := bne_iff_ne.1 h4
            try have hl0 := long_le h0
            try have hl1 := long_le h1
            have e : (F3_L_L a0 a1 a2) = F14 := by simp only [F3_L_L, h0, h1, h2, h3, h4, cond_true, cond_false]
            rw [e]
            refine con_of (n := 9) Try.func3 rfl (ent Try.func3 (by kernel_rfl) rfl) (by show 3 ≤ Try.f3.ntmps; decide) (by kernel_rfl) ⟨rfl, rfl, trivial⟩ (fun cx hcx => ?_)
            exact ret_of (T := T0) hT hm (f := 5000) (orc := [.call [0] (.v (.bool (F13_L a0))) [], .d false, .call [1] (.v (.bool (F13_L a1))) [], .d false, (oC3_L_L_2 a0 a2), (oC3_L_L_3 a1 a2), (oC3_L_L_4 a0 a1 a2), .d false, .d false, .d true, .call [] (.v (.bool F14)) []]) [] [] [] hcx
              (obs := [(oC3_L_L_0 a0), .eq (F13_L a0) false, (oC3_L_L_1 a1), .eq (F13_L a1) false, (oC3_L_L_5 a0 a2), (oC3_L_L_6 a1 a2), (oC3_L_L_7 a0), (oC3_L_L_8 a0 a1), (oC3_L_L_9 a0 a1 a2), .eq (((F15_L a0 a2.2.1 a2.2.2).2 : Int) != 0) false, .eq (((F15_L a1 a2.2.1 a2.2.2).2 : Int) != 0) false, .eq (((F15_L ((([] : List (((Int × Int × Int) × (Int × Int × Int) × Int × Int × Int) × Int)) ++ a0) ++ a1) a2.2.1 a2.2.2).2 : Int) != 0) true, .call 14 [] [] (.v (.bool F14)) []]) (by kernel_rfl) ⟨(C13_L a0 (by (try simp only [List.length_append, List.length_cons, List.length_nil, Int.toNat_zero]); omega)), h0, (C13_L a1 (by (try simp only [List.length_append, List.length_cons, List.length_nil, Int.toNat_zero]); omega)), h1, (C15_L a0 a2.2.1 a2.2.2 (by (try simp only [List.length_append, List.length_cons, List.length_nil, Int.toNat_zero]); omega)), (C15_L a1 a2.2.1 a2.2.2 (by (try simp only [List.length_append, List.length_cons, List.length_nil, Int.toNat_zero]); omega)), (show (([] : List SV).length = 0 * 10 ∧ (flat c76 a0).length = a0.length * 10 ∧ (flat c76 a0).all SV.one = true ∧ 0 + a0.length ≤ 2 ^ 40 ∧ (0 + a0.length) * 80 ≤ 2 ^ 47) from by refine ⟨?_, ?_, ?_, ?_, ?_⟩ <;> first | omega | exact flat_one (fun _ => rfl) | (simp [flat_lenc c76_len]; done) | (simp [flat_lenc c76_len]; omega)), (show ((([] : List SV) ++ (flat c76 a0)).length = (0 + a0.length) * 10 ∧ (flat c76 a1).length = a1.length * 10 ∧ (flat c76 a1).all SV.one = true ∧ (0 + a0.length) + a1.length ≤ 2 ^ 40 ∧ ((0 + a0.length) + a1.length) * 80 ≤ 2 ^ 47) from by refine ⟨?_, ?_, ?_, ?_, ?_⟩ <;> first | omega | exact flat_one (fun _ => rfl) | (simp [flat_lenc c76_len]; done) | (simp [flat_lenc c76_len]; omega)), (by have q := (C15_L ((([] : List (((Int × Int × Int) × (Int × Int × Int) × Int × Int × Int) × Int)) ++ a0) ++ a1) a2.2.1 a2.2.2 (by (try simp only [List.length_append, List.length_cons, List.length_nil, Int.toNat_zero]); omega)); rw [show flat c76 ((([] : List (((Int × Int × Int) × (Int × Int × Int) × Int × Int × Int) × Int)) ++ a0) ++ a1) = ((([] : List SV) ++ (flat c76 a0)) ++ (flat c76 a1)) from by simp [flat], show ((([] : List (((Int × Int × Int) × (Int × Int × Int) × Int × Int × Int) × Int)) ++ a0) ++ a1).length = ((0 + a0.length) + a1.length) from by simp] at q; exact q), h2, h3, h4, (C14), trivial⟩
          | false =>
            cases h5 : (((F15_L ((([] : List (((Int × Int × Int) × (Int × Int × Int) × Int × Int × Int) × Int)) ++ a0) ++ a1) a2.2.1 a2.2.2).1.1 : Int) == (W ((F15_L a0 a2.2.1 a2.2.2).1.1 + (F15_L a1 a2.2.1 a2.2.2).1.1))) with
            | true =>
              cases h6 : (((F15_L ((([] : List (((Int × Int × Int) × (Int × Int × Int) × Int × Int × Int) × Int)) ++ a0) ++ a1) a2.2.1 a2.2.2).1.2 : Int) == (W ((F15_L a0 a2.2.1 a2.2.2).1.2 + (F15_L a1 a2.2.1 a2.2.2).1.2))) with
              | true =>
                have q2 := bne_eq_false_iff_eq.1 h2
                have q3 := bne_eq_false_iff_eq.1 h3
                have q4 := bne_eq_false_iff_eq.1 h4
                have q5 := eq_of_beq h5
                have q6 := eq_of_beq h6
                try have hl0 := long_le h0
                try have hl1 := long_le h1
                have e : (F3_L_L a0 a1 a2) = F14 := by simp only [F3_L_L, h0, h1, h2, h3, h4, h5, h6, cond_true, cond_false]
                rw [e]
                refine con_of (n := 9) Try.func3 rfl (ent Try.func3 (by kernel_rfl) rfl) (by show 3 ≤ Try.f3.ntmps; decide) (by kernel_rfl) ⟨rfl, rfl, trivial⟩ (fun cx hcx => ?_)
                exact ret_of (T := T0) hT hm (f := 5000) (orc := [.call [0] (.v (.bool (F13_L a0))) [], .d false, .call [1] (.v (.bool (F13_L a1))) [], .d false, (oC3_L_L_2 a0 a2), (oC3_L_L_3 a1 a2), (oC3_L_L_4 a0 a1 a2), .d false, .d false, .d false, .d true, .d true, .call [] (.v (.bool F14)) []]) [] [] [] hcx
                  (obs := [(oC3_L_L_0 a0), .eq (F13_L a0) false, (oC3_L_L_1 a1), .eq (F13_L a1) false, (oC3_L_L_5 a0 a2), (oC3_L_L_6 a1 a2), (oC3_L_L_7 a0), (oC3_L_L_8 a0 a1), (oC3_L_L_9 a0 a1 a2), .eq (((F15_L a0 a2.2.1 a2.2.2).2 : Int) != 0) false, .eq (((F15_L a1 a2.2.1 a2.2.2).2 : Int) != 0) false, (oC3_L_L_10 a0 a1 a2), (oC3_L_L_11 a0 a1 a2), .eq (((F15_L ((([] : List (((Int × Int × Int) × (Int × Int × Int) × Int × Int × Int) × Int)) ++ a0) ++ a1) a2.2.1 a2.2.2).1.2 : Int) == (W ((F15_L a0 a2.2.1 a2.2.2).1.2 + (F15_L a1 a2.2.1 a2.2.2).1.2))) true, .call 14 [] [] (.v (.bool F14)) []]) (by kernel_rfl) ⟨(C13_L a0 (by (try simp only [List.length_append, List.length_cons, List.length_nil, Int.toNat_zero]); omega)), h0, (C13_L a1 (by (try simp only [List.length_append, List.length_cons, List.length_nil, Int.toNat_zero]); omega)), h1, (C15_L a0 a2.2.1 a2.2.2 (by (try simp only [List.length_append, List.length_cons, List.length_nil, Int.toNat_zero]); omega)), (C15_L a1 a2.2.1 a2.2.2 (by (try simp only [List.length_append, List.length_cons, List.length_nil, Int.toNat_zero]); omega)), (show (([] : List SV).length = 0 * 10 ∧ (flat c76 a0).length = a0.length * 10 ∧ (flat c76 a0).all SV.one = true ∧ 0 + a0.length ≤ 2 ^ 40 ∧ (0 + a0.length) * 80 ≤ 2 ^ 47) from by refine ⟨?_, ?_, ?_, ?_, ?_⟩ <;> first | omega | exact flat_one (fun _ => rfl) | (simp [flat_lenc c76_len]; done) | (simp [flat_lenc c76_len]; omega)), (show ((([] : List SV) ++ (flat c76 a0)).length = (0 + a0.length) * 10 ∧ (flat c76 a1).length = a1.length * 10 ∧ (flat c76 a1).all SV.one = true ∧ (0 + a0.length) + a1.length ≤ 2 ^ 40 ∧ ((0 + a0.length) + a1.length) * 80 ≤ 2 ^ 47) from by refine ⟨?_, ?_, ?_, ?_, ?_⟩ <;> first | omega | exact flat_one (fun _ => rfl) | (simp [flat_lenc c76_len]; done) | (simp [flat_lenc c76_len]; omega)), (by have q := (C15_L ((([] : List (((Int × Int × Int) × (Int × Int × Int) × Int × Int × Int) × Int)) ++ a0) ++ a1) a2.2.1 a2.2.2 (by (try simp only [List.length_append, List.length_cons, List.length_nil, Int.toNat_zero]); omega)); rw [show flat c76 ((([] : List (((Int × Int × Int) × (Int × Int × Int) × Int × Int × Int) × Int)) ++ a0) ++ a1) = ((([] : List SV) ++ (flat c76 a0)) ++ (flat c76 a1)) from by simp [flat], show ((([] : List (((Int × Int × Int) × (Int × Int × Int) × Int × Int × Int) × Int)) ++ a0) ++ a1).length = ((0 + a0.length) + a1.length) from by simp] at q; exact q), h2, h3, h4, h5, h6, (C14), trivial⟩
              | false =>
                have q2 := bne_eq_false_iff_eq.1 h2
                have q3 := bne_eq_false_iff_eq.1 h3
                have q4 := bne_eq_false_iff_eq.1 h4
                have q5 := eq_of_beq h5
                have q6 := ne_of_beq_false h6
                try have hl0 := long_le h0
                try have hl1 := long_le h1
                have e : (F3_L_L a0 a1 a2) = false := by simp only [F3_L_L, h0, h1, h2, h3, h4, h5, h6, cond_true, cond_false]
                rw [e]
                refine con_of (n := 9) Try.func3 rfl (ent Try.func3 (by kernel_rfl) rfl) (by show 3 ≤ Try.f3.ntmps; decide) (by kernel_rfl) ⟨rfl, rfl, trivial⟩ (fun cx hcx => ?_)
                exact ret_of (T := T0) hT hm (f := 5000) (orc := [.call [0] (.v (.bool (F13_L a0))) [], .d false, .call [1] (.v (.bool (F13_L a1))) [], .d false, (oC3_L_L_2 a0 a2), (oC3_L_L_3 a1 a2), (oC3_L_L_4 a0 a1 a2), .d false, .d false, .d false, .d true, .d false]) [] [] [] hcx
                  (obs := [(oC3_L_L_0 a0), .eq (F13_L a0) false, (oC3_L_L_1 a1), .eq (F13_L a1) false, (oC3_L_L_5 a0 a2), (oC3_L_L_6 a1 a2), (oC3_L_L_7 a0), (oC3_L_L_8 a0 a1), (oC3_L_L_9 a0 a1 a2), .eq (((F15_L a0 a2.2.1 a2.2.2).2 : Int) != 0) false, .eq (((F15_L a1 a2.2.1 a2.2.2).2 : Int) != 0) false, (oC3_L_L_10 a0 a1 a2), (oC3_L_L_11 a0 a1 a2), .eq (((F15_L ((([] : List (((Int × Int × Int) × (Int × Int × Int) × Int × Int × Int) × Int)) ++ a0) ++ a1) a2.2.1 a2.2.2).1.2 : Int) == (W ((F15_L a0 a2.2.1 a2.2.2).1.2 + (F15_L a1 a2.2.1 a2.2.2).1.2))) false]) (by kernel_rfl) ⟨(C13_L a0 (by (try simp only [List.length_append, List.length_cons, List.length_nil, Int.toNat_zero]); omega)), h0, (C13_L a1 (by (try simp only [List.length_append, List.length_cons, List.length_nil, Int.toNat_zero]); omega)), h1, (C15_L a0 a2.2.1 a2.2.2 (by (try simp only [List.length_append, List.length_cons, List.length_nil, Int.toNat_zero]); omega)), (C15_L a1 a2.2.1 a2.2.2 (by (try simp only [List.length_append, List.length_cons, List.length_nil, Int.toNat_zero]); omega)), (show (([] : List SV).length = 0 * 10 ∧ (flat c76 a0).length = a0.length * 10 ∧ (flat c76 a0).all SV.one = true ∧ 0 + a0.length ≤ 2 ^ 40 ∧ (0 + a0.length) * 80 ≤ 2 ^ 47) from by refine ⟨?_, ?_, ?_, ?_, ?_⟩ <;> first | omega | exact flat_one (fun _ => rfl) | (simp [flat_lenc c76_len]; done) | (simp [flat_lenc c76_len]; omega)), (show ((([] : List SV) ++ (flat c76 a0)).length = (0 + a0.length) * 10 ∧ (flat c76 a1).length = a1.length * 10 ∧ (flat c76 a1).all SV.one = true ∧ (0 + a0.length) + a1.length ≤ 2 ^ 40 ∧ ((0 + a0.length) + a1.length) * 80 ≤ 2 ^ 47) from by refine ⟨?_, ?_, ?_, ?_, ?_⟩ <;> first | omega | exact flat_one (fun _ => rfl) | (simp [flat_lenc c76_len]; done) | (simp [flat_lenc c76_len]; omega)), (by have q := (C15_L ((([] : List (((Int × Int × Int) × (Int × Int × Int) × Int × Int × Int) × Int)) ++ a0) ++ a1) a2.2.1 a2.2.2 (by (try simp only [List.length_append, List.length_cons, List.length_nil, Int.toNat_zero]); omega)); rw [show flat c76 ((([] : List (((Int × Int × Int) × (Int × Int × Int) × Int × Int × Int) × Int)) ++ a0) ++ a1) = ((([] : List SV) ++ (flat c76 a0)) ++ (flat c76 a1)) from by simp [flat], show ((([] : List (((Int × Int × Int) × (Int × Int × Int) × Int × Int × Int) × Int)) ++ a0) ++ a1).length = ((0 + a0.length) + a1.length) from by simp] at q; exact q), h2, h3, h4, h5, h6, trivial⟩
            | false =>
              have q2 := bne_eq_false_iff_eq.1 h2
              have q3 := bne_eq_false_iff_eq.1 h3
              have q4 := bne_eq_false_iff_eq.1 h4
              have q5 := ne_of_beq_false h5
              try have hl0 := long_le h0
              try have hl1 := long_le h1
              have e : (F3_L_L a0 a1 a2) = false := by simp only [F3_L_L, h0, h1, h2, h3, h4, h5, cond_true, cond_false]
              rw [e]
              refine con_of (n := 9) Try.func3 rfl (ent Try.func3 (by kernel_rfl) rfl) (by show 3 ≤ Try.f3.ntmps; decide) (by kernel_rfl) ⟨rfl, rfl, trivial⟩ (fun cx hcx => ?_)
              exact ret_of (T := T0) hT hm (f := 5000) (orc := [.call [0] (.v (.bool (F13_L a0))) [], .d false, .call [1] (.v (.bool (F13_L a1))) [], .d false, (oC3_L_L_2 a0 a2), (oC3_L_L_3 a1 a2), (oC3_L_L_4 a0 a1 a2), .d false, .d false, .d false, .d false]) [] [] [] hcx
                (obs := [(oC3_L_L_0 a0), .eq (F13_L a0) false, (oC3_L_L_1 a1), .eq (F13_L a1) false, (oC3_L_L_5 a0 a2), (oC3_L_L_6 a1 a2), (oC3_L_L_7 a0), (oC3_L_L_8 a0 a1), (oC3_L_L_9 a0 a1 a2), .eq (((F15_L a0 a2.2.1 a2.2.2).2 : Int) != 0) false, .eq (((F15_L a1 a2.2.1 a2.2.2).2 : Int) != 0) false, (oC3_L_L_10 a0 a1 a2), .eq (((F15_L ((([] : List (((Int × Int × Int) × (Int × Int × Int) × Int × Int × Int) × Int)) ++ a0) ++ a1) a2.2.1 a2.2.2).1.1 : Int) == (W ((F15_L a0 a2.2.1 a2.2.2).1.1 + (F15_L a1 a2.2.1 a2.2.2).1.1))) false]) (by kernel_rfl) ⟨(C13_L a0 (by (try simp only [List.length_append, List.length_cons, List.length_nil, Int.toNat_zero]); omega)), h0, (C13_L a1 (by (try simp only [List.length_append, List.length_cons, List.length_nil, Int.toNat_zero]); omega)), h1, (C15_L a0 a2.2.1 a2.2.2 (by (try simp only [List.length_append, List.length_cons, List.length_nil, Int.toNat_zero]); omega)), (C15_L a1 a2.2.1 a2.2.2 (by (try simp only [List.length_append, List.length_cons, List.length_nil, Int.toNat_zero]); omega)), (show (([] : List SV).length = 0 * 10 ∧ (flat c76 a0).length = a0.length * 10 ∧ (flat c76 a0).all SV.one = true ∧ 0 + a0.length ≤ 2 ^ 40 ∧ (0 + a0.length) * 80 ≤ 2 ^ 47) from by refine ⟨?_, ?_, ?_, ?_, ?_⟩ <;> first | omega | exact flat_one (fun _ => rfl) | (simp [flat_lenc c76_len]; done) | (simp [flat_lenc c76_len]; omega)), (show ((([] : List SV) ++ (flat c76 a0)).length = (0 + a0.length) * 10 ∧ (flat c76 a1).length = a1.length * 10 ∧ (flat c76 a1).all SV.one = true ∧ (0 + a0.length) + a1.length ≤ 2 ^ 40 ∧ ((0 + a0.length) + a1.length) * 80 ≤ 2 ^ 47) from by refine ⟨?_, ?_, ?_, ?_, ?_⟩ <;> first | omega | exact flat_one (fun _ => rfl) | (simp [flat_lenc c76_len]; done) | (simp [flat_lenc c76_len]; omega)), (by have q := (C15_L ((([] : List (((Int × Int × Int) × (Int × Int × Int) × Int × Int × Int) × Int)) ++ a0) ++ a1) a2.2.1 a2.2.2 (by (try simp only [List.length_append, List.length_cons, List.length_nil, Int.toNat_zero]); omega)); rw [show flat c76 ((([] : List (((Int × Int × Int) × (Int × Int × Int) × Int × Int × Int) × Int)) ++ a0) ++ a1) = ((([] : List SV) ++ (flat c76 a0)) ++ (flat c76 a1)) from by simp [flat], show ((([] : List (((Int × Int × Int) × (Int × Int × Int) × Int × Int × Int) × Int)) ++ a0) ++ a1).length = ((0 + a0.length) + a1.length) from by simp] at q; exact q), h2, h3, h4, h5, trivial⟩

noncomputable def potG (x : P3) (d : Int) (c : PN × Int) : (Int × Int) × Int := bif ((F40 c.1 x d).2 != 0) then ((0, 0), (F40 c.1 x d).2) else F39 (F40 c.1 x d).1 c.2
theorem potG_vs {x : P3} {d : Int} {c : PN × Int} (h : (potG x d c).2 = 0) : vs (potG x d c).1 := by
  unfold potG at *
  cases h1 : ((F40 c.1 x d).2 != 0) with
  | true => rw [h1, cond_true] at h; exact absurd h (bne_iff_ne.1 h1)
  | false => rw [h1, cond_false] at h; exact scale_vs h
theorem pot_ok {l : List (PN × Int)} {x : P3} {d : Int} (h : (F15_L l x d).2 = 0) :
    F15_L l x d = (sums (l.map fun c => (potG x d c).1) (0, 0), 0) ∧ vs (sums (l.map fun c => (potG x d c).1) (0, 0)) := by
  have h0 := h
  unfold F15_L at h0
  cases h1 : ((F41_L l : Int) != 0) with
  | true => rw [h1, cond_true] at h0; exact absurd h0 (bne_iff_ne.1 h1)
  | false =>
  rw [h1, cond_false] at h0
  have hlen := vch_len (bne_eq_false_iff_eq.1 h1)
  cases h2 : (!(F42 x)) with
  | true => rw [h2, cond_true] at h0; exact absurd h0 (by decide)
  | false =>
  rw [h2, cond_false] at h0
  cases h3 : (!(F43 d 0 3)) with
  | true => rw [h3, cond_true] at h0; exact absurd h0 (by decide)
  | false =>
  have key := shs_loopF (g := potG x d) (S := S15_L_0 l x d) (E := fun e => (((0, 0) : Int × Int), e)) (L := l) (G := fun m => ((F44_L m).1, (F44_L m).2))
    (fun i c hi m => ?_) (fun m => ?_) l 0 (Int.toNat (((l.length : Nat) : Int) - 0) + 1) [] rfl (Nat.zero_le _) (by omega)
  · have e : F15_L l x d = out8 (fun m => ((F44_L m).1, (F44_L m).2)) (fun e => (((0, 0) : Int × Int), e)) (shs (potG x d) l []) := by
      unfold F15_L
      rw [h1, cond_false, h2, cond_false, h3, cond_false]; exact key
    rw [e] at h ⊢
    cases hs : shs (potG x d) l [] with
    | inr r => rw [hs] at h; exact absurd h (shs_inr hs)
    | inl m =>
      obtain ⟨e1, e2⟩ := shs_inl hs
      rw [List.nil_append] at e1
      subst e1
      have hv : ∀ a ∈ l.map (fun c => (potG x d c).1), vs a := by
        intro a ha
        obtain ⟨c, hc, rfl⟩ := List.mem_map.1 ha
        exact potG_vs (e2 c hc)
      have hS := Sum_f hv (by rw [List.length_map]; omega)
      rw [hs] at h
      simp only [out8] at h ⊢
      rw [hS] at h ⊢
      exact sumV_0 h
  · obtain ⟨hlt, hce⟩ := List.getElem?_eq_some_iff.1 hi
    have hg : l.getD i default = c := by rw [List.getD_eq_getElem?_getD, hi]; rfl
    simp only [S15_L_0]
    rw [decide_eq_true (show ((i : Nat) : Int) < (l.length : Nat) by omega), cond_true, Int.toNat_natCast, hg]
    unfold potG
    cases h4 : ((F40 c.1 x d).2 != 0) with
    | true => rw [cond_true, cond_true, h4]; rfl
    | false => rw [cond_false, cond_false]; rfl
  · simp only [S15_L_0]
    rw [decide_eq_false (Int.lt_irrefl _), cond_false]
theorem law_adds (a b : List (PN × Int)) (x : PN × P3 × Int) : F3_L_L a b x = true := by
  unfold F3_L_L
  rw [known_t, List.nil_append]
  cases F13_L a with
  | true => rfl
  | false =>
  cases F13_L b with
  | true => rfl
  | false =>
  rw [cond_false, cond_false]
  cases h1 : ((F15_L a x.2.1 x.2.2).2 != 0) with
  | true => rfl
  | false =>
  cases h2 : ((F15_L b x.2.1 x.2.2).2 != 0) with
  | true => rfl
  | false =>
  cases h3 : ((F15_L (a ++ b) x.2.1 x.2.2).2 != 0) with
  | true => rfl
  | false =>
  obtain ⟨e1, v1⟩ := pot_ok (bne_eq_false_iff_eq.1 h1)
  obtain ⟨e2, v2⟩ := pot_ok (bne_eq_false_iff_eq.1 h2)
  obtain ⟨e3, v3⟩ := pot_ok (bne_eq_false_iff_eq.1 h3)
  rw [cond_false, cond_false, cond_false, e1, e2, e3, List.map_append, sums_app]
  unfold vs at v1 v2
  rw [W_eq (n := (sums (a.map fun c => (potG x.2.1 x.2.2 c).1) (0, 0)).1 + (sums (b.map fun c => (potG x.2.1 x.2.2 c).1) (0, 0)).1) (by omega) (by omega), W_eq (n := (sums (a.map fun c => (potG x.2.1 x.2.2 c).1) (0, 0)).2 + (sums (b.map fun c => (potG x.2.1 x.2.2 c).1) (0, 0)).2) (by omega) (by omega)]
  simp

open Go.ChangeShapes Go.WideShapes Go.ChangeAt
theorem fieldAdds_len10 {l : List Int} (h : l.length = 10) : ∃ a0 a1 a2 a3 a4 a5 a6 a7 a8 a9, l = [a0, a1, a2, a3, a4, a5, a6, a7, a8, a9] := by
  match l, h with
  | [a0, a1, a2, a3, a4, a5, a6, a7, a8, a9], _ => exact ⟨a0, a1, a2, a3, a4, a5, a6, a7, a8, a9, rfl⟩
theorem fieldAdds_len13 {l : List Int} (h : l.length = 13) : ∃ a0 a1 a2 a3 a4 a5 a6 a7 a8 a9 a10 a11 a12, l = [a0, a1, a2, a3, a4, a5, a6, a7, a8, a9, a10, a11, a12] := by
  match l, h with
  | [a0, a1, a2, a3, a4, a5, a6, a7, a8, a9, a10, a11, a12], _ => exact ⟨a0, a1, a2, a3, a4, a5, a6, a7, a8, a9, a10, a11, a12, rfl⟩
def fieldAdds_mk76 (ns : List Int) : ((Int × Int × Int) × (Int × Int × Int) × Int × Int × Int) × Int := ((((ns.getD 0 0), (ns.getD 1 0), (ns.getD 2 0)), ((ns.getD 3 0), (ns.getD 4 0), (ns.getD 5 0)), ((ns.getD 6 0), (ns.getD 7 0), (ns.getD 8 0))), (ns.getD 9 0))
theorem fieldAdds_mkc76 (ns : List Int) (h : ns.length = 10) : c76 (fieldAdds_mk76 ns) = ns.map iv := by
  obtain ⟨a0, a1, a2, a3, a4, a5, a6, a7, a8, a9, rfl⟩ := fieldAdds_len10 h
  rfl
set_option maxRecDepth 100000 in
theorem fieldAdds_lifted (os : Os) (started : os.Started) (H : Type) (enc : TypeId × Value → H) :
    ReturnsInHanded {} Try.checked os 3 .any (Rows.fieldAddsSpec.pre6 enc Try.prog Try.f3 Rows.fieldAddsRow.domain false) (Rows.fieldAddsSpec.post enc Try.prog Try.f3 false true false false) := by
  refine returnsInHanded_of_change (C := Try.checked) own started (by kernel_rfl) Try.func3
    (ChangeSpec.witness6 (enc := enc) (C := Try.checked) false ⟨#[], #[.slice none 0 0, .slice none 0 0, .agg #[.int .i64 0, .int .i64 0, .int .i64 0, .int .i64 0, .int .i64 0, .int .i64 0, .int .i64 0, .int .i64 0, .int .i64 0, .int .i64 0, .int .i64 0, .int .i64 0, .int .i64 0]], []⟩ 8 (by kernel_rfl) (by kernel_rfl) (by kernel_rfl) (by kernel_rfl)) ?_
  intro W base args ds gs before hval0 hW hcnd _
  have hval : ∀ (j : Nat) t v, Try.f3.params[j]? = some t → args[j]? = some v → Value.okWide Try.prog W .any base t v := hval0
  have hW' := hW
  obtain ⟨p, q, hA0, hV, rfl, hfz, hnd⟩ := hW
  have hA : DataW.TrodAll enc Try.prog W 0 (fun _ => true) true Try.f3.params.toList args.toList ds p := hA0
  rw [Try.params3] at hA hval
  obtain ⟨v0, vs0, d0, ds0, p0, q0, hargs, rfl, rfl, h0, r0⟩ := trodAll_cons hA
  obtain ⟨v1, vs1, d1, ds1, p1, q1, rfl, rfl, rfl, h1, r1⟩ := trodAll_cons r0
  obtain ⟨v2, vs2, d2, ds2, p2, q2, rfl, rfl, rfl, h2, r2⟩ := trodAll_cons r1
  obtain ⟨rfl, rfl, rfl⟩ := trodAll_nil r2
  obtain rfl : args = #[v0, v1, v2] := by cases args; simp_all
  obtain ⟨rfl, rfl⟩ := trodVars_none hV
  obtain ⟨⟨nss0, s0⟩, b0⟩ := open_list Try.underlying22 (by kernel_rfl) (show Try.prog.cellsOf 76 = 10 from by kernel_rfl) (hval 0 22 v0 rfl rfl) h0
  obtain ⟨⟨nss1, s1⟩, b1⟩ := open_list Try.underlying22 (by kernel_rfl) (show Try.prog.cellsOf 76 = 10 from by kernel_rfl) (hval 1 22 v1 rfl rfl) h1
  obtain ⟨rfl, ns2, rfl, l2⟩ := open_flat Try.underlying28 (by kernel_rfl) (hval 2 28 v2 rfl rfl) h2
  rw [show Try.prog.cellsOf 28 = 13 from by kernel_rfl] at l2
  obtain ⟨x2_0, x2_1, x2_2, x2_3, x2_4, x2_5, x2_6, x2_7, x2_8, x2_9, x2_10, x2_11, x2_12, rfl⟩ := fieldAdds_len13 l2
  clear hA0 hval0 hval hA
  simp only [List.append_nil, List.nil_append] at hW'
  have hC : Con Try.prog 3 [.s 0 0 nss0.length 10, .s 1 0 nss1.length 10, .a ([x2_0, x2_1, x2_2, x2_3, x2_4, x2_5, x2_6, x2_7, x2_8, x2_9, x2_10, x2_11, x2_12].map iv)] [.live false true ((nss0.flatten).map iv), .live false true ((nss1.flatten).map iv)] (.v (.bool true)) [] := by
    have h := C3_L_L (nss0.map fieldAdds_mk76) (nss1.map fieldAdds_mk76) (((x2_0, x2_1, x2_2), (x2_3, x2_4, x2_5), (x2_6, x2_7, x2_8)), (x2_9, x2_10, x2_11), x2_12) (by rw [List.length_map]; exact s0.2.1) (by rw [List.length_map]; exact s1.2.1)
    rw [law_adds, flat_mk fieldAdds_mkc76 s0.1, flat_mk fieldAdds_mkc76 s1.1] at h
    simp only [List.length_map] at h
    exact h
  refine (law_calls2 (vs := [v0, v1, .agg ([x2_0, x2_1, x2_2, x2_3, x2_4, x2_5, x2_6, x2_7, x2_8, x2_9, x2_10, x2_11, x2_12].map (Value.int .i64)).toArray]) hC s0 s1 ⟨slice_rel s0 rfl, slice_rel s1 rfl, rel_agg [x2_0, x2_1, x2_2, x2_3, x2_4, x2_5, x2_6, x2_7, x2_8, x2_9, x2_10, x2_11, x2_12], trivial⟩).mono fun e W' ⟨he, hb⟩ => ?_
  subst he
  have hargs2 := (all_mk (Below.trod laidOut (by kernel_rfl) (of_decide_eq_true (by kernel_rfl)) h0 hb b0) (all_mk (Below.trod laidOut (by kernel_rfl) (of_decide_eq_true (by kernel_rfl)) h1 hb b1) (all_mk (Below.trod laidOut (by kernel_rfl) (of_decide_eq_true (by kernel_rfl)) h2 hb (fun x hx => by cases hx)) trodAll_mk0)))
  simp only [List.append_nil, List.nil_append] at hargs2
  exact ⟨_, rfl, post_below hW' hb (fun _ _ _ => (all_mk (shut_bool Try.underlying4 _) trodAll_mk0)) hargs2 rfl⟩
theorem fieldAdds_over : Rows.fieldAddsRow.holds Try.pinned (OpenSpec.ofChange Rows.fieldAddsSpec) :=
  OpenClaim.holds_of_wide 3 Try.f3 rfl rfl rfl rfl rfl rfl rfl ⟨rfl, rfl, rfl, rfl, rfl⟩ rfl rfl rfl rfl rfl (by kernel_rfl) Try.func3 (by kernel_rfl)
    (of_decide_eq_true (by kernel_rfl)) (by unfold Func.isWrapper; first | (rw [if_pos (by decide +kernel)]; kernel_rfl) | (rw [if_neg (by decide +kernel)]; exact ⟨rfl, rfl⟩))
    (fun os started H enc _ => fieldAdds_lifted os started H enc)
/-- THE STATEMENT -/
theorem fieldAdds_proved : Rows.FieldAddsSaid :=
  fieldAdds_over

end Go.Proofs.Ytopbnnmkdildgaa
