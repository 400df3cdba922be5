/-
  SoundLater: for every list of pulses, every delay, point, speed, tick and depth the law returns true, and its arguments read behind the call as they read before. No condition.
-/
import Derived.Test.YtopbnnmkdildgaaU6
import Derived.ProofKit
namespace Go.Proofs.Ytopbnnmkdildgaa
open Go.Proofs Go.Aw Go.RowKit
set_option maxRecDepth 100000
set_option linter.unusedVariables false
set_option linter.unusedSimpArgs false

/-- facet/facetlaw08.SoundLater at ('L',) -/
def F9_L (a0 : List (((Int × Int × Int) × (Int × Int × Int) × Int × Int × Int) × Int × Int)) (a1 : Int) (a2 : (Int × Int × Int) × Int × Int × Int) : Bool :=
  (bif (decide ((((a0.length : Nat) : Int) : Int) > 60)) then
   F18
  else
   (bif (decide ((a1 : Int) < 0)) then
    F18
   else
    (bif (decide ((a1 : Int) > 1000)) then
     F18
    else
     (bif (((F25_L a0 a1).2 : Int) != 0) then
      F18
     else
      (bif (decide ((a2.2.2.1 : Int) < 0)) then
       F18
      else
       (bif (decide ((a2.2.2.1 : Int) > 1000)) then
        F18
       else
        (bif ((((F32_L a0 a2.1 a2.2.1 a2.2.2.1 a2.2.2.2).1.1 : Int) == (F32_L (F25_L a0 a1).1 a2.1 a2.2.1 (W (a2.2.2.1 + a1)) a2.2.2.2).1.1) && ((((F32_L a0 a2.1 a2.2.1 a2.2.2.1 a2.2.2.2).1.2 : Int) == (F32_L (F25_L a0 a1).1 a2.1 a2.2.1 (W (a2.2.2.1 + a1)) a2.2.2.2).1.2) && true)) then
         (bif (((F32_L a0 a2.1 a2.2.1 a2.2.2.1 a2.2.2.2).2 : Int) == (F32_L (F25_L a0 a1).1 a2.1 a2.2.1 (W (a2.2.2.1 + a1)) a2.2.2.2).2) then
          F18
         else
          false)
        else
         false)))))))

noncomputable def oC9_L_0 (a0 : List (((Int × Int × Int) × (Int × Int × Int) × Int × Int × Int) × Int × Int)) (a1 : Int) : Or := .call [0] (.t [(.s 1 0 (F25_L a0 a1).1.length 11), (iv (F25_L a0 a1).2)]) [(.live true true (flat c41 (F25_L a0 a1).1))]
noncomputable def oC9_L_1 (a0 : List (((Int × Int × Int) × (Int × Int × Int) × Int × Int × Int) × Int × Int)) (a1 : Int) : Ob := .call 25 [(.s 0 0 a0.length 11), (iv a1)] [(.live false true (flat c41 a0))] (.t [(.s 1 0 (F25_L a0 a1).1.length 11), (iv (F25_L a0 a1).2)]) [(.live true true (flat c41 (F25_L a0 a1).1))]
noncomputable def oC9_L_2 (a0 : List (((Int × Int × Int) × (Int × Int × Int) × Int × Int × Int) × Int × Int)) (a2 : (Int × Int × Int) × Int × Int × Int) : Or := .call [0] (.t [(.a (k2 (F32_L a0 a2.1 a2.2.1 a2.2.2.1 a2.2.2.2).1)), (iv (F32_L a0 a2.1 a2.2.1 a2.2.2.1 a2.2.2.2).2)]) []
noncomputable def oC9_L_3 (a0 : List (((Int × Int × Int) × (Int × Int × Int) × Int × Int × Int) × Int × Int)) (a1 : Int) (a2 : (Int × Int × Int) × Int × Int × Int) : Or := .call [2] (.t [(.a (k2 (F32_L (F25_L a0 a1).1 a2.1 a2.2.1 (W (a2.2.2.1 + a1)) a2.2.2.2).1)), (iv (F32_L (F25_L a0 a1).1 a2.1 a2.2.1 (W (a2.2.2.1 + a1)) a2.2.2.2).2)]) []
noncomputable def oC9_L_4 (a0 : List (((Int × Int × Int) × (Int × Int × Int) × Int × Int × Int) × Int × Int)) (a2 : (Int × Int × Int) × Int × Int × Int) : Ob := .call 32 [(.s 0 0 a0.length 11), (.a (k3 a2.1)), (iv a2.2.1), (iv a2.2.2.1), (iv a2.2.2.2)] [(.live false true (flat c41 a0))] (.t [(.a (k2 (F32_L a0 a2.1 a2.2.1 a2.2.2.1 a2.2.2.2).1)), (iv (F32_L a0 a2.1 a2.2.1 a2.2.2.1 a2.2.2.2).2)]) []
noncomputable def oC9_L_5 (a0 : List (((Int × Int × Int) × (Int × Int × Int) × Int × Int × Int) × Int × Int)) (a1 : Int) (a2 : (Int × Int × Int) × Int × Int × Int) : Ob := .call 32 [(.s 0 0 (F25_L a0 a1).1.length 11), (.a (k3 a2.1)), (iv a2.2.1), (iv (W (a2.2.2.1 + a1))), (iv a2.2.2.2)] [(.live false true (flat c41 (F25_L a0 a1).1))] (.t [(.a (k2 (F32_L (F25_L a0 a1).1 a2.1 a2.2.1 (W (a2.2.2.1 + a1)) a2.2.2.2).1)), (iv (F32_L (F25_L a0 a1).1 a2.1 a2.2.1 (W (a2.2.2.1 + a1)) a2.2.2.2).2)]) []
noncomputable def oC9_L_6 (a0 : List (((Int × Int × Int) × (Int × Int × Int) × Int × Int × Int) × Int × Int)) (a1 : Int) (a2 : (Int × Int × Int) × Int × Int × Int) : Ob := .eq ((((F32_L a0 a2.1 a2.2.1 a2.2.2.1 a2.2.2.2).1.1 : Int) == (F32_L (F25_L a0 a1).1 a2.1 a2.2.1 (W (a2.2.2.1 + a1)) a2.2.2.2).1.1) && ((((F32_L a0 a2.1 a2.2.1 a2.2.2.1 a2.2.2.2).1.2 : Int) == (F32_L (F25_L a0 a1).1 a2.1 a2.2.1 (W (a2.2.2.1 + a1)) a2.2.2.2).1.2) && true)) true
theorem C9_L (a0 : List (((Int × Int × Int) × (Int × Int × Int) × Int × Int × Int) × Int × Int)) (a1 : Int) (a2 : (Int × Int × Int) × Int × Int × Int) (l0 : a0.length ≤ 9223372036854775807) : Con Try.prog 9 [(.s 0 0 a0.length 11), (iv a1), (.a [(iv a2.1.1), (iv a2.1.2.1), (iv a2.1.2.2), (iv a2.2.1), (iv a2.2.2.1), (iv a2.2.2.2)])] [(.live false true (flat c41 a0))] (.v (.bool (F9_L a0 a1 a2))) [] := by
  cases h0 : (decide ((((a0.length : Nat) : Int) : Int) > 60)) with
  | true =>
    have q0 := of_decide_eq_true h0
    have hd1 := dlf_len a0 a1
    have e : (F9_L a0 a1 a2) = F18 := by simp only [F9_L, h0, cond_true, cond_false]
    rw [e]
    refine con_of (n := 9) Try.func9 rfl (ent Try.func9 (by kernel_rfl) rfl) (by show 3 ≤ Try.f9.ntmps; decide) (by kernel_rfl) ⟨rfl, trivial⟩ (fun cx hcx => ?_)
    exact ret_of (T := T0) hT hm (f := 5000) (orc := [.d true, .call [] (.v (.bool F18)) []]) [] [] [] hcx
      (obs := [.eq (decide ((((a0.length : Nat) : Int) : Int) > 60)) true, .call 18 [] [] (.v (.bool F18)) []]) (by kernel_rfl) ⟨h0, (C18), trivial⟩
  | false =>
    cases h1 : (decide ((a1 : Int) < 0)) with
    | true =>
      have q0 := of_decide_eq_false h0
      have q1 := of_decide_eq_true h1
      have hd1 := dlf_len a0 a1
      have e : (F9_L a0 a1 a2) = F18 := by simp only [F9_L, h0, h1, cond_true, cond_false]
      rw [e]
      refine con_of (n := 9) Try.func9 rfl (ent Try.func9 (by kernel_rfl) rfl) (by show 3 ≤ Try.f9.ntmps; decide) (by kernel_rfl) ⟨rfl, trivial⟩ (fun cx hcx => ?_)
      exact ret_of (T := T0) hT hm (f := 5000) (orc := [.d false, .d true, .call [] (.v (.bool F18)) []]) [] [] [] hcx
        (obs := [.eq (decide ((((a0.length : Nat) : Int) : Int) > 60)) false, .eq (decide ((a1 : Int) < 0)) true, .call 18 [] [] (.v (.bool F18)) []]) (by kernel_rfl) ⟨h0, h1, (C18), trivial⟩
    | false =>
      cases h2 : (decide ((a1 : Int) > 1000)) with
      | true =>
        have q0 := of_decide_eq_false h0
        have q1 := of_decide_eq_false h1
        have q2 := of_decide_eq_true h2
        have hd1 := dlf_len a0 a1
        have e : (F9_L a0 a1 a2) = F18 := by simp only [F9_L, h0, h1, h2, cond_true, cond_false]
        rw [e]
        refine con_of (n := 9) Try.func9 rfl (ent Try.func9 (by kernel_rfl) rfl) (by show 3 ≤ Try.f9.ntmps; decide) (by kernel_rfl) ⟨rfl, trivial⟩ (fun cx hcx => ?_)
        exact ret_of (T := T0) hT hm (f := 5000) (orc := [.d false, .d false, .d true, .call [] (.v (.bool F18)) []]) [] [] [] hcx
          (obs := [.eq (decide ((((a0.length : Nat) : Int) : Int) > 60)) false, .eq (decide ((a1 : Int) < 0)) false, .eq (decide ((a1 : Int) > 1000)) true, .call 18 [] [] (.v (.bool F18)) []]) (by kernel_rfl) ⟨h0, h1, h2, (C18), trivial⟩
      | false =>
        cases h3 : (((F25_L a0 a1).2 : Int) != 0) with
        | true =>
          have q0 := of_decide_eq_false h0
          have q1 := of_decide_eq_false h1
          have q2 := of_decide_eq_false h2
          have q3 := bne_iff_ne.1 h3
          have hd1 := dlf_len a0 a1
          have e : (F9_L a0 a1 a2) = F18 := by simp only [F9_L, h0, h1, h2, h3, cond_true, cond_false]
          rw [e]
          refine con_of (n := 9) Try.func9 rfl (ent Try.func9 (by kernel_rfl) rfl) (by show 3 ≤ Try.f9.ntmps; decide) (by kernel_rfl) ⟨rfl, trivial⟩ (fun cx hcx => ?_)
          exact ret_of (T := T0) hT hm (f := 5000) (orc := [.d false, .d false, .d false, (oC9_L_0 a0 a1), .d true, .call [] (.v (.bool F18)) []]) [] [] [] hcx
            (obs := [.eq (decide ((((a0.length : Nat) : Int) : Int) > 60)) false, .eq (decide ((a1 : Int) < 0)) false, .eq (decide ((a1 : Int) > 1000)) false, (oC9_L_1 a0 a1), .eq (((F25_L a0 a1).2 : Int) != 0) true, .call 18 [] [] (.v (.bool F18)) []]) (by kernel_rfl) ⟨h0, h1, h2, (C25_L a0 a1 (by (try simp only [List.length_append, List.length_cons, List.length_nil, Int.toNat_zero]); omega)), h3, (C18), trivial⟩
        | false =>
          cases h4 : (decide ((a2.2.2.1 : Int) < 0)) with
          | true =>
            have q0 := of_decide_eq_false h0
            have q1 := of_decide_eq_false h1
            have q2 := of_decide_eq_false h2
            have q3 := bne_eq_false_iff_eq.1 h3
            have q4 := of_decide_eq_true h4
            have hd1 := dlf_len a0 a1
            have e : (F9_L a0 a1 a2) = F18 := by simp only [F9_L, h0, h1, h2, h3, h4, cond_true, cond_false]
            rw [e]
            refine con_of (n := 9) Try.func9 rfl (ent Try.func9 (by kernel_rfl) rfl) (by show 3 ≤ Try.f9.ntmps; decide) (by kernel_rfl) ⟨rfl, trivial⟩ (fun cx hcx => ?_)
            exact ret_of (T := T0) hT hm (f := 5000) (orc := [.d false, .d false, .d false, (oC9_L_0 a0 a1), .d false, .d true, .call [] (.v (.bool F18)) []]) [] [] [] hcx
              (obs := [.eq (decide ((((a0.length : Nat) : Int) : Int) > 60)) false, .eq (decide ((a1 : Int) < 0)) false, .eq (decide ((a1 : Int) > 1000)) false, (oC9_L_1 a0 a1), .eq (((F25_L a0 a1).2 : Int) != 0) false, .eq (decide ((a2.2.2.1 : Int) < 0)) true, .call 18 [] [] (.v (.bool F18)) []]) (by kernel_rfl) ⟨h0, h1, h2, (C25_L a0 a1 (by (try simp only [List.length_append, List.length_cons, List.length_nil, Int.toNat_zero]); omega)), h3, h4, (C18), trivial⟩
          | false =>
            cases h5 : (decide ((a2.2.2.1 : Int) > 1000)) with
            | true =>
              have q0 := of_decide_eq_false h0
              have q1 := of_decide_eq_false h1
              have q2 := of_decide_eq_false h2
              have q3 := bne_eq_false_iff_eq.1 h3
              have q4 := of_decide_eq_false h4
              have q5 := of_decide_eq_true h5
              have hd1 := dlf_len a0 a1
              have e : (F9_L a0 a1 a2) = F18 := by simp only [F9_L, h0, h1, h2, h3, h4, h5, cond_true, cond_false]
              rw [e]
              refine con_of (n := 9) Try.func9 rfl (ent Try.func9 (by kernel_rfl) rfl) (by show 3 ≤ Try.f9.ntmps; decide) (by kernel_rfl) ⟨rfl, trivial⟩ (fun cx hcx => ?_)
              exact ret_of (T := T0) hT hm (f := 5000) (orc := [.d false, .d false, .d false, (oC9_L_0 a0 a1), .d false, .d false, .d true, .call [] (.v (.bool F18)) []]) [] [] [] hcx
                (obs := [.eq (decide ((((a0.length : Nat) : Int) : Int) > 60)) false, .eq (decide ((a1 : Int) < 0)) false, .eq (decide ((a1 : Int) > 1000)) false, (oC9_L_1 a0 a1), .eq (((F25_L a0 a1).2 : Int) != 0) false, .eq (decide ((a2.2.2.1 : Int) < 0)) false, .eq (decide ((a2.2.2.1 : Int) > 1000)) true, .call 18 [] [] (.v (.bool F18)) []]) (by kernel_rfl) ⟨h0, h1, h2, (C25_L a0 a1 (by (try simp only [List.length_append, List.length_cons, List.length_nil, Int.toNat_zero]); omega)), h3, h4, h5, (C18), trivial⟩
            | false =>
              cases h6 : ((((F32_L a0 a2.1 a2.2.1 a2.2.2.1 a2.2.2.2).1.1 : Int) == (F32_L (F25_L a0 a1).1 a2.1 a2.2.1 (W (a2.2.2.1 + a1)) a2.2.2.2).1.1) && ((((F32_L a0 a2.1 a2.2.1 a2.2.2.1 a2.2.2.2).1.2 : Int) == (F32_L (F25_L a0 a1).1 a2.1 a2.2.1 (W (a2.2.2.1 + a1)) a2.2.2.2).1.2) && true)) with
              | true =>
                cases h7 : (((F32_L a0 a2.1 a2.2.1 a2.2.2.1 a2.2.2.2).2 : Int) == (F32_L (F25_L a0 a1).1 a2.1 a2.2.1 (W (a2.2.2.1 + a1)) a2.2.2.2).2) with
                | true =>
                  have q0 := of_decide_eq_false h0
                  have q1 := of_decide_eq_false h1
                  have q2 := of_decide_eq_false h2
                  have q3 := bne_eq_false_iff_eq.1 h3
                  have q4 := of_decide_eq_false h4
                  have q5 := of_decide_eq_false h5
                  have q7 := eq_of_beq h7
                  have hd1 := dlf_len a0 a1
                  have e : (F9_L a0 a1 a2) = F18 := by simp only [F9_L, h0, h1, h2, h3, h4, h5, h6, h7, cond_true, cond_false]
                  rw [e]
                  refine con_of (n := 9) Try.func9 rfl (ent Try.func9 (by kernel_rfl) rfl) (by show 3 ≤ Try.f9.ntmps; decide) (by kernel_rfl) ⟨rfl, trivial⟩ (fun cx hcx => ?_)
                  exact ret_of (T := T0) hT hm (f := 5000) (orc := [.d false, .d false, .d false, (oC9_L_0 a0 a1), .d false, .d false, .d false, (oC9_L_2 a0 a2), (oC9_L_3 a0 a1 a2), .d true, .d true, .call [] (.v (.bool F18)) []]) [] [] [] hcx
                    (obs := [.eq (decide ((((a0.length : Nat) : Int) : Int) > 60)) false, .eq (decide ((a1 : Int) < 0)) false, .eq (decide ((a1 : Int) > 1000)) false, (oC9_L_1 a0 a1), .eq (((F25_L a0 a1).2 : Int) != 0) false, .eq (decide ((a2.2.2.1 : Int) < 0)) false, .eq (decide ((a2.2.2.1 : Int) > 1000)) false, (oC9_L_4 a0 a2), (oC9_L_5 a0 a1 a2), (oC9_L_6 a0 a1 a2), .eq (((F32_L a0 a2.1 a2.2.1 a2.2.2.1 a2.2.2.2).2 : Int) == (F32_L (F25_L a0 a1).1 a2.1 a2.2.1 (W (a2.2.2.1 + a1)) a2.2.2.2).2) true, .call 18 [] [] (.v (.bool F18)) []]) (by kernel_rfl) ⟨h0, h1, h2, (C25_L a0 a1 (by (try simp only [List.length_append, List.length_cons, List.length_nil, Int.toNat_zero]); omega)), h3, h4, h5, (C32_L a0 a2.1 a2.2.1 a2.2.2.1 a2.2.2.2 (by (try simp only [List.length_append, List.length_cons, List.length_nil, Int.toNat_zero]); omega)), (C32_L (F25_L a0 a1).1 a2.1 a2.2.1 (W (a2.2.2.1 + a1)) a2.2.2.2 (by (try simp only [List.length_append, List.length_cons, List.length_nil, Int.toNat_zero]); omega)), h6, h7, (C18), trivial⟩
                | false =>
                  have q0 := of_decide_eq_false h0
                  have q1 := of_decide_eq_false h1
                  have q2 := of_decide_eq_false h2
                  have q3 := bne_eq_false_iff_eq.1 h3
                  have q4 := of_decide_eq_false h4
                  have q5 := of_decide_eq_false h5
                  have q7 := ne_of_beq_false h7
                  have hd1 := dlf_len a0 a1
                  have e : (F9_L a0 a1 a2) = false := by simp only [F9_L, h0, h1, h2, h3, h4, h5, h6, h7, cond_true, cond_false]
                  rw [e]
                  refine con_of (n := 9) Try.func9 rfl (ent Try.func9 (by kernel_rfl) rfl) (by show 3 ≤ Try.f9.ntmps; decide) (by kernel_rfl) ⟨rfl, trivial⟩ (fun cx hcx => ?_)
                  exact ret_of (T := T0) hT hm (f := 5000) (orc := [.d false, .d false, .d false, (oC9_L_0 a0 a1), .d false, .d false, .d false, (oC9_L_2 a0 a2), (oC9_L_3 a0 a1 a2), .d true, .d false]) [] [] [] hcx
                    (obs := [.eq (decide ((((a0.length : Nat) : Int) : Int) > 60)) false, .eq (decide ((a1 : Int) < 0)) false, .eq (decide ((a1 : Int) > 1000)) false, (oC9_L_1 a0 a1), .eq (((F25_L a0 a1).2 : Int) != 0) false, .eq (decide ((a2.2.2.1 : Int) < 0)) false, .eq (decide ((a2.2.2.1 : Int) > 1000)) false, (oC9_L_4 a0 a2), (oC9_L_5 a0 a1 a2), (oC9_L_6 a0 a1 a2), .eq (((F32_L a0 a2.1 a2.2.1 a2.2.2.1 a2.2.2.2).2 : Int) == (F32_L (F25_L a0 a1).1 a2.1 a2.2.1 (W (a2.2.2.1 + a1)) a2.2.2.2).2) false]) (by kernel_rfl) ⟨h0, h1, h2, (C25_L a0 a1 (by (try simp only [List.length_append, List.length_cons, List.length_nil, Int.toNat_zero]); omega)), h3, h4, h5, (C32_L a0 a2.1 a2.2.1 a2.2.2.1 a2.2.2.2 (by (try simp only [List.length_append, List.length_cons, List.length_nil, Int.toNat_zero]); omega)), (C32_L (F25_L a0 a1).1 a2.1 a2.2.1 (W (a2.2.2.1 + a1)) a2.2.2.2 (by (try simp only [List.length_append, List.length_cons, List.length_nil, Int.toNat_zero]); omega)), h6, h7, trivial⟩
              | false =>
                have q0 := of_decide_eq_false h0
                have q1 := of_decide_eq_false h1
                have q2 := of_decide_eq_false h2
                have q3 := bne_eq_false_iff_eq.1 h3
                have q4 := of_decide_eq_false h4
                have q5 := of_decide_eq_false h5
                have hd1 := dlf_len a0 a1
                have e : (F9_L a0 a1 a2) = false := by simp only [F9_L, h0, h1, h2, h3, h4, h5, h6, cond_true, cond_false]
                rw [e]
                refine con_of (n := 9) Try.func9 rfl (ent Try.func9 (by kernel_rfl) rfl) (by show 3 ≤ Try.f9.ntmps; decide) (by kernel_rfl) ⟨rfl, trivial⟩ (fun cx hcx => ?_)
                exact ret_of (T := T0) hT hm (f := 5000) (orc := [.d false, .d false, .d false, (oC9_L_0 a0 a1), .d false, .d false, .d false, (oC9_L_2 a0 a2), (oC9_L_3 a0 a1 a2), .d false]) [] [] [] hcx
                  (obs := [.eq (decide ((((a0.length : Nat) : Int) : Int) > 60)) false, .eq (decide ((a1 : Int) < 0)) false, .eq (decide ((a1 : Int) > 1000)) false, (oC9_L_1 a0 a1), .eq (((F25_L a0 a1).2 : Int) != 0) false, .eq (decide ((a2.2.2.1 : Int) < 0)) false, .eq (decide ((a2.2.2.1 : Int) > 1000)) false, (oC9_L_4 a0 a2), (oC9_L_5 a0 a1 a2), .eq ((((F32_L a0 a2.1 a2.2.1 a2.2.2.1 a2.2.2.2).1.1 : Int) == (F32_L (F25_L a0 a1).1 a2.1 a2.2.1 (W (a2.2.2.1 + a1)) a2.2.2.2).1.1) && ((((F32_L a0 a2.1 a2.2.1 a2.2.2.1 a2.2.2.2).1.2 : Int) == (F32_L (F25_L a0 a1).1 a2.1 a2.2.1 (W (a2.2.2.1 + a1)) a2.2.2.2).1.2) && true)) false]) (by kernel_rfl) ⟨h0, h1, h2, (C25_L a0 a1 (by (try simp only [List.length_append, List.length_cons, List.length_nil, Int.toNat_zero]); omega)), h3, h4, h5, (C32_L a0 a2.1 a2.2.1 a2.2.2.1 a2.2.2.2 (by (try simp only [List.length_append, List.length_cons, List.length_nil, Int.toNat_zero]); omega)), (C32_L (F25_L a0 a1).1 a2.1 a2.2.1 (W (a2.2.2.1 + a1)) a2.2.2.2 (by (try simp only [List.length_append, List.length_cons, List.length_nil, Int.toNat_zero]); omega)), h6, trivial⟩

/-! ### Delayed pulses are heard later -/
theorem hrT_later {p : PU} {x : P3} {s t d b : Int} (hw : W (p.2.1 + b) = p.2.1 + b) : hrT (dlW b p) x s (t + b) d = hrT p x s t d := by
  have e : t + b - (dlW b p).2.1 = t - p.2.1 := by simp only [dlW]; rw [hw]; omega
  unfold hrT
  rw [e]
  have e2 : shG (dlW b p) x s (t + b) d = shG p x s t d := by
    funext c
    unfold shG
    rw [e]
  rw [e2]
  rfl
theorem shs_congr {α β γ : Type} {g : α → β × Int} {g' : γ → β × Int} {f : γ → α} : ∀ {k : List γ} {m : List β}, (∀ c ∈ k, g (f c) = g' c) → shs g (k.map f) m = shs g' k m
  | [], m, _ => rfl
  | c :: k, m, h => by
    simp only [List.map_cons, shs]
    rw [h c List.mem_cons_self, shs_congr (fun c hc => h c (List.mem_cons_of_mem _ hc))]
theorem scV_0 {l : List PU} {x : P3} {s t d : Int} (hv : vpL l = 0) (ha : askd x s t d) : scV l x s t d = scS l x s t d := by
  unfold scV; rw [if_pos hv, if_pos ha]
theorem scV_1 {l : List PU} {x : P3} {s t d : Int} (hv : vpL l = 0) (ha : ¬ askd x s t d) : scV l x s t d = ((0, 0), 1) := by
  unfold scV; rw [if_pos hv, if_neg ha]
theorem spn_self (a : (Int × Int) × Int) : ((a.1.1 == a.1.1) && ((a.1.2 == a.1.2) && true)) = true := by simp
theorem fe_map {α : Type} {g : α → Int} {f : α → α} {l : List α} (h : ∀ c ∈ l, g (f c) = g c) : fe g (l.map f) = fe g l := by
  induction l with
  | nil => rfl
  | cons c l ih =>
    simp only [List.map_cons, fe]
    rw [h c List.mem_cons_self, ih (fun c hc => h c (List.mem_cons_of_mem _ hc))]
theorem later_eq {l : List PU} {b : Int} {x : P3} {s t d : Int} (hb : 0 ≤ b ∧ b ≤ 1000) (ht : 0 ≤ t ∧ t ≤ 1000) (h : (dlV l b).2 = 0) : scV (dlV l b).1 x s (W (t + b)) d = scV l x s t d := by
  by_cases hv : vpL l = 0
  · unfold dlV at h ⊢
    rw [if_pos hv, if_pos hb] at h ⊢
    obtain ⟨hlen, hp⟩ := vpL_ok hv
    cases e : shs (dlG b) l [] with
    | inr r => rw [e] at h; exact absurd h (shs_inr e)
    | inl m =>
      obtain ⟨h1, h2⟩ := shs_inl e
      rw [List.nil_append] at h1
      subst h1
      simp only [out8]
      have hw : ∀ p ∈ l, W (p.2.1 + b) = p.2.1 + b ∧ p.2.1 + b ≤ 1000 := fun p hpl => by
        have h3 := (hp p hpl).2.1
        have e1 := W_eq (n := p.2.1 + b) (by omega) (by omega)
        have h4 := h2 p hpl
        simp only [dlG] at h4
        rw [e1] at h4
        refine ⟨e1, ?_⟩
        split at h4 <;> omega
      have hm : (l.map fun c => (dlG b c).1) = l.map (dlW b) := rfl
      rw [hm]
      have hv2 : vpL (l.map (dlW b)) = 0 := by
        unfold vpL
        rw [List.length_map, if_neg (by omega), fe_0.2]
        intro q hq
        obtain ⟨p, hpl, rfl⟩ := List.mem_map.1 hq
        obtain ⟨k1, k2, k3⟩ := hp p hpl
        have := hw p hpl
        refine pv_ok.2 ⟨k1, ?_, k3⟩
        simp only [dlW]; omega
      rw [W_eq (n := t + b) (by omega) (by omega)]
      have ha : askd x s (t + b) d ↔ askd x s t d := by unfold askd; constructor <;> (intro ⟨a1, a2, a3, a4⟩; exact ⟨a1, a2, by omega, a4⟩)
      by_cases h5 : askd x s t d
      · rw [scV_0 hv2 (ha.2 h5), scV_0 hv h5]
        unfold scS
        rw [shs_congr (g' := fun p => hrT p x s t d) (fun p hpl => hrT_later (hw p hpl).1)]
      · rw [scV_1 hv2 (fun h => h5 (ha.1 h)), scV_1 hv h5]
  · unfold dlV at h
    rw [if_neg hv] at h
    exact absurd h hv
theorem law_later (l : List PU) (b : Int) (x : P3 × Int × Int × Int) : F9_L l b x = true := by
  unfold F9_L
  rw [sane_t, Delay_f, Scene_f, Scene_f]
  by_cases h1 : ((l.length : Nat) : Int) > 60
  · rw [decide_eq_true h1]; rfl
  by_cases h2 : b < 0
  · rw [decide_eq_true h2]; simp
  by_cases h3 : b > 1000
  · rw [decide_eq_true h3]; simp
  by_cases h4 : (dlV l b).2 = 0
  · by_cases h5 : x.2.2.1 < 0
    · rw [decide_eq_true h5]; simp
    by_cases h6 : x.2.2.1 > 1000
    · rw [decide_eq_true h6]; simp
    rw [later_eq (by omega) (by omega) h4, spn_self]
    simp
  · rw [bne_iff_ne.2 h4]; simp

open Go.ChangeShapes Go.WideShapes Go.ChangeAt
theorem soundLater_len6 {l : List Int} (h : l.length = 6) : ∃ a0 a1 a2 a3 a4 a5, l = [a0, a1, a2, a3, a4, a5] := by
  match l, h with
  | [a0, a1, a2, a3, a4, a5], _ => exact ⟨a0, a1, a2, a3, a4, a5, rfl⟩
theorem soundLater_len11 {l : List Int} (h : l.length = 11) : ∃ a0 a1 a2 a3 a4 a5 a6 a7 a8 a9 a10, l = [a0, a1, a2, a3, a4, a5, a6, a7, a8, a9, a10] := by
  match l, h with
  | [a0, a1, a2, a3, a4, a5, a6, a7, a8, a9, a10], _ => exact ⟨a0, a1, a2, a3, a4, a5, a6, a7, a8, a9, a10, rfl⟩
def soundLater_mk41 (ns : List Int) : ((Int × Int × Int) × (Int × Int × Int) × Int × Int × Int) × Int × Int := ((((ns.getD 0 0), (ns.getD 1 0), (ns.getD 2 0)), ((ns.getD 3 0), (ns.getD 4 0), (ns.getD 5 0)), ((ns.getD 6 0), (ns.getD 7 0), (ns.getD 8 0))), (ns.getD 9 0), (ns.getD 10 0))
theorem soundLater_mkc41 (ns : List Int) (h : ns.length = 11) : c41 (soundLater_mk41 ns) = ns.map iv := by
  obtain ⟨a0, a1, a2, a3, a4, a5, a6, a7, a8, a9, a10, rfl⟩ := soundLater_len11 h
  rfl
set_option maxRecDepth 100000 in
theorem soundLater_lifted (os : Os) (started : os.Started) (H : Type) (enc : TypeId × Value → H) :
    ReturnsInHanded {} Try.checked os 9 .any (Rows.soundLaterSpec.pre6 enc Try.prog Try.f9 Rows.soundLaterRow.domain false) (Rows.soundLaterSpec.post enc Try.prog Try.f9 false true false false) := by
  refine returnsInHanded_of_change (C := Try.checked) own started (by kernel_rfl) Try.func9
    (ChangeSpec.witness6 (enc := enc) (C := Try.checked) false ⟨#[], #[.slice none 0 0, .int .i64 0, .agg #[.int .i64 0, .int .i64 0, .int .i64 0, .int .i64 0, .int .i64 0, .int .i64 0]], []⟩ 8 (by kernel_rfl) (by kernel_rfl) (by kernel_rfl) (by kernel_rfl)) ?_
  intro W base args ds gs before hval0 hW hcnd _
  have hval : ∀ (j : Nat) t v, Try.f9.params[j]? = some t → args[j]? = some v → Value.okWide Try.prog W .any base t v := hval0
  have hW' := hW
  obtain ⟨p, q, hA0, hV, rfl, hfz, hnd⟩ := hW
  have hA : DataW.TrodAll enc Try.prog W 0 (fun _ => true) true Try.f9.params.toList args.toList ds p := hA0
  rw [Try.params9] at hA hval
  obtain ⟨v0, vs0, d0, ds0, p0, q0, hargs, rfl, rfl, h0, r0⟩ := trodAll_cons hA
  obtain ⟨v1, vs1, d1, ds1, p1, q1, rfl, rfl, rfl, h1, r1⟩ := trodAll_cons r0
  obtain ⟨v2, vs2, d2, ds2, p2, q2, rfl, rfl, rfl, h2, r2⟩ := trodAll_cons r1
  obtain ⟨rfl, rfl, rfl⟩ := trodAll_nil r2
  obtain rfl : args = #[v0, v1, v2] := by cases args; simp_all
  obtain ⟨rfl, rfl⟩ := trodVars_none hV
  obtain ⟨⟨nss0, s0⟩, b0⟩ := open_list Try.underlying48 (by kernel_rfl) (show Try.prog.cellsOf 41 = 11 from by kernel_rfl) (hval 0 48 v0 rfl rfl) h0
  obtain ⟨x1, rfl, rfl, rfl, w1⟩ := open_int Try.underlying3 (hval 1 3 v1 rfl rfl) h1
  obtain ⟨rfl, ns2, rfl, l2⟩ := open_flat Try.underlying45 (by kernel_rfl) (hval 2 45 v2 rfl rfl) h2
  rw [show Try.prog.cellsOf 45 = 6 from by kernel_rfl] at l2
  obtain ⟨x2_0, x2_1, x2_2, x2_3, x2_4, x2_5, rfl⟩ := soundLater_len6 l2
  clear hA0 hval0 hval hA
  simp only [List.append_nil, List.nil_append] at hW'
  have hC : Con Try.prog 9 [.s 0 0 nss0.length 11, iv x1, .a ([x2_0, x2_1, x2_2, x2_3, x2_4, x2_5].map iv)] [.live false true ((nss0.flatten).map iv)] (.v (.bool true)) [] := by
    have h := C9_L (nss0.map soundLater_mk41) x1 ((x2_0, x2_1, x2_2), x2_3, x2_4, x2_5) (by rw [List.length_map]; exact s0.2.1)
    rw [law_later, flat_mk soundLater_mkc41 s0.1] at h
    simp only [List.length_map] at h
    exact h
  refine (law_calls1 (vs := [v0, .int .i64 x1, .agg ([x2_0, x2_1, x2_2, x2_3, x2_4, x2_5].map (Value.int .i64)).toArray]) hC s0 ⟨slice_rel s0 rfl, rfl, rel_agg [x2_0, x2_1, x2_2, x2_3, x2_4, x2_5], trivial⟩).mono fun e W' ⟨he, hb⟩ => ?_
  subst he
  have hargs2 := (all_mk (Below.trod laidOut (by kernel_rfl) (of_decide_eq_true (by kernel_rfl)) h0 hb b0) (all_mk (Below.trod laidOut (by kernel_rfl) (of_decide_eq_true (by kernel_rfl)) h1 hb (fun x hx => by cases hx)) (all_mk (Below.trod laidOut (by kernel_rfl) (of_decide_eq_true (by kernel_rfl)) h2 hb (fun x hx => by cases hx)) trodAll_mk0)))
  simp only [List.append_nil, List.nil_append] at hargs2
  exact ⟨_, rfl, post_below hW' hb (fun _ _ _ => (all_mk (shut_bool Try.underlying4 _) trodAll_mk0)) hargs2 rfl⟩
theorem soundLater_over : Rows.soundLaterRow.holds Try.pinned (OpenSpec.ofChange Rows.soundLaterSpec) :=
  OpenClaim.holds_of_wide 9 Try.f9 rfl rfl rfl rfl rfl rfl rfl ⟨rfl, rfl, rfl, rfl, rfl⟩ rfl rfl rfl rfl rfl (by kernel_rfl) Try.func9 (by kernel_rfl)
    (of_decide_eq_true (by kernel_rfl)) (by unfold Func.isWrapper; first | (rw [if_pos (by decide +kernel)]; kernel_rfl) | (rw [if_neg (by decide +kernel)]; exact ⟨rfl, rfl⟩))
    (fun os started H enc _ => soundLater_lifted os started H enc)
/-- THE STATEMENT -/
theorem soundLater_proved : Rows.SoundLaterSaid :=
  soundLater_over

end Go.Proofs.Ytopbnnmkdildgaa
