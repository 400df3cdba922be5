/-
  SoundWalls: for every list of pulses, point, speed, tick and depth the law returns true, and its arguments read behind the call as they read before. No condition.
-/
import Derived.Test.YtopbnnmkdildgaaVPwa4
import Derived.ProofKit
namespace Go.Proofs.Ytopbnnmkdildgaa
open Go.Proofs Go.Aw Go.RowKit
set_option maxRecDepth 100000
set_option linter.unusedVariables false
set_option linter.unusedSimpArgs false

/-- facet/facetlaw08.SoundWalls at ('L',) -/
def F12_L (a0 : List (((Int × Int × Int) × (Int × Int × Int) × Int × Int × Int) × Int × Int)) (a1 : (Int × Int × Int) × Int × Int × Int) : Bool :=
  (bif (decide ((((a0.length : Nat) : Int) : Int) > 60)) then
   F18
  else
   (bif (((F38_L a0 (a1.1.1, a1.1.2.1, 0) false a1.2.1 a1.2.2.1 a1.2.2.2).2 : Int) != (F38_L a0 (a1.1.1, a1.1.2.1, 0) true a1.2.1 a1.2.2.1 a1.2.2.2).2) then
    false
   else
    (bif (((F38_L a0 (a1.1.1, a1.1.2.1, 0) false a1.2.1 a1.2.2.1 a1.2.2.2).2 : Int) != 0) then
     F18
    else
     (bif (((F32_L a0 (a1.1.1, a1.1.2.1, 0) a1.2.1 a1.2.2.1 a1.2.2.2).2 : Int) == 0) then
      (bif (((F39 (F32_L a0 (a1.1.1, a1.1.2.1, 0) a1.2.1 a1.2.2.1 a1.2.2.2).1 2).2 : Int) == 0) then
       (bif ((((F38_L a0 (a1.1.1, a1.1.2.1, 0) false a1.2.1 a1.2.2.1 a1.2.2.2).1.1 : Int) == (F39 (F32_L a0 (a1.1.1, a1.1.2.1, 0) a1.2.1 a1.2.2.1 a1.2.2.2).1 2).1.1) && ((((F38_L a0 (a1.1.1, a1.1.2.1, 0) false a1.2.1 a1.2.2.1 a1.2.2.2).1.2 : Int) == (F39 (F32_L a0 (a1.1.1, a1.1.2.1, 0) a1.2.1 a1.2.2.1 a1.2.2.2).1 2).1.2) && true)) then
        (bif (decide (((F38_L a0 (a1.1.1, a1.1.2.1, 0) true a1.2.1 a1.2.2.1 a1.2.2.2).1.1 : Int) ≤ 0)) then
         (bif (decide (((F38_L a0 (a1.1.1, a1.1.2.1, 0) true a1.2.1 a1.2.2.1 a1.2.2.2).1.2 : Int) ≥ 0)) then
          F18
         else
          false)
        else
         false)
       else
        false)
      else
       false)
     else
      false))))

noncomputable def oC12_L_0 (a0 : List (((Int × Int × Int) × (Int × Int × Int) × Int × Int × Int) × Int × Int)) (a1 : (Int × Int × Int) × Int × Int × Int) : Or := .call [0] (.t [(.a (k2 (F32_L a0 (a1.1.1, a1.1.2.1, 0) a1.2.1 a1.2.2.1 a1.2.2.2).1)), (iv (F32_L a0 (a1.1.1, a1.1.2.1, 0) a1.2.1 a1.2.2.1 a1.2.2.2).2)]) []
noncomputable def oC12_L_1 (a0 : List (((Int × Int × Int) × (Int × Int × Int) × Int × Int × Int) × Int × Int)) (a1 : (Int × Int × Int) × Int × Int × Int) : Or := .call [0] (.t [(.a (k2 (F38_L a0 (a1.1.1, a1.1.2.1, 0) false a1.2.1 a1.2.2.1 a1.2.2.2).1)), (iv (F38_L a0 (a1.1.1, a1.1.2.1, 0) false a1.2.1 a1.2.2.1 a1.2.2.2).2)]) []
noncomputable def oC12_L_2 (a0 : List (((Int × Int × Int) × (Int × Int × Int) × Int × Int × Int) × Int × Int)) (a1 : (Int × Int × Int) × Int × Int × Int) : Or := .call [0] (.t [(.a (k2 (F38_L a0 (a1.1.1, a1.1.2.1, 0) true a1.2.1 a1.2.2.1 a1.2.2.2).1)), (iv (F38_L a0 (a1.1.1, a1.1.2.1, 0) true a1.2.1 a1.2.2.1 a1.2.2.2).2)]) []
noncomputable def oC12_L_3 (a0 : List (((Int × Int × Int) × (Int × Int × Int) × Int × Int × Int) × Int × Int)) (a1 : (Int × Int × Int) × Int × Int × Int) : Ob := .call 32 [(.s 0 0 a0.length 11), (.a [(iv a1.1.1), (iv a1.1.2.1), (iv 0)]), (iv a1.2.1), (iv a1.2.2.1), (iv a1.2.2.2)] [(.live false true (flat c41 a0))] (.t [(.a (k2 (F32_L a0 (a1.1.1, a1.1.2.1, 0) a1.2.1 a1.2.2.1 a1.2.2.2).1)), (iv (F32_L a0 (a1.1.1, a1.1.2.1, 0) a1.2.1 a1.2.2.1 a1.2.2.2).2)]) []
noncomputable def oC12_L_4 (a0 : List (((Int × Int × Int) × (Int × Int × Int) × Int × Int × Int) × Int × Int)) (a1 : (Int × Int × Int) × Int × Int × Int) : Ob := .call 38 [(.s 0 0 a0.length 11), (.a [(iv a1.1.1), (iv a1.1.2.1), (iv 0)]), (.v (.bool false)), (iv a1.2.1), (iv a1.2.2.1), (iv a1.2.2.2)] [(.live false true (flat c41 a0))] (.t [(.a (k2 (F38_L a0 (a1.1.1, a1.1.2.1, 0) false a1.2.1 a1.2.2.1 a1.2.2.2).1)), (iv (F38_L a0 (a1.1.1, a1.1.2.1, 0) false a1.2.1 a1.2.2.1 a1.2.2.2).2)]) []
noncomputable def oC12_L_5 (a0 : List (((Int × Int × Int) × (Int × Int × Int) × Int × Int × Int) × Int × Int)) (a1 : (Int × Int × Int) × Int × Int × Int) : Ob := .call 38 [(.s 0 0 a0.length 11), (.a [(iv a1.1.1), (iv a1.1.2.1), (iv 0)]), (.v (.bool true)), (iv a1.2.1), (iv a1.2.2.1), (iv a1.2.2.2)] [(.live false true (flat c41 a0))] (.t [(.a (k2 (F38_L a0 (a1.1.1, a1.1.2.1, 0) true a1.2.1 a1.2.2.1 a1.2.2.2).1)), (iv (F38_L a0 (a1.1.1, a1.1.2.1, 0) true a1.2.1 a1.2.2.1 a1.2.2.2).2)]) []
noncomputable def oC12_L_6 (a0 : List (((Int × Int × Int) × (Int × Int × Int) × Int × Int × Int) × Int × Int)) (a1 : (Int × Int × Int) × Int × Int × Int) : Ob := .eq (((F38_L a0 (a1.1.1, a1.1.2.1, 0) false a1.2.1 a1.2.2.1 a1.2.2.2).2 : Int) != (F38_L a0 (a1.1.1, a1.1.2.1, 0) true a1.2.1 a1.2.2.1 a1.2.2.2).2) false
noncomputable def oC12_L_7 (a0 : List (((Int × Int × Int) × (Int × Int × Int) × Int × Int × Int) × Int × Int)) (a1 : (Int × Int × Int) × Int × Int × Int) : Or := .call [] (.t [(.a (k2 (F39 (F32_L a0 (a1.1.1, a1.1.2.1, 0) a1.2.1 a1.2.2.1 a1.2.2.2).1 2).1)), (iv (F39 (F32_L a0 (a1.1.1, a1.1.2.1, 0) a1.2.1 a1.2.2.1 a1.2.2.2).1 2).2)]) []
noncomputable def oC12_L_8 (a0 : List (((Int × Int × Int) × (Int × Int × Int) × Int × Int × Int) × Int × Int)) (a1 : (Int × Int × Int) × Int × Int × Int) : Ob := .eq (((F38_L a0 (a1.1.1, a1.1.2.1, 0) false a1.2.1 a1.2.2.1 a1.2.2.2).2 : Int) != 0) false
noncomputable def oC12_L_9 (a0 : List (((Int × Int × Int) × (Int × Int × Int) × Int × Int × Int) × Int × Int)) (a1 : (Int × Int × Int) × Int × Int × Int) : Ob := .call 39 [(.a (k2 (F32_L a0 (a1.1.1, a1.1.2.1, 0) a1.2.1 a1.2.2.1 a1.2.2.2).1)), (iv 2)] [] (.t [(.a (k2 (F39 (F32_L a0 (a1.1.1, a1.1.2.1, 0) a1.2.1 a1.2.2.1 a1.2.2.2).1 2).1)), (iv (F39 (F32_L a0 (a1.1.1, a1.1.2.1, 0) a1.2.1 a1.2.2.1 a1.2.2.2).1 2).2)]) []
noncomputable def oC12_L_10 (a0 : List (((Int × Int × Int) × (Int × Int × Int) × Int × Int × Int) × Int × Int)) (a1 : (Int × Int × Int) × Int × Int × Int) : Ob := .eq (((F32_L a0 (a1.1.1, a1.1.2.1, 0) a1.2.1 a1.2.2.1 a1.2.2.2).2 : Int) == 0) true
noncomputable def oC12_L_11 (a0 : List (((Int × Int × Int) × (Int × Int × Int) × Int × Int × Int) × Int × Int)) (a1 : (Int × Int × Int) × Int × Int × Int) : Ob := .eq (((F39 (F32_L a0 (a1.1.1, a1.1.2.1, 0) a1.2.1 a1.2.2.1 a1.2.2.2).1 2).2 : Int) == 0) true
noncomputable def oC12_L_12 (a0 : List (((Int × Int × Int) × (Int × Int × Int) × Int × Int × Int) × Int × Int)) (a1 : (Int × Int × Int) × Int × Int × Int) : Ob := .eq ((((F38_L a0 (a1.1.1, a1.1.2.1, 0) false a1.2.1 a1.2.2.1 a1.2.2.2).1.1 : Int) == (F39 (F32_L a0 (a1.1.1, a1.1.2.1, 0) a1.2.1 a1.2.2.1 a1.2.2.2).1 2).1.1) && ((((F38_L a0 (a1.1.1, a1.1.2.1, 0) false a1.2.1 a1.2.2.1 a1.2.2.2).1.2 : Int) == (F39 (F32_L a0 (a1.1.1, a1.1.2.1, 0) a1.2.1 a1.2.2.1 a1.2.2.2).1 2).1.2) && true)) true
theorem C12_L (a0 : List (((Int × Int × Int) × (Int × Int × Int) × Int × Int × Int) × Int × Int)) (a1 : (Int × Int × Int) × Int × Int × Int) (l0 : a0.length ≤ 9223372036854775807) : Con Try.prog 12 [(.s 0 0 a0.length 11), (.a [(iv a1.1.1), (iv a1.1.2.1), (iv a1.1.2.2), (iv a1.2.1), (iv a1.2.2.1), (iv a1.2.2.2)])] [(.live false true (flat c41 a0))] (.v (.bool (F12_L a0 a1))) [] := by
  cases h0 : (decide ((((a0.length : Nat) : Int) : Int) > 60)) with
  | true =>
    have q0 := of_decide_eq_true h0
    have e : (F12_L a0 a1) = F18 := by simp only [F12_L, h0, cond_true, cond_false]
    rw [e]
    refine con_of (n := 9) Try.func12 rfl (ent Try.func12 (by kernel_rfl) rfl) (by show 2 ≤ Try.f12.ntmps; decide) (by kernel_rfl) ⟨rfl, trivial⟩ (fun cx hcx => ?_)
    exact ret_of (T := T0) hT hm (f := 5000) (orc := [.d true, .call [] (.v (.bool F18)) []]) [] [] [] hcx
      (obs := [.eq (decide ((((a0.length : Nat) : Int) : Int) > 60)) true, .call 18 [] [] (.v (.bool F18)) []]) (by kernel_rfl) ⟨h0, (C18), trivial⟩
  | false =>
    cases h1 : (((F38_L a0 (a1.1.1, a1.1.2.1, 0) false a1.2.1 a1.2.2.1 a1.2.2.2).2 : Int) != (F38_L a0 (a1.1.1, a1.1.2.1, 0) true a1.2.1 a1.2.2.1 a1.2.2.2).2) with
    | true =>
      have q0 := of_decide_eq_false h0
      have q1 := bne_iff_ne.1 h1
      have e : (F12_L a0 a1) = false := by simp only [F12_L, h0, h1, cond_true, cond_false]
      rw [e]
      refine con_of (n := 9) Try.func12 rfl (ent Try.func12 (by kernel_rfl) rfl) (by show 2 ≤ Try.f12.ntmps; decide) (by kernel_rfl) ⟨rfl, trivial⟩ (fun cx hcx => ?_)
      exact ret_of (T := T0) hT hm (f := 5000) (orc := [.d false, (oC12_L_0 a0 a1), (oC12_L_1 a0 a1), (oC12_L_2 a0 a1), .d true]) [] [] [] hcx
        (obs := [.eq (decide ((((a0.length : Nat) : Int) : Int) > 60)) false, (oC12_L_3 a0 a1), (oC12_L_4 a0 a1), (oC12_L_5 a0 a1), .eq (((F38_L a0 (a1.1.1, a1.1.2.1, 0) false a1.2.1 a1.2.2.1 a1.2.2.2).2 : Int) != (F38_L a0 (a1.1.1, a1.1.2.1, 0) true a1.2.1 a1.2.2.1 a1.2.2.2).2) true]) (by kernel_rfl) ⟨h0, (C32_L a0 (a1.1.1, a1.1.2.1, 0) a1.2.1 a1.2.2.1 a1.2.2.2 (by (try simp only [List.length_append, List.length_cons, List.length_nil, Int.toNat_zero]); omega)), (C38_L a0 (a1.1.1, a1.1.2.1, 0) false a1.2.1 a1.2.2.1 a1.2.2.2 (by (try simp only [List.length_append, List.length_cons, List.length_nil, Int.toNat_zero]); omega)), (C38_L a0 (a1.1.1, a1.1.2.1, 0) true a1.2.1 a1.2.2.1 a1.2.2.2 (by (try simp only [List.length_append, List.length_cons, List.length_nil, Int.toNat_zero]); omega)), h1, trivial⟩
    | false =>
      cases h2 : (((F38_L a0 (a1.1.1, a1.1.2.1, 0) false a1.2.1 a1.2.2.1 a1.2.2.2).2 : Int) != 0) with
      | true =>
        have q0 := of_decide_eq_false h0
        have q1 := bne_eq_false_iff_eq.1 h1
        have q2 := bne_iff_ne.1 h2
        have e : (F12_L a0 a1) = F18 := by simp only [F12_L, h0, h1, h2, cond_true, cond_false]
        rw [e]
        refine con_of (n := 9) Try.func12 rfl (ent Try.func12 (by kernel_rfl) rfl) (by show 2 ≤ Try.f12.ntmps; decide) (by kernel_rfl) ⟨rfl, trivial⟩ (fun cx hcx => ?_)
        exact ret_of (T := T0) hT hm (f := 5000) (orc := [.d false, (oC12_L_0 a0 a1), (oC12_L_1 a0 a1), (oC12_L_2 a0 a1), .d false, .d true, .call [] (.v (.bool F18)) []]) [] [] [] hcx
          (obs := [.eq (decide ((((a0.length : Nat) : Int) : Int) > 60)) false, (oC12_L_3 a0 a1), (oC12_L_4 a0 a1), (oC12_L_5 a0 a1), (oC12_L_6 a0 a1), .eq (((F38_L a0 (a1.1.1, a1.1.2.1, 0) false a1.2.1 a1.2.2.1 a1.2.2.2).2 : Int) != 0) true, .call 18 [] [] (.v (.bool F18)) []]) (by kernel_rfl) ⟨h0, (C32_L a0 (a1.1.1, a1.1.2.1, 0) a1.2.1 a1.2.2.1 a1.2.2.2 (by (try simp only [List.length_append, List.length_cons, List.length_nil, Int.toNat_zero]); omega)), (C38_L a0 (a1.1.1, a1.1.2.1, 0) false a1.2.1 a1.2.2.1 a1.2.2.2 (by (try simp only [List.length_append, List.length_cons, List.length_nil, Int.toNat_zero]); omega)), (C38_L a0 (a1.1.1, a1.1.2.1, 0) true a1.2.1 a1.2.2.1 a1.2.2.2 (by (try simp only [List.length_append, List.length_cons, List.length_nil, Int.toNat_zero]); omega)), h1, h2, (C18), trivial⟩
      | false =>
        cases h3 : (((F32_L a0 (a1.1.1, a1.1.2.1, 0) a1.2.1 a1.2.2.1 a1.2.2.2).2 : Int) == 0) with
        | true =>
          cases h4 : (((F39 (F32_L a0 (a1.1.1, a1.1.2.1, 0) a1.2.1 a1.2.2.1 a1.2.2.2).1 2).2 : Int) == 0) with
          | true =>
            cases h5 : ((((F38_L a0 (a1.1.1, a1.1.2.1, 0) false a1.2.1 a1.2.2.1 a1.2.2.2).1.1 : Int) == (F39 (F32_L a0 (a1.1.1, a1.1.2.1, 0) a1.2.1 a1.2.2.1 a1.2.2.2).1 2).1.1) && ((((F38_L a0 (a1.1.1, a1.1.2.1, 0) false a1.2.1 a1.2.2.1 a1.2.2.2).1.2 : Int) == (F39 (F32_L a0 (a1.1.1, a1.1.2.1, 0) a1.2.1 a1.2.2.1 a1.2.2.2).1 2).1.2) && true)) with
            | true =>
              cases h6 : (decide (((F38_L a0 (a1.1.1, a1.1.2.1, 0) true a1.2.1 a1.2.2.1 a1.2.2.2).1.1 : Int) ≤ 0)) with
              | true =>
                cases h7 : (decide (((F38_L a0 (a1.1.1, a1.1.2.1, 0) true a1.2.1 a1.2.2.1 a1.2.2.2).1.2 : Int) ≥ 0)) with
                | true =>
                  have q0 := of_decide_eq_false h0
                  have q1 := bne_eq_false_iff_eq.1 h1
                  have q2 := bne_eq_false_iff_eq.1 h2
                  have q3 := eq_of_beq h3
                  have q4 := eq_of_beq h4
                  have q6 := of_decide_eq_true h6
                  have q7 := of_decide_eq_true h7
                  have e : (F12_L a0 a1) = F18 := by simp only [F12_L, h0, h1, h2, h3, h4, h5, h6, h7, cond_true, cond_false]
                  rw [e]
                  refine con_of (n := 9) Try.func12 rfl (ent Try.func12 (by kernel_rfl) rfl) (by show 2 ≤ Try.f12.ntmps; decide) (by kernel_rfl) ⟨rfl, trivial⟩ (fun cx hcx => ?_)
                  exact ret_of (T := T0) hT hm (f := 5000) (orc := [.d false, (oC12_L_0 a0 a1), (oC12_L_1 a0 a1), (oC12_L_2 a0 a1), .d false, .d false, (oC12_L_7 a0 a1), .d true, .d true, .d true, .d true, .d true, .call [] (.v (.bool F18)) []]) [] [] [] hcx
                    (obs := [.eq (decide ((((a0.length : Nat) : Int) : Int) > 60)) false, (oC12_L_3 a0 a1), (oC12_L_4 a0 a1), (oC12_L_5 a0 a1), (oC12_L_6 a0 a1), (oC12_L_8 a0 a1), (oC12_L_9 a0 a1), (oC12_L_10 a0 a1), (oC12_L_11 a0 a1), (oC12_L_12 a0 a1), .eq (decide (((F38_L a0 (a1.1.1, a1.1.2.1, 0) true a1.2.1 a1.2.2.1 a1.2.2.2).1.1 : Int) ≤ 0)) true, .eq (decide (((F38_L a0 (a1.1.1, a1.1.2.1, 0) true a1.2.1 a1.2.2.1 a1.2.2.2).1.2 : Int) ≥ 0)) true, .call 18 [] [] (.v (.bool F18)) []]) (by kernel_rfl) ⟨h0, (C32_L a0 (a1.1.1, a1.1.2.1, 0) a1.2.1 a1.2.2.1 a1.2.2.2 (by (try simp only [List.length_append, List.length_cons, List.length_nil, Int.toNat_zero]); omega)), (C38_L a0 (a1.1.1, a1.1.2.1, 0) false a1.2.1 a1.2.2.1 a1.2.2.2 (by (try simp only [List.length_append, List.length_cons, List.length_nil, Int.toNat_zero]); omega)), (C38_L a0 (a1.1.1, a1.1.2.1, 0) true a1.2.1 a1.2.2.1 a1.2.2.2 (by (try simp only [List.length_append, List.length_cons, List.length_nil, Int.toNat_zero]); omega)), h1, h2, (C39 (F32_L a0 (a1.1.1, a1.1.2.1, 0) a1.2.1 a1.2.2.1 a1.2.2.2).1 2), h3, h4, h5, h6, h7, (C18), trivial⟩
                | false =>
                  have q0 := of_decide_eq_false h0
                  have q1 := bne_eq_false_iff_eq.1 h1
                  have q2 := bne_eq_false_iff_eq.1 h2
                  have q3 := eq_of_beq h3
                  have q4 := eq_of_beq h4
                  have q6 := of_decide_eq_true h6
                  have q7 := of_decide_eq_false h7
                  have e : (F12_L a0 a1) = false := by simp only [F12_L, h0, h1, h2, h3, h4, h5, h6, h7, cond_true, cond_false]
                  rw [e]
                  refine con_of (n := 9) Try.func12 rfl (ent Try.func12 (by kernel_rfl) rfl) (by show 2 ≤ Try.f12.ntmps; decide) (by kernel_rfl) ⟨rfl, trivial⟩ (fun cx hcx => ?_)
                  exact ret_of (T := T0) hT hm (f := 5000) (orc := [.d false, (oC12_L_0 a0 a1), (oC12_L_1 a0 a1), (oC12_L_2 a0 a1), .d false, .d false, (oC12_L_7 a0 a1), .d true, .d true, .d true, .d true, .d false]) [] [] [] hcx
                    (obs := [.eq (decide ((((a0.length : Nat) : Int) : Int) > 60)) false, (oC12_L_3 a0 a1), (oC12_L_4 a0 a1), (oC12_L_5 a0 a1), (oC12_L_6 a0 a1), (oC12_L_8 a0 a1), (oC12_L_9 a0 a1), (oC12_L_10 a0 a1), (oC12_L_11 a0 a1), (oC12_L_12 a0 a1), .eq (decide (((F38_L a0 (a1.1.1, a1.1.2.1, 0) true a1.2.1 a1.2.2.1 a1.2.2.2).1.1 : Int) ≤ 0)) true, .eq (decide (((F38_L a0 (a1.1.1, a1.1.2.1, 0) true a1.2.1 a1.2.2.1 a1.2.2.2).1.2 : Int) ≥ 0)) false]) (by kernel_rfl) ⟨h0, (C32_L a0 (a1.1.1, a1.1.2.1, 0) a1.2.1 a1.2.2.1 a1.2.2.2 (by (try simp only [List.length_append, List.length_cons, List.length_nil, Int.toNat_zero]); omega)), (C38_L a0 (a1.1.1, a1.1.2.1, 0) false a1.2.1 a1.2.2.1 a1.2.2.2 (by (try simp only [List.length_append, List.length_cons, List.length_nil, Int.toNat_zero]); omega)), (C38_L a0 (a1.1.1, a1.1.2.1, 0) true a1.2.1 a1.2.2.1 a1.2.2.2 (by (try simp only [List.length_append, List.length_cons, List.length_nil, Int.toNat_zero]); omega)), h1, h2, (C39 (F32_L a0 (a1.1.1, a1.1.2.1, 0) a1.2.1 a1.2.2.1 a1.2.2.2).1 2), h3, h4, h5, h6, h7, trivial⟩
              | false =>
                have q0 := of_decide_eq_false h0
                have q1 := bne_eq_false_iff_eq.1 h1
                have q2 := bne_eq_false_iff_eq.1 h2
                have q3 := eq_of_beq h3
                have q4 := eq_of_beq h4
                have q6 := of_decide_eq_false h6
                have e : (F12_L a0 a1) = false := by simp only [F12_L, h0, h1, h2, h3, h4, h5, h6, cond_true, cond_false]
                rw [e]
                refine con_of (n := 9) Try.func12 rfl (ent Try.func12 (by kernel_rfl) rfl) (by show 2 ≤ Try.f12.ntmps; decide) (by kernel_rfl) ⟨rfl, trivial⟩ (fun cx hcx => ?_)
                exact ret_of (T := T0) hT hm (f := 5000) (orc := [.d false, (oC12_L_0 a0 a1), (oC12_L_1 a0 a1), (oC12_L_2 a0 a1), .d false, .d false, (oC12_L_7 a0 a1), .d true, .d true, .d true, .d false]) [] [] [] hcx
                  (obs := [.eq (decide ((((a0.length : Nat) : Int) : Int) > 60)) false, (oC12_L_3 a0 a1), (oC12_L_4 a0 a1), (oC12_L_5 a0 a1), (oC12_L_6 a0 a1), (oC12_L_8 a0 a1), (oC12_L_9 a0 a1), (oC12_L_10 a0 a1), (oC12_L_11 a0 a1), (oC12_L_12 a0 a1), .eq (decide (((F38_L a0 (a1.1.1, a1.1.2.1, 0) true a1.2.1 a1.2.2.1 a1.2.2.2).1.1 : Int) ≤ 0)) false]) (by kernel_rfl) ⟨h0, (C32_L a0 (a1.1.1, a1.1.2.1, 0) a1.2.1 a1.2.2.1 a1.2.2.2 (by (try simp only [List.length_append, List.length_cons, List.length_nil, Int.toNat_zero]); omega)), (C38_L a0 (a1.1.1, a1.1.2.1, 0) false a1.2.1 a1.2.2.1 a1.2.2.2 (by (try simp only [List.length_append, List.length_cons, List.length_nil, Int.toNat_zero]); omega)), (C38_L a0 (a1.1.1, a1.1.2.1, 0) true a1.2.1 a1.2.2.1 a1.2.2.2 (by (try simp only [List.length_append, List.length_cons, List.length_nil, Int.toNat_zero]); omega)), h1, h2, (C39 (F32_L a0 (a1.1.1, a1.1.2.1, 0) a1.2.1 a1.2.2.1 a1.2.2.2).1 2), h3, h4, h5, h6, trivial⟩
            | false =>
              have q0 := of_decide_eq_false h0
              have q1 := bne_eq_false_iff_eq.1 h1
              have q2 := bne_eq_false_iff_eq.1 h2
              have q3 := eq_of_beq h3
              have q4 := eq_of_beq h4
              have e : (F12_L a0 a1) = false := by simp only [F12_L, h0, h1, h2, h3, h4, h5, cond_true, cond_false]
              rw [e]
              refine con_of (n := 9) Try.func12 rfl (ent Try.func12 (by kernel_rfl) rfl) (by show 2 ≤ Try.f12.ntmps; decide) (by kernel_rfl) ⟨rfl, trivial⟩ (fun cx hcx => ?_)
              exact ret_of (T := T0) hT hm (f := 5000) (orc := [.d false, (oC12_L_0 a0 a1), (oC12_L_1 a0 a1), (oC12_L_2 a0 a1), .d false, .d false, (oC12_L_7 a0 a1), .d true, .d true, .d false]) [] [] [] hcx
                (obs := [.eq (decide ((((a0.length : Nat) : Int) : Int) > 60)) false, (oC12_L_3 a0 a1), (oC12_L_4 a0 a1), (oC12_L_5 a0 a1), (oC12_L_6 a0 a1), (oC12_L_8 a0 a1), (oC12_L_9 a0 a1), (oC12_L_10 a0 a1), (oC12_L_11 a0 a1), .eq ((((F38_L a0 (a1.1.1, a1.1.2.1, 0) false a1.2.1 a1.2.2.1 a1.2.2.2).1.1 : Int) == (F39 (F32_L a0 (a1.1.1, a1.1.2.1, 0) a1.2.1 a1.2.2.1 a1.2.2.2).1 2).1.1) && ((((F38_L a0 (a1.1.1, a1.1.2.1, 0) false a1.2.1 a1.2.2.1 a1.2.2.2).1.2 : Int) == (F39 (F32_L a0 (a1.1.1, a1.1.2.1, 0) a1.2.1 a1.2.2.1 a1.2.2.2).1 2).1.2) && true)) false]) (by kernel_rfl) ⟨h0, (C32_L a0 (a1.1.1, a1.1.2.1, 0) a1.2.1 a1.2.2.1 a1.2.2.2 (by (try simp only [List.length_append, List.length_cons, List.length_nil, Int.toNat_zero]); omega)), (C38_L a0 (a1.1.1, a1.1.2.1, 0) false a1.2.1 a1.2.2.1 a1.2.2.2 (by (try simp only [List.length_append, List.length_cons, List.length_nil, Int.toNat_zero]); omega)), (C38_L a0 (a1.1.1, a1.1.2.1, 0) true a1.2.1 a1.2.2.1 a1.2.2.2 (by (try simp only [List.length_append, List.length_cons, List.length_nil, Int.toNat_zero]); omega)), h1, h2, (C39 (F32_L a0 (a1.1.1, a1.1.2.1, 0) a1.2.1 a1.2.2.1 a1.2.2.2).1 2), h3, h4, h5, trivial⟩
          | false =>
            have q0 := of_decide_eq_false h0
            have q1 := bne_eq_false_iff_eq.1 h1
            have q2 := bne_eq_false_iff_eq.1 h2
            have q3 := eq_of_beq h3
            have q4 := ne_of_beq_false h4
            have e : (F12_L a0 a1) = false := by simp only [F12_L, h0, h1, h2, h3, h4, cond_true, cond_false]
            rw [e]
            refine con_of (n := 9) Try.func12 rfl (ent Try.func12 (by kernel_rfl) rfl) (by show 2 ≤ Try.f12.ntmps; decide) (by kernel_rfl) ⟨rfl, trivial⟩ (fun cx hcx => ?_)
            exact ret_of (T := T0) hT hm (f := 5000) (orc := [.d false, (oC12_L_0 a0 a1), (oC12_L_1 a0 a1), (oC12_L_2 a0 a1), .d false, .d false, (oC12_L_7 a0 a1), .d true, .d false]) [] [] [] hcx
              (obs := [.eq (decide ((((a0.length : Nat) : Int) : Int) > 60)) false, (oC12_L_3 a0 a1), (oC12_L_4 a0 a1), (oC12_L_5 a0 a1), (oC12_L_6 a0 a1), (oC12_L_8 a0 a1), (oC12_L_9 a0 a1), (oC12_L_10 a0 a1), .eq (((F39 (F32_L a0 (a1.1.1, a1.1.2.1, 0) a1.2.1 a1.2.2.1 a1.2.2.2).1 2).2 : Int) == 0) false]) (by kernel_rfl) ⟨h0, (C32_L a0 (a1.1.1, a1.1.2.1, 0) a1.2.1 a1.2.2.1 a1.2.2.2 (by (try simp only [List.length_append, List.length_cons, List.length_nil, Int.toNat_zero]); omega)), (C38_L a0 (a1.1.1, a1.1.2.1, 0) false a1.2.1 a1.2.2.1 a1.2.2.2 (by (try simp only [List.length_append, List.length_cons, List.length_nil, Int.toNat_zero]); omega)), (C38_L a0 (a1.1.1, a1.1.2.1, 0) true a1.2.1 a1.2.2.1 a1.2.2.2 (by (try simp only [List.length_append, List.length_cons, List.length_nil, Int.toNat_zero]); omega)), h1, h2, (C39 (F32_L a0 (a1.1.1, a1.1.2.1, 0) a1.2.1 a1.2.2.1 a1.2.2.2).1 2), h3, h4, trivial⟩
        | false =>
          have q0 := of_decide_eq_false h0
          have q1 := bne_eq_false_iff_eq.1 h1
          have q2 := bne_eq_false_iff_eq.1 h2
          have q3 := ne_of_beq_false h3
          have e : (F12_L a0 a1) = false := by simp only [F12_L, h0, h1, h2, h3, cond_true, cond_false]
          rw [e]
          refine con_of (n := 9) Try.func12 rfl (ent Try.func12 (by kernel_rfl) rfl) (by show 2 ≤ Try.f12.ntmps; decide) (by kernel_rfl) ⟨rfl, trivial⟩ (fun cx hcx => ?_)
          exact ret_of (T := T0) hT hm (f := 5000) (orc := [.d false, (oC12_L_0 a0 a1), (oC12_L_1 a0 a1), (oC12_L_2 a0 a1), .d false, .d false, (oC12_L_7 a0 a1), .d false]) [] [] [] hcx
            (obs := [.eq (decide ((((a0.length : Nat) : Int) : Int) > 60)) false, (oC12_L_3 a0 a1), (oC12_L_4 a0 a1), (oC12_L_5 a0 a1), (oC12_L_6 a0 a1), (oC12_L_8 a0 a1), (oC12_L_9 a0 a1), .eq (((F32_L a0 (a1.1.1, a1.1.2.1, 0) a1.2.1 a1.2.2.1 a1.2.2.2).2 : Int) == 0) false]) (by kernel_rfl) ⟨h0, (C32_L a0 (a1.1.1, a1.1.2.1, 0) a1.2.1 a1.2.2.1 a1.2.2.2 (by (try simp only [List.length_append, List.length_cons, List.length_nil, Int.toNat_zero]); omega)), (C38_L a0 (a1.1.1, a1.1.2.1, 0) false a1.2.1 a1.2.2.1 a1.2.2.2 (by (try simp only [List.length_append, List.length_cons, List.length_nil, Int.toNat_zero]); omega)), (C38_L a0 (a1.1.1, a1.1.2.1, 0) true a1.2.1 a1.2.2.1 a1.2.2.2 (by (try simp only [List.length_append, List.length_cons, List.length_nil, Int.toNat_zero]); omega)), h1, h2, (C39 (F32_L a0 (a1.1.1, a1.1.2.1, 0) a1.2.1 a1.2.2.1 a1.2.2.2).1 2), h3, trivial⟩

theorem scV_w {l : List PU} {x : P3} {s t d : Int} (hv : vpL l = 0) (ha : askd x s t d) : scV l x s t d = scS l x s t d := by
  unfold scV; rw [if_pos hv, if_pos ha]
theorem law_walls (l : List PU) (x : P3 × Int × Int × Int) : F12_L l x = true := by
  unfold F12_L
  rw [sane_t]
  by_cases h1 : ((l.length : Nat) : Int) > 60
  · rw [decide_eq_true h1]; rfl
  rw [decide_eq_false h1, cond_false]
  generalize hX : ((x.1.1, x.1.2.1, 0) : P3) = X
  have hX0 : X.2.2 = 0 := by rw [← hX]
  simp only [Echo_f, Scene_f]
  have herr : ∀ soft : Bool, (imV l soft).2 = (imV l false).2 := fun soft => by
    unfold imV
    (repeat' split) <;> first | rfl | contradiction
  have hE : (∃ e, e ≠ 0 ∧ ∀ soft : Bool, ecV l X soft x.2.1 x.2.2.1 x.2.2.2 = ((0, 0), e)) ∨
      (∃ a : Int × Int, scV l X x.2.1 x.2.2.1 x.2.2.2 = (a, 0) ∧ ecV l X false x.2.1 x.2.2.1 x.2.2.2 = ((a.1 + a.1, a.2 + a.2), 0) ∧ ecV l X true x.2.1 x.2.2.1 x.2.2.2 = ((a.1 - a.2, a.2 - a.1), 0) ∧ (-429496730400 ≤ a.1 ∧ a.1 ≤ a.2 ∧ a.2 ≤ 429496730400)) := by
    unfold ecV
    by_cases h2 : (imV l false).2 = 0
    · by_cases h3 : askd X x.2.1 x.2.2.1 x.2.2.2
      · obtain ⟨hv, e1, hl, _⟩ := imV_ok h2
        obtain ⟨_, e2, _, _⟩ := imV_ok ((herr true).trans h2)
        have hp := (vpL_ok hv).2
        rcases wall_eq (s := x.2.1) (t := x.2.2.1) hp h3.2.2.2 hX0 with ⟨e, he, hs, hw⟩ | ⟨a, hs, hw1, hw2⟩
        · refine .inl ⟨e, he, fun soft => ?_⟩
          rw [if_pos ((herr soft).trans h2), if_pos ⟨h3, by omega⟩, (imV_ok ((herr soft).trans h2)).2.1, hw]
        · refine .inr ⟨a, ?_, ?_, ?_, ?_⟩
          · rw [scV_w hv h3, hs]
          · rw [if_pos h2, if_pos ⟨h3, by omega⟩, e1, hw1]
          · rw [if_pos ((herr true).trans h2), if_pos ⟨h3, by omega⟩, e2, hw2]
          · have := scS_half (s := x.2.1) (t := x.2.2.1) (x := X) hl hp h3.2.2.2
            rw [hs] at this; exact this
      · refine .inl ⟨1, by decide, fun soft => ?_⟩
        rw [if_pos ((herr soft).trans h2), if_neg (fun h => h3 h.1)]
    · exact .inl ⟨_, h2, fun soft => by rw [if_neg (by rw [herr]; exact h2), herr]⟩
  rcases hE with ⟨e, he, h⟩ | ⟨a, h1, h2, h3, hb⟩
  · rw [h, h]
    simp [he]
  · rw [h1, h2, h3, twice_f hb]
    simp only [bne_self_eq_false, cond_false, beq_self_eq_true, cond_true, Bool.and_self]
    rw [decide_eq_true (show a.1 - a.2 ≤ 0 by omega), decide_eq_true (show a.2 - a.1 ≥ 0 by omega)]; rfl

open Go.ChangeShapes Go.WideShapes Go.ChangeAt
theorem soundWalls_len6 {l : List Int} (h : l.length = 6) : ∃ a0 a1 a2 a3 a4 a5, l = [a0, a1, a2, a3, a4, a5] := by
  match l, h with
  | [a0, a1, a2, a3, a4, a5], _ => exact ⟨a0, a1, a2, a3, a4, a5, rfl⟩
theorem soundWalls_len11 {l : List Int} (h : l.length = 11) : ∃ a0 a1 a2 a3 a4 a5 a6 a7 a8 a9 a10, l = [a0, a1, a2, a3, a4, a5, a6, a7, a8, a9, a10] := by
  match l, h with
  | [a0, a1, a2, a3, a4, a5, a6, a7, a8, a9, a10], _ => exact ⟨a0, a1, a2, a3, a4, a5, a6, a7, a8, a9, a10, rfl⟩
def soundWalls_mk41 (ns : List Int) : ((Int × Int × Int) × (Int × Int × Int) × Int × Int × Int) × Int × Int := ((((ns.getD 0 0), (ns.getD 1 0), (ns.getD 2 0)), ((ns.getD 3 0), (ns.getD 4 0), (ns.getD 5 0)), ((ns.getD 6 0), (ns.getD 7 0), (ns.getD 8 0))), (ns.getD 9 0), (ns.getD 10 0))
theorem soundWalls_mkc41 (ns : List Int) (h : ns.length = 11) : c41 (soundWalls_mk41 ns) = ns.map iv := by
  obtain ⟨a0, a1, a2, a3, a4, a5, a6, a7, a8, a9, a10, rfl⟩ := soundWalls_len11 h
  rfl
set_option maxRecDepth 100000 in
theorem soundWalls_lifted (os : Os) (started : os.Started) (H : Type) (enc : TypeId × Value → H) :
    ReturnsInHanded {} Try.checked os 12 .any (Rows.soundWallsSpec.pre6 enc Try.prog Try.f12 Rows.soundWallsRow.domain false) (Rows.soundWallsSpec.post enc Try.prog Try.f12 false true false false) := by
  refine returnsInHanded_of_change (C := Try.checked) own started (by kernel_rfl) Try.func12
    (ChangeSpec.witness6 (enc := enc) (C := Try.checked) false ⟨#[], #[.slice none 0 0, .agg #[.int .i64 0, .int .i64 0, .int .i64 0, .int .i64 0, .int .i64 0, .int .i64 0]], []⟩ 8 (by kernel_rfl) (by kernel_rfl) (by kernel_rfl) (by kernel_rfl)) ?_
  intro W base args ds gs before hval0 hW hcnd _
  have hval : ∀ (j : Nat) t v, Try.f12.params[j]? = some t → args[j]? = some v → Value.okWide Try.prog W .any base t v := hval0
  have hW' := hW
  obtain ⟨p, q, hA0, hV, rfl, hfz, hnd⟩ := hW
  have hA : DataW.TrodAll enc Try.prog W 0 (fun _ => true) true Try.f12.params.toList args.toList ds p := hA0
  rw [Try.params12] at hA hval
  obtain ⟨v0, vs0, d0, ds0, p0, q0, hargs, rfl, rfl, h0, r0⟩ := trodAll_cons hA
  obtain ⟨v1, vs1, d1, ds1, p1, q1, rfl, rfl, rfl, h1, r1⟩ := trodAll_cons r0
  obtain ⟨rfl, rfl, rfl⟩ := trodAll_nil r1
  obtain rfl : args = #[v0, v1] := by cases args; simp_all
  obtain ⟨rfl, rfl⟩ := trodVars_none hV
  obtain ⟨⟨nss0, s0⟩, b0⟩ := open_list Try.underlying48 (by kernel_rfl) (show Try.prog.cellsOf 41 = 11 from by kernel_rfl) (hval 0 48 v0 rfl rfl) h0
  obtain ⟨rfl, ns1, rfl, l1⟩ := open_flat Try.underlying45 (by kernel_rfl) (hval 1 45 v1 rfl rfl) h1
  rw [show Try.prog.cellsOf 45 = 6 from by kernel_rfl] at l1
  obtain ⟨x1_0, x1_1, x1_2, x1_3, x1_4, x1_5, rfl⟩ := soundWalls_len6 l1
  clear hA0 hval0 hval hA
  simp only [List.append_nil, List.nil_append] at hW'
  have hC : Con Try.prog 12 [.s 0 0 nss0.length 11, .a ([x1_0, x1_1, x1_2, x1_3, x1_4, x1_5].map iv)] [.live false true ((nss0.flatten).map iv)] (.v (.bool true)) [] := by
    have h := C12_L (nss0.map soundWalls_mk41) ((x1_0, x1_1, x1_2), x1_3, x1_4, x1_5) (by rw [List.length_map]; exact s0.2.1)
    rw [law_walls, flat_mk soundWalls_mkc41 s0.1] at h
    simp only [List.length_map] at h
    exact h
  refine (law_calls1 (vs := [v0, .agg ([x1_0, x1_1, x1_2, x1_3, x1_4, x1_5].map (Value.int .i64)).toArray]) hC s0 ⟨slice_rel s0 rfl, rel_agg [x1_0, x1_1, x1_2, x1_3, x1_4, x1_5], trivial⟩).mono fun e W' ⟨he, hb⟩ => ?_
  subst he
  have hargs2 := (all_mk (Below.trod laidOut (by kernel_rfl) (of_decide_eq_true (by kernel_rfl)) h0 hb b0) (all_mk (Below.trod laidOut (by kernel_rfl) (of_decide_eq_true (by kernel_rfl)) h1 hb (fun x hx => by cases hx)) trodAll_mk0))
  simp only [List.append_nil, List.nil_append] at hargs2
  exact ⟨_, rfl, post_below hW' hb (fun _ _ _ => (all_mk (shut_bool Try.underlying4 _) trodAll_mk0)) hargs2 rfl⟩
theorem soundWalls_over : Rows.soundWallsRow.holds Try.pinned (OpenSpec.ofChange Rows.soundWallsSpec) :=
  OpenClaim.holds_of_wide 12 Try.f12 rfl rfl rfl rfl rfl rfl rfl ⟨rfl, rfl, rfl, rfl, rfl⟩ rfl rfl rfl rfl rfl (by kernel_rfl) Try.func12 (by kernel_rfl)
    (of_decide_eq_true (by kernel_rfl)) (by unfold Func.isWrapper; first | (rw [if_pos (by decide +kernel)]; kernel_rfl) | (rw [if_neg (by decide +kernel)]; exact ⟨rfl, rfl⟩))
    (fun os started H enc _ => soundWalls_lifted os started H enc)
/-- THE STATEMENT -/
theorem soundWalls_proved : Rows.SoundWallsSaid :=
  soundWalls_over

end Go.Proofs.Ytopbnnmkdildgaa
