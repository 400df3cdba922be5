/-
  FieldMutuals: for every two panels and every depth the law returns true, and its arguments read behind the call as they read before. No condition.
-/
import Derived.Test.YtjlekmjnkpcnoaaMn
import Derived.ProofKit
namespace Go.Proofs.Ytjlekmjnkpcnoaa
open Go.Proofs Go.Aw Go.RowKit
set_option maxRecDepth 100000
set_option linter.unusedVariables false
set_option linter.unusedSimpArgs false

/-- facet/facetlaw03.FieldMutuals -/
def F11 (a0 : (Int × Int × Int) × (Int × Int × Int) × Int × Int × Int) (a1 : (Int × Int × Int) × (Int × Int × Int) × Int × Int × Int) (a2 : Int) : Bool :=
  (bif (!((((F32 a0 a1 a2).1.1 : Int) == (F33 a0 a1 a2).1.1) && ((((F32 a0 a1 a2).1.2 : Int) == (F33 a0 a1 a2).1.2) && true))) then
   false
  else
   (bif (((F32 a0 a1 a2).2 : Int) != (F33 a0 a1 a2).2) then
    false
   else
    (bif (((F32 a0 a1 a2).2 : Int) != 0) then
     F16
    else
     (bif (((F32 a1 a0 a2).2 : Int) == 0) then
      (bif (((F27 a0 a1 a2).2 : Int) == 0) then
       (bif (((F27 a1 a0 a2).2 : Int) == 0) then
        (bif (((F34 (F32 a0 a1 a2).1 (F32 a1 a0 a2).1).2.2 : Int) == 0) then
         (bif (((F34 (F32 a0 a1 a2).1 (F27 a0 a1 a2).1).2.2 : Int) == 0) then
          (bif (((F34 (F32 a0 a1 a2).1 (F27 a1 a0 a2).1).2.2 : Int) == 0) then
           (bif (F34 (F32 a0 a1 a2).1 (F32 a1 a0 a2).1).2.1 then
            (bif (F34 (F32 a0 a1 a2).1 (F27 a0 a1 a2).1).2.1 then
             (bif (F34 (F32 a0 a1 a2).1 (F27 a1 a0 a2).1).2.1 then
              F16
             else
              false)
            else
             false)
           else
            false)
          else
           false)
         else
          false)
        else
         false)
       else
        false)
      else
       false)
     else
      false))))

noncomputable def oC11_0 (a0 : (Int × Int × Int) × (Int × Int × Int) × Int × Int × Int) (a1 : (Int × Int × Int) × (Int × Int × Int) × Int × Int × Int) (a2 : Int) : Or := .call [] (.t [(.a (k2 (F32 a0 a1 a2).1)), (iv (F32 a0 a1 a2).2)]) []
noncomputable def oC11_1 (a0 : (Int × Int × Int) × (Int × Int × Int) × Int × Int × Int) (a1 : (Int × Int × Int) × (Int × Int × Int) × Int × Int × Int) (a2 : Int) : Or := .call [] (.t [(.a (k2 (F33 a0 a1 a2).1)), (iv (F33 a0 a1 a2).2)]) []
noncomputable def oC11_2 (a0 : (Int × Int × Int) × (Int × Int × Int) × Int × Int × Int) (a1 : (Int × Int × Int) × (Int × Int × Int) × Int × Int × Int) (a2 : Int) : Ob := .call 32 [(.a (k9 a0)), (.a (k9 a1)), (iv a2)] [] (.t [(.a (k2 (F32 a0 a1 a2).1)), (iv (F32 a0 a1 a2).2)]) []
noncomputable def oC11_3 (a0 : (Int × Int × Int) × (Int × Int × Int) × Int × Int × Int) (a1 : (Int × Int × Int) × (Int × Int × Int) × Int × Int × Int) (a2 : Int) : Ob := .call 33 [(.a (k9 a0)), (.a (k9 a1)), (iv a2)] [] (.t [(.a (k2 (F33 a0 a1 a2).1)), (iv (F33 a0 a1 a2).2)]) []
noncomputable def oC11_4 (a0 : (Int × Int × Int) × (Int × Int × Int) × Int × Int × Int) (a1 : (Int × Int × Int) × (Int × Int × Int) × Int × Int × Int) (a2 : Int) : Ob := .eq (!((((F32 a0 a1 a2).1.1 : Int) == (F33 a0 a1 a2).1.1) && ((((F32 a0 a1 a2).1.2 : Int) == (F33 a0 a1 a2).1.2) && true))) false
noncomputable def oC11_5 (a0 : (Int × Int × Int) × (Int × Int × Int) × Int × Int × Int) (a1 : (Int × Int × Int) × (Int × Int × Int) × Int × Int × Int) (a2 : Int) : Or := .call [] (.t [(.a (k2 (F32 a1 a0 a2).1)), (iv (F32 a1 a0 a2).2)]) []
noncomputable def oC11_6 (a0 : (Int × Int × Int) × (Int × Int × Int) × Int × Int × Int) (a1 : (Int × Int × Int) × (Int × Int × Int) × Int × Int × Int) (a2 : Int) : Or := .call [] (.t [(.a (k2 (F27 a0 a1 a2).1)), (iv (F27 a0 a1 a2).2)]) []
noncomputable def oC11_7 (a0 : (Int × Int × Int) × (Int × Int × Int) × Int × Int × Int) (a1 : (Int × Int × Int) × (Int × Int × Int) × Int × Int × Int) (a2 : Int) : Or := .call [] (.t [(.a (k2 (F27 a1 a0 a2).1)), (iv (F27 a1 a0 a2).2)]) []
noncomputable def oC11_8 (a0 : (Int × Int × Int) × (Int × Int × Int) × Int × Int × Int) (a1 : (Int × Int × Int) × (Int × Int × Int) × Int × Int × Int) (a2 : Int) : Or := .call [] (.t [(.a (k2 (F34 (F32 a0 a1 a2).1 (F32 a1 a0 a2).1).1)), (.v (.bool (F34 (F32 a0 a1 a2).1 (F32 a1 a0 a2).1).2.1)), (iv (F34 (F32 a0 a1 a2).1 (F32 a1 a0 a2).1).2.2)]) []
noncomputable def oC11_9 (a0 : (Int × Int × Int) × (Int × Int × Int) × Int × Int × Int) (a1 : (Int × Int × Int) × (Int × Int × Int) × Int × Int × Int) (a2 : Int) : Or := .call [] (.t [(.a (k2 (F34 (F32 a0 a1 a2).1 (F27 a0 a1 a2).1).1)), (.v (.bool (F34 (F32 a0 a1 a2).1 (F27 a0 a1 a2).1).2.1)), (iv (F34 (F32 a0 a1 a2).1 (F27 a0 a1 a2).1).2.2)]) []
noncomputable def oC11_10 (a0 : (Int × Int × Int) × (Int × Int × Int) × Int × Int × Int) (a1 : (Int × Int × Int) × (Int × Int × Int) × Int × Int × Int) (a2 : Int) : Or := .call [] (.t [(.a (k2 (F34 (F32 a0 a1 a2).1 (F27 a1 a0 a2).1).1)), (.v (.bool (F34 (F32 a0 a1 a2).1 (F27 a1 a0 a2).1).2.1)), (iv (F34 (F32 a0 a1 a2).1 (F27 a1 a0 a2).1).2.2)]) []
noncomputable def oC11_11 (a0 : (Int × Int × Int) × (Int × Int × Int) × Int × Int × Int) (a1 : (Int × Int × Int) × (Int × Int × Int) × Int × Int × Int) (a2 : Int) : Ob := .call 32 [(.a (k9 a1)), (.a (k9 a0)), (iv a2)] [] (.t [(.a (k2 (F32 a1 a0 a2).1)), (iv (F32 a1 a0 a2).2)]) []
noncomputable def oC11_12 (a0 : (Int × Int × Int) × (Int × Int × Int) × Int × Int × Int) (a1 : (Int × Int × Int) × (Int × Int × Int) × Int × Int × Int) (a2 : Int) : Ob := .call 27 [(.a (k9 a0)), (.a (k9 a1)), (iv a2)] [] (.t [(.a (k2 (F27 a0 a1 a2).1)), (iv (F27 a0 a1 a2).2)]) []
noncomputable def oC11_13 (a0 : (Int × Int × Int) × (Int × Int × Int) × Int × Int × Int) (a1 : (Int × Int × Int) × (Int × Int × Int) × Int × Int × Int) (a2 : Int) : Ob := .call 27 [(.a (k9 a1)), (.a (k9 a0)), (iv a2)] [] (.t [(.a (k2 (F27 a1 a0 a2).1)), (iv (F27 a1 a0 a2).2)]) []
noncomputable def oC11_14 (a0 : (Int × Int × Int) × (Int × Int × Int) × Int × Int × Int) (a1 : (Int × Int × Int) × (Int × Int × Int) × Int × Int × Int) (a2 : Int) : Ob := .call 34 [(.a (k2 (F32 a0 a1 a2).1)), (.a (k2 (F32 a1 a0 a2).1))] [] (.t [(.a (k2 (F34 (F32 a0 a1 a2).1 (F32 a1 a0 a2).1).1)), (.v (.bool (F34 (F32 a0 a1 a2).1 (F32 a1 a0 a2).1).2.1)), (iv (F34 (F32 a0 a1 a2).1 (F32 a1 a0 a2).1).2.2)]) []
noncomputable def oC11_15 (a0 : (Int × Int × Int) × (Int × Int × Int) × Int × Int × Int) (a1 : (Int × Int × Int) × (Int × Int × Int) × Int × Int × Int) (a2 : Int) : Ob := .call 34 [(.a (k2 (F32 a0 a1 a2).1)), (.a (k2 (F27 a0 a1 a2).1))] [] (.t [(.a (k2 (F34 (F32 a0 a1 a2).1 (F27 a0 a1 a2).1).1)), (.v (.bool (F34 (F32 a0 a1 a2).1 (F27 a0 a1 a2).1).2.1)), (iv (F34 (F32 a0 a1 a2).1 (F27 a0 a1 a2).1).2.2)]) []
noncomputable def oC11_16 (a0 : (Int × Int × Int) × (Int × Int × Int) × Int × Int × Int) (a1 : (Int × Int × Int) × (Int × Int × Int) × Int × Int × Int) (a2 : Int) : Ob := .call 34 [(.a (k2 (F32 a0 a1 a2).1)), (.a (k2 (F27 a1 a0 a2).1))] [] (.t [(.a (k2 (F34 (F32 a0 a1 a2).1 (F27 a1 a0 a2).1).1)), (.v (.bool (F34 (F32 a0 a1 a2).1 (F27 a1 a0 a2).1).2.1)), (iv (F34 (F32 a0 a1 a2).1 (F27 a1 a0 a2).1).2.2)]) []
noncomputable def oC11_17 (a0 : (Int × Int × Int) × (Int × Int × Int) × Int × Int × Int) (a1 : (Int × Int × Int) × (Int × Int × Int) × Int × Int × Int) (a2 : Int) : Ob := .eq (((F34 (F32 a0 a1 a2).1 (F32 a1 a0 a2).1).2.2 : Int) == 0) true
noncomputable def oC11_18 (a0 : (Int × Int × Int) × (Int × Int × Int) × Int × Int × Int) (a1 : (Int × Int × Int) × (Int × Int × Int) × Int × Int × Int) (a2 : Int) : Ob := .eq (((F34 (F32 a0 a1 a2).1 (F27 a0 a1 a2).1).2.2 : Int) == 0) true
noncomputable def oC11_19 (a0 : (Int × Int × Int) × (Int × Int × Int) × Int × Int × Int) (a1 : (Int × Int × Int) × (Int × Int × Int) × Int × Int × Int) (a2 : Int) : Ob := .eq (((F34 (F32 a0 a1 a2).1 (F27 a1 a0 a2).1).2.2 : Int) == 0) true
theorem C11 (a0 : (Int × Int × Int) × (Int × Int × Int) × Int × Int × Int) (a1 : (Int × Int × Int) × (Int × Int × Int) × Int × Int × Int) (a2 : Int) : Con Try.prog 11 [(.a (k9 a0)), (.a (k9 a1)), (iv a2)] [] (.v (.bool (F11 a0 a1 a2))) [] := by
  cases h0 : (!((((F32 a0 a1 a2).1.1 : Int) == (F33 a0 a1 a2).1.1) && ((((F32 a0 a1 a2).1.2 : Int) == (F33 a0 a1 a2).1.2) && true))) with
  | true =>
    have e : (F11 a0 a1 a2) = false := by simp only [F11, h0, cond_true, cond_false]
    rw [e]
    refine con_of (n := 9) Try.func11 rfl (ent Try.func11 (by kernel_rfl) rfl) (by show 3 ≤ Try.f11.ntmps; decide) (by kernel_rfl) trivial (fun cx hcx => ?_)
    exact ret_of (T := T0) hT hm (f := 5000) (orc := [(oC11_0 a0 a1 a2), (oC11_1 a0 a1 a2), .d true]) [] [] [] hcx
      (obs := [(oC11_2 a0 a1 a2), (oC11_3 a0 a1 a2), .eq (!((((F32 a0 a1 a2).1.1 : Int) == (F33 a0 a1 a2).1.1) && ((((F32 a0 a1 a2).1.2 : Int) == (F33 a0 a1 a2).1.2) && true))) true]) (by kernel_rfl) ⟨(C32 a0 a1 a2), (C33 a0 a1 a2), h0, trivial⟩
  | false =>
    cases h1 : (((F32 a0 a1 a2).2 : Int) != (F33 a0 a1 a2).2) with
    | true =>
      have q1 := bne_iff_ne.1 h1
      have e : (F11 a0 a1 a2) = false := by simp only [F11, h0, h1, cond_true, cond_false]
      rw [e]
      refine con_of (n := 9) Try.func11 rfl (ent Try.func11 (by kernel_rfl) rfl) (by show 3 ≤ Try.f11.ntmps; decide) (by kernel_rfl) trivial (fun cx hcx => ?_)
      exact ret_of (T := T0) hT hm (f := 5000) (orc := [(oC11_0 a0 a1 a2), (oC11_1 a0 a1 a2), .d false, .d true]) [] [] [] hcx
        (obs := [(oC11_2 a0 a1 a2), (oC11_3 a0 a1 a2), (oC11_4 a0 a1 a2), .eq (((F32 a0 a1 a2).2 : Int) != (F33 a0 a1 a2).2) true]) (by kernel_rfl) ⟨(C32 a0 a1 a2), (C33 a0 a1 a2), h0, h1, trivial⟩
    | false =>
      cases h2 : (((F32 a0 a1 a2).2 : Int) != 0) with
      | true =>
        have q1 := bne_eq_false_iff_eq.1 h1
        have q2 := bne_iff_ne.1 h2
        have e : (F11 a0 a1 a2) = F16 := by simp only [F11, h0, h1, h2, cond_true, cond_false]
        rw [e]
        refine con_of (n := 9) Try.func11 rfl (ent Try.func11 (by kernel_rfl) rfl) (by show 3 ≤ Try.f11.ntmps; decide) (by kernel_rfl) trivial (fun cx hcx => ?_)
        exact ret_of (T := T0) hT hm (f := 5000) (orc := [(oC11_0 a0 a1 a2), (oC11_1 a0 a1 a2), .d false, .d false, .d true, .call [] (.v (.bool F16)) []]) [] [] [] hcx
          (obs := [(oC11_2 a0 a1 a2), (oC11_3 a0 a1 a2), (oC11_4 a0 a1 a2), .eq (((F32 a0 a1 a2).2 : Int) != (F33 a0 a1 a2).2) false, .eq (((F32 a0 a1 a2).2 : Int) != 0) true, .call 16 [] [] (.v (.bool F16)) []]) (by kernel_rfl) ⟨(C32 a0 a1 a2), (C33 a0 a1 a2), h0, h1, h2, (C16), trivial⟩
      | false =>
        cases h3 : (((F32 a1 a0 a2).2 : Int) == 0) with
        | true =>
          cases h4 : (((F27 a0 a1 a2).2 : Int) == 0) with
          | true =>
            cases h5 : (((F27 a1 a0 a2).2 : Int) == 0) with
            | true =>
              cases h6 : (((F34 (F32 a0 a1 a2).1 (F32 a1 a0 a2).1).2.2 : Int) == 0) with
              | true =>
                cases h7 : (((F34 (F32 a0 a1 a2).1 (F27 a0 a1 a2).1).2.2 : Int) == 0) with
                | true =>
                  cases h8 : (((F34 (F32 a0 a1 a2).1 (F27 a1 a0 a2).1).2.2 : Int) == 0) with
                  | true =>
                    cases h9 : (F34 (F32 a0 a1 a2).1 (F32 a1 a0 a2).1).2.1 with
                    | true =>
                      cases h10 : (F34 (F32 a0 a1 a2).1 (F27 a0 a1 a2).1).2.1 with
                      | true =>
                        cases h11 : (F34 (F32 a0 a1 a2).1 (F27 a1 a0 a2).1).2.1 with
                        | true =>
                          have q1 := bne_eq_false_iff_eq.1 h1
                          have q2 := bne_eq_false_iff_eq.1 h2
                          have q3 := eq_of_beq h3
                          have q4 := eq_of_beq h4
                          have q5 := eq_of_beq h5
                          have q6 := eq_of_beq h6
                          have q7 := eq_of_beq h7
                          have q8 := eq_of_beq h8
                          have e : (F11 a0 a1 a2) = F16 := by simp only [F11, h0, h1, h2, h3, h4, h5, h6, h7, h8, h9, h10, h11, cond_true, cond_false]
                          rw [e]
                          refine con_of (n := 9) Try.func11 rfl (ent Try.func11 (by kernel_rfl) rfl) (by show 3 ≤ Try.f11.ntmps; decide) (by kernel_rfl) trivial (fun cx hcx => ?_)
                          exact ret_of (T := T0) hT hm (f := 5000) (orc := [(oC11_0 a0 a1 a2), (oC11_1 a0 a1 a2), .d false, .d false, .d false, (oC11_5 a0 a1 a2), (oC11_6 a0 a1 a2), (oC11_7 a0 a1 a2), (oC11_8 a0 a1 a2), (oC11_9 a0 a1 a2), (oC11_10 a0 a1 a2), .d true, .d true, .d true, .d true, .d true, .d true, .d true, .d true, .d true, .call [] (.v (.bool F16)) []]) [] [] [] hcx
                            (obs := [(oC11_2 a0 a1 a2), (oC11_3 a0 a1 a2), (oC11_4 a0 a1 a2), .eq (((F32 a0 a1 a2).2 : Int) != (F33 a0 a1 a2).2) false, .eq (((F32 a0 a1 a2).2 : Int) != 0) false, (oC11_11 a0 a1 a2), (oC11_12 a0 a1 a2), (oC11_13 a0 a1 a2), (oC11_14 a0 a1 a2), (oC11_15 a0 a1 a2), (oC11_16 a0 a1 a2), .eq (((F32 a1 a0 a2).2 : Int) == 0) true, .eq (((F27 a0 a1 a2).2 : Int) == 0) true, .eq (((F27 a1 a0 a2).2 : Int) == 0) true, (oC11_17 a0 a1 a2), (oC11_18 a0 a1 a2), (oC11_19 a0 a1 a2), .eq (F34 (F32 a0 a1 a2).1 (F32 a1 a0 a2).1).2.1 true, .eq (F34 (F32 a0 a1 a2).1 (F27 a0 a1 a2).1).2.1 true, .eq (F34 (F32 a0 a1 a2).1 (F27 a1 a0 a2).1).2.1 true, .call 16 [] [] (.v (.bool F16)) []]) (by kernel_rfl) ⟨(C32 a0 a1 a2), (C33 a0 a1 a2), h0, h1, h2, (C32 a1 a0 a2), (C27 a0 a1 a2), (C27 a1 a0 a2), (C34 (F32 a0 a1 a2).1 (F32 a1 a0 a2).1), (C34 (F32 a0 a1 a2).1 (F27 a0 a1 a2).1), (C34 (F32 a0 a1 a2).1 (F27 a1 a0 a2).1), h3, h4, h5, h6, h7, h8, h9, h10, h11, (C16), trivial⟩
                        | false =>
                          have q1 := bne_eq_false_iff_eq.1 h1
                          have q2 := bne_eq_false_iff_eq.1 h2
                          have q3 := eq_of_beq h3
                          have q4 := eq_of_beq h4
                          have q5 := eq_of_beq h5
                          have q6 := eq_of_beq h6
                          have q7 := eq_of_beq h7
                          have q8 := eq_of_beq h8
                          have e : (F11 a0 a1 a2) = false := by simp only [F11, h0, h1, h2, h3, h4, h5, h6, h7, h8, h9, h10, h11, cond_true, cond_false]
                          rw [e]
                          refine con_of (n := 9) Try.func11 rfl (ent Try.func11 (by kernel_rfl) rfl) (by show 3 ≤ Try.f11.ntmps; decide) (by kernel_rfl) trivial (fun cx hcx => ?_)
                          exact ret_of (T := T0) hT hm (f := 5000) (orc := [(oC11_0 a0 a1 a2), (oC11_1 a0 a1 a2), .d false, .d false, .d false, (oC11_5 a0 a1 a2), (oC11_6 a0 a1 a2), (oC11_7 a0 a1 a2), (oC11_8 a0 a1 a2), (oC11_9 a0 a1 a2), (oC11_10 a0 a1 a2), .d true, .d true, .d true, .d true, .d true, .d true, .d true, .d true, .d false]) [] [] [] hcx
                            (obs := [(oC11_2 a0 a1 a2), (oC11_3 a0 a1 a2), (oC11_4 a0 a1 a2), .eq (((F32 a0 a1 a2).2 : Int) != (F33 a0 a1 a2).2) false, .eq (((F32 a0 a1 a2).2 : Int) != 0) false, (oC11_11 a0 a1 a2), (oC11_12 a0 a1 a2), (oC11_13 a0 a1 a2), (oC11_14 a0 a1 a2), (oC11_15 a0 a1 a2), (oC11_16 a0 a1 a2), .eq (((F32 a1 a0 a2).2 : Int) == 0) true, .eq (((F27 a0 a1 a2).2 : Int) == 0) true, .eq (((F27 a1 a0 a2).2 : Int) == 0) true, (oC11_17 a0 a1 a2), (oC11_18 a0 a1 a2), (oC11_19 a0 a1 a2), .eq (F34 (F32 a0 a1 a2).1 (F32 a1 a0 a2).1).2.1 true, .eq (F34 (F32 a0 a1 a2).1 (F27 a0 a1 a2).1).2.1 true, .eq (F34 (F32 a0 a1 a2).1 (F27 a1 a0 a2).1).2.1 false]) (by kernel_rfl) ⟨(C32 a0 a1 a2), (C33 a0 a1 a2), h0, h1, h2, (C32 a1 a0 a2), (C27 a0 a1 a2), (C27 a1 a0 a2), (C34 (F32 a0 a1 a2).1 (F32 a1 a0 a2).1), (C34 (F32 a0 a1 a2).1 (F27 a0 a1 a2).1), (C34 (F32 a0 a1 a2).1 (F27 a1 a0 a2).1), h3, h4, h5, h6, h7, h8, h9, h10, h11, trivial⟩
                      | false =>
                        have q1 := bne_eq_false_iff_eq.1 h1
                        have q2 := bne_eq_false_iff_eq.1 h2
                        have q3 := eq_of_beq h3
                        have q4 := eq_of_beq h4
                        have q5 := eq_of_beq h5
                        have q6 := eq_of_beq h6
                        have q7 := eq_of_beq h7
                        have q8 := eq_of_beq h8
                        have e : (F11 a0 a1 a2) = false := by simp only [F11, h0, h1, h2, h3, h4, h5, h6, h7, h8, h9, h10, cond_true, cond_false]
                        rw [e]
                        refine con_of (n := 9) Try.func11 rfl (ent Try.func11 (by kernel_rfl) rfl) (by show 3 ≤ Try.f11.ntmps; decide) (by kernel_rfl) trivial (fun cx hcx => ?_)
                        exact ret_of (T := T0) hT hm (f := 5000) (orc := [(oC11_0 a0 a1 a2), (oC11_1 a0 a1 a2), .d false, .d false, .d false, (oC11_5 a0 a1 a2), (oC11_6 a0 a1 a2), (oC11_7 a0 a1 a2), (oC11_8 a0 a1 a2), (oC11_9 a0 a1 a2), (oC11_10 a0 a1 a2), .d true, .d true, .d true, .d true, .d true, .d true, .d true, .d false]) [] [] [] hcx
                          (obs := [(oC11_2 a0 a1 a2), (oC11_3 a0 a1 a2), (oC11_4 a0 a1 a2), .eq (((F32 a0 a1 a2).2 : Int) != (F33 a0 a1 a2).2) false, .eq (((F32 a0 a1 a2).2 : Int) != 0) false, (oC11_11 a0 a1 a2), (oC11_12 a0 a1 a2), (oC11_13 a0 a1 a2), (oC11_14 a0 a1 a2), (oC11_15 a0 a1 a2), (oC11_16 a0 a1 a2), .eq (((F32 a1 a0 a2).2 : Int) == 0) true, .eq (((F27 a0 a1 a2).2 : Int) == 0) true, .eq (((F27 a1 a0 a2).2 : Int) == 0) true, (oC11_17 a0 a1 a2), (oC11_18 a0 a1 a2), (oC11_19 a0 a1 a2), .eq (F34 (F32 a0 a1 a2).1 (F32 a1 a0 a2).1).2.1 true, .eq (F34 (F32 a0 a1 a2).1 (F27 a0 a1 a2).1).2.1 false]) (by kernel_rfl) ⟨(C32 a0 a1 a2), (C33 a0 a1 a2), h0, h1, h2, (C32 a1 a0 a2), (C27 a0 a1 a2), (C27 a1 a0 a2), (C34 (F32 a0 a1 a2).1 (F32 a1 a0 a2).1), (C34 (F32 a0 a1 a2).1 (F27 a0 a1 a2).1), (C34 (F32 a0 a1 a2).1 (F27 a1 a0 a2).1), h3, h4, h5, h6, h7, h8, h9, h10, trivial⟩
                    | false =>
                      have q1 := bne_eq_false_iff_eq.1 h1
                      have q2 := bne_eq_false_iff_eq.1 h2
                      have q3 := eq_of_beq h3
                      have q4 := eq_of_beq h4
                      have q5 := eq_of_beq h5
                      have q6 := eq_of_beq h6
                      have q7 := eq_of_beq h7
                      have q8 := eq_of_beq h8
                      have e : (F11 a0 a1 a2) = false := by simp only [F11, h0, h1, h2, h3, h4, h5, h6, h7, h8, h9, cond_true, cond_false]
                      rw [e]
                      refine con_of (n := 9) Try.func11 rfl (ent Try.func11 (by kernel_rfl) rfl) (by show 3 ≤ Try.f11.ntmps; decide) (by kernel_rfl) trivial (fun cx hcx => ?_)
                      exact ret_of (T := T0) hT hm (f := 5000) (orc := [(oC11_0 a0 a1 a2), (oC11_1 a0 a1 a2), .d false, .d false, .d false, (oC11_5 a0 a1 a2), (oC11_6 a0 a1 a2), (oC11_7 a0 a1 a2), (oC11_8 a0 a1 a2), (oC11_9 a0 a1 a2), (oC11_10 a0 a1 a2), .d true, .d true, .d true, .d true, .d true, .d true, .d false]) [] [] [] hcx
                        (obs := [(oC11_2 a0 a1 a2), (oC11_3 a0 a1 a2), (oC11_4 a0 a1 a2), .eq (((F32 a0 a1 a2).2 : Int) != (F33 a0 a1 a2).2) false, .eq (((F32 a0 a1 a2).2 : Int) != 0) false, (oC11_11 a0 a1 a2), (oC11_12 a0 a1 a2), (oC11_13 a0 a1 a2), (oC11_14 a0 a1 a2), (oC11_15 a0 a1 a2), (oC11_16 a0 a1 a2), .eq (((F32 a1 a0 a2).2 : Int) == 0) true, .eq (((F27 a0 a1 a2).2 : Int) == 0) true, .eq (((F27 a1 a0 a2).2 : Int) == 0) true, (oC11_17 a0 a1 a2), (oC11_18 a0 a1 a2), (oC11_19 a0 a1 a2), .eq (F34 (F32 a0 a1 a2).1 (F32 a1 a0 a2).1).2.1 false]) (by kernel_rfl) ⟨(C32 a0 a1 a2), (C33 a0 a1 a2), h0, h1, h2, (C32 a1 a0 a2), (C27 a0 a1 a2), (C27 a1 a0 a2), (C34 (F32 a0 a1 a2).1 (F32 a1 a0 a2).1), (C34 (F32 a0 a1 a2).1 (F27 a0 a1 a2).1), (C34 (F32 a0 a1 a2).1 (F27 a1 a0 a2).1), h3, h4, h5, h6, h7, h8, h9, trivial⟩
                  | false =>
                    have q1 := bne_eq_false_iff_eq.1 h1
                    have q2 := bne_eq_false_iff_eq.1 h2
                    have q3 := eq_of_beq h3
                    have q4 := eq_of_beq h4
                    have q5 := eq_of_beq h5
                    have q6 := eq_of_beq h6
                    have q7 := eq_of_beq h7
                    have q8 := ne_of_beq_false h8
                    have e : (F11 a0 a1 a2) = false := by simp only [F11, h0, h1, h2, h3, h4, h5, h6, h7, h8, cond_true, cond_false]
                    rw [e]
                    refine con_of (n := 9) Try.func11 rfl (ent Try.func11 (by kernel_rfl) rfl) (by show 3 ≤ Try.f11.ntmps; decide) (by kernel_rfl) trivial (fun cx hcx => ?_)
                    exact ret_of (T := T0) hT hm (f := 5000) (orc := [(oC11_0 a0 a1 a2), (oC11_1 a0 a1 a2), .d false, .d false, .d false, (oC11_5 a0 a1 a2), (oC11_6 a0 a1 a2), (oC11_7 a0 a1 a2), (oC11_8 a0 a1 a2), (oC11_9 a0 a1 a2), (oC11_10 a0 a1 a2), .d true, .d true, .d true, .d true, .d true, .d false]) [] [] [] hcx
                      (obs := [(oC11_2 a0 a1 a2), (oC11_3 a0 a1 a2), (oC11_4 a0 a1 a2), .eq (((F32 a0 a1 a2).2 : Int) != (F33 a0 a1 a2).2) false, .eq (((F32 a0 a1 a2).2 : Int) != 0) false, (oC11_11 a0 a1 a2), (oC11_12 a0 a1 a2), (oC11_13 a0 a1 a2), (oC11_14 a0 a1 a2), (oC11_15 a0 a1 a2), (oC11_16 a0 a1 a2), .eq (((F32 a1 a0 a2).2 : Int) == 0) true, .eq (((F27 a0 a1 a2).2 : Int) == 0) true, .eq (((F27 a1 a0 a2).2 : Int) == 0) true, (oC11_17 a0 a1 a2), (oC11_18 a0 a1 a2), .eq (((F34 (F32 a0 a1 a2).1 (F27 a1 a0 a2).1).2.2 : Int) == 0) false]) (by kernel_rfl) ⟨(C32 a0 a1 a2), (C33 a0 a1 a2), h0, h1, h2, (C32 a1 a0 a2), (C27 a0 a1 a2), (C27 a1 a0 a2), (C34 (F32 a0 a1 a2).1 (F32 a1 a0 a2).1), (C34 (F32 a0 a1 a2).1 (F27 a0 a1 a2).1), (C34 (F32 a0 a1 a2).1 (F27 a1 a0 a2).1), h3, h4, h5, h6, h7, h8, trivial⟩
                | false =>
                  have q1 := bne_eq_false_iff_eq.1 h1
                  have q2 := bne_eq_false_iff_eq.1 h2
                  have q3 := eq_of_beq h3
                  have q4 := eq_of_beq h4
                  have q5 := eq_of_beq h5
                  have q6 := eq_of_beq h6
                  have q7 := ne_of_beq_false h7
                  have e : (F11 a0 a1 a2) = false := by simp only [F11, h0, h1, h2, h3, h4, h5, h6, h7, cond_true, cond_false]
                  rw [e]
                  refine con_of (n := 9) Try.func11 rfl (ent Try.func11 (by kernel_rfl) rfl) (by show 3 ≤ Try.f11.ntmps; decide) (by kernel_rfl) trivial (fun cx hcx => ?_)
                  exact ret_of (T := T0) hT hm (f := 5000) (orc := [(oC11_0 a0 a1 a2), (oC11_1 a0 a1 a2), .d false, .d false, .d false, (oC11_5 a0 a1 a2), (oC11_6 a0 a1 a2), (oC11_7 a0 a1 a2), (oC11_8 a0 a1 a2), (oC11_9 a0 a1 a2), (oC11_10 a0 a1 a2), .d true, .d true, .d true, .d true, .d false]) [] [] [] hcx
                    (obs := [(oC11_2 a0 a1 a2), (oC11_3 a0 a1 a2), (oC11_4 a0 a1 a2), .eq (((F32 a0 a1 a2).2 : Int) != (F33 a0 a1 a2).2) false, .eq (((F32 a0 a1 a2).2 : Int) != 0) false, (oC11_11 a0 a1 a2), (oC11_12 a0 a1 a2), (oC11_13 a0 a1 a2), (oC11_14 a0 a1 a2), (oC11_15 a0 a1 a2), (oC11_16 a0 a1 a2), .eq (((F32 a1 a0 a2).2 : Int) == 0) true, .eq (((F27 a0 a1 a2).2 : Int) == 0) true, .eq (((F27 a1 a0 a2).2 : Int) == 0) true, (oC11_17 a0 a1 a2), .eq (((F34 (F32 a0 a1 a2).1 (F27 a0 a1 a2).1).2.2 : Int) == 0) false]) (by kernel_rfl) ⟨(C32 a0 a1 a2), (C33 a0 a1 a2), h0, h1, h2, (C32 a1 a0 a2), (C27 a0 a1 a2), (C27 a1 a0 a2), (C34 (F32 a0 a1 a2).1 (F32 a1 a0 a2).1), (C34 (F32 a0 a1 a2).1 (F27 a0 a1 a2).1), (C34 (F32 a0 a1 a2).1 (F27 a1 a0 a2).1), h3, h4, h5, h6, h7, trivial⟩
              | false =>
                have q1 := bne_eq_false_iff_eq.1 h1
                have q2 := bne_eq_false_iff_eq.1 h2
                have q3 := eq_of_beq h3
                have q4 := eq_of_beq h4
                have q5 := eq_of_beq h5
                have q6 := ne_of_beq_false h6
                have e : (F11 a0 a1 a2) = false := by simp only [F11, h0, h1, h2, h3, h4, h5, h6, cond_true, cond_false]
                rw [e]
                refine con_of (n := 9) Try.func11 rfl (ent Try.func11 (by kernel_rfl) rfl) (by show 3 ≤ Try.f11.ntmps; decide) (by kernel_rfl) trivial (fun cx hcx => ?_)
                exact ret_of (T := T0) hT hm (f := 5000) (orc := [(oC11_0 a0 a1 a2), (oC11_1 a0 a1 a2), .d false, .d false, .d false, (oC11_5 a0 a1 a2), (oC11_6 a0 a1 a2), (oC11_7 a0 a1 a2), (oC11_8 a0 a1 a2), (oC11_9 a0 a1 a2), (oC11_10 a0 a1 a2), .d true, .d true, .d true, .d false]) [] [] [] hcx
                  (obs := [(oC11_2 a0 a1 a2), (oC11_3 a0 a1 a2), (oC11_4 a0 a1 a2), .eq (((F32 a0 a1 a2).2 : Int) != (F33 a0 a1 a2).2) false, .eq (((F32 a0 a1 a2).2 : Int) != 0) false, (oC11_11 a0 a1 a2), (oC11_12 a0 a1 a2), (oC11_13 a0 a1 a2), (oC11_14 a0 a1 a2), (oC11_15 a0 a1 a2), (oC11_16 a0 a1 a2), .eq (((F32 a1 a0 a2).2 : Int) == 0) true, .eq (((F27 a0 a1 a2).2 : Int) == 0) true, .eq (((F27 a1 a0 a2).2 : Int) == 0) true, .eq (((F34 (F32 a0 a1 a2).1 (F32 a1 a0 a2).1).2.2 : Int) == 0) false]) (by kernel_rfl) ⟨(C32 a0 a1 a2), (C33 a0 a1 a2), h0, h1, h2, (C32 a1 a0 a2), (C27 a0 a1 a2), (C27 a1 a0 a2), (C34 (F32 a0 a1 a2).1 (F32 a1 a0 a2).1), (C34 (F32 a0 a1 a2).1 (F27 a0 a1 a2).1), (C34 (F32 a0 a1 a2).1 (F27 a1 a0 a2).1), h3, h4, h5, h6, trivial⟩
            | false =>
              have q1 := bne_eq_false_iff_eq.1 h1
              have q2 := bne_eq_false_iff_eq.1 h2
              have q3 := eq_of_beq h3
              have q4 := eq_of_beq h4
              have q5 := ne_of_beq_false h5
              have e : (F11 a0 a1 a2) = false := by simp only [F11, h0, h1, h2, h3, h4, h5, cond_true, cond_false]
              rw [e]
              refine con_of (n := 9) Try.func11 rfl (ent Try.func11 (by kernel_rfl) rfl) (by show 3 ≤ Try.f11.ntmps; decide) (by kernel_rfl) trivial (fun cx hcx => ?_)
              exact ret_of (T := T0) hT hm (f := 5000) (orc := [(oC11_0 a0 a1 a2), (oC11_1 a0 a1 a2), .d false, .d false, .d false, (oC11_5 a0 a1 a2), (oC11_6 a0 a1 a2), (oC11_7 a0 a1 a2), (oC11_8 a0 a1 a2), (oC11_9 a0 a1 a2), (oC11_10 a0 a1 a2), .d true, .d true, .d false]) [] [] [] hcx
                (obs := [(oC11_2 a0 a1 a2), (oC11_3 a0 a1 a2), (oC11_4 a0 a1 a2), .eq (((F32 a0 a1 a2).2 : Int) != (F33 a0 a1 a2).2) false, .eq (((F32 a0 a1 a2).2 : Int) != 0) false, (oC11_11 a0 a1 a2), (oC11_12 a0 a1 a2), (oC11_13 a0 a1 a2), (oC11_14 a0 a1 a2), (oC11_15 a0 a1 a2), (oC11_16 a0 a1 a2), .eq (((F32 a1 a0 a2).2 : Int) == 0) true, .eq (((F27 a0 a1 a2).2 : Int) == 0) true, .eq (((F27 a1 a0 a2).2 : Int) == 0) false]) (by kernel_rfl) ⟨(C32 a0 a1 a2), (C33 a0 a1 a2), h0, h1, h2, (C32 a1 a0 a2), (C27 a0 a1 a2), (C27 a1 a0 a2), (C34 (F32 a0 a1 a2).1 (F32 a1 a0 a2).1), (C34 (F32 a0 a1 a2).1 (F27 a0 a1 a2).1), (C34 (F32 a0 a1 a2).1 (F27 a1 a0 a2).1), h3, h4, h5, trivial⟩
          | false =>
            have q1 := bne_eq_false_iff_eq.1 h1
            have q2 := bne_eq_false_iff_eq.1 h2
            have q3 := eq_of_beq h3
            have q4 := ne_of_beq_false h4
            have e : (F11 a0 a1 a2) = false := by simp only [F11, h0, h1, h2, h3, h4, cond_true, cond_false]
            rw [e]
            refine con_of (n := 9) Try.func11 rfl (ent Try.func11 (by kernel_rfl) rfl) (by show 3 ≤ Try.f11.ntmps; decide) (by kernel_rfl) trivial (fun cx hcx => ?_)
            exact ret_of (T := T0) hT hm (f := 5000) (orc := [(oC11_0 a0 a1 a2), (oC11_1 a0 a1 a2), .d false, .d false, .d false, (oC11_5 a0 a1 a2), (oC11_6 a0 a1 a2), (oC11_7 a0 a1 a2), (oC11_8 a0 a1 a2), (oC11_9 a0 a1 a2), (oC11_10 a0 a1 a2), .d true, .d false]) [] [] [] hcx
              (obs := [(oC11_2 a0 a1 a2), (oC11_3 a0 a1 a2), (oC11_4 a0 a1 a2), .eq (((F32 a0 a1 a2).2 : Int) != (F33 a0 a1 a2).2) false, .eq (((F32 a0 a1 a2).2 : Int) != 0) false, (oC11_11 a0 a1 a2), (oC11_12 a0 a1 a2), (oC11_13 a0 a1 a2), (oC11_14 a0 a1 a2), (oC11_15 a0 a1 a2), (oC11_16 a0 a1 a2), .eq (((F32 a1 a0 a2).2 : Int) == 0) true, .eq (((F27 a0 a1 a2).2 : Int) == 0) false]) (by kernel_rfl) ⟨(C32 a0 a1 a2), (C33 a0 a1 a2), h0, h1, h2, (C32 a1 a0 a2), (C27 a0 a1 a2), (C27 a1 a0 a2), (C34 (F32 a0 a1 a2).1 (F32 a1 a0 a2).1), (C34 (F32 a0 a1 a2).1 (F27 a0 a1 a2).1), (C34 (F32 a0 a1 a2).1 (F27 a1 a0 a2).1), h3, h4, trivial⟩
        | false =>
          have q1 := bne_eq_false_iff_eq.1 h1
          have q2 := bne_eq_false_iff_eq.1 h2
          have q3 := ne_of_beq_false h3
          have e : (F11 a0 a1 a2) = false := by simp only [F11, h0, h1, h2, h3, cond_true, cond_false]
          rw [e]
          refine con_of (n := 9) Try.func11 rfl (ent Try.func11 (by kernel_rfl) rfl) (by show 3 ≤ Try.f11.ntmps; decide) (by kernel_rfl) trivial (fun cx hcx => ?_)
          exact ret_of (T := T0) hT hm (f := 5000) (orc := [(oC11_0 a0 a1 a2), (oC11_1 a0 a1 a2), .d false, .d false, .d false, (oC11_5 a0 a1 a2), (oC11_6 a0 a1 a2), (oC11_7 a0 a1 a2), (oC11_8 a0 a1 a2), (oC11_9 a0 a1 a2), (oC11_10 a0 a1 a2), .d false]) [] [] [] hcx
            (obs := [(oC11_2 a0 a1 a2), (oC11_3 a0 a1 a2), (oC11_4 a0 a1 a2), .eq (((F32 a0 a1 a2).2 : Int) != (F33 a0 a1 a2).2) false, .eq (((F32 a0 a1 a2).2 : Int) != 0) false, (oC11_11 a0 a1 a2), (oC11_12 a0 a1 a2), (oC11_13 a0 a1 a2), (oC11_14 a0 a1 a2), (oC11_15 a0 a1 a2), (oC11_16 a0 a1 a2), .eq (((F32 a1 a0 a2).2 : Int) == 0) false]) (by kernel_rfl) ⟨(C32 a0 a1 a2), (C33 a0 a1 a2), h0, h1, h2, (C32 a1 a0 a2), (C27 a0 a1 a2), (C27 a1 a0 a2), (C34 (F32 a0 a1 a2).1 (F32 a1 a0 a2).1), (C34 (F32 a0 a1 a2).1 (F27 a0 a1 a2).1), (C34 (F32 a0 a1 a2).1 (F27 a1 a0 a2).1), h3, trivial⟩

/-! ### FieldMutuals -/
noncomputable def lo2 (d : Int) (a b : PN) : Int := (of1 (sc d) (fa3 a b)).1
noncomputable def LL (p q : PN) (d : Int) : Int := ((cutL d.toNat q).map fun b => ((cutL d.toNat p).map fun a => lo2 d a b).sum).sum
noncomputable def HH (p q : PN) (d : Int) : Int := ((cutL d.toNat q).map fun b => ((cutL d.toNat p).map fun a => bHi (F54 p d) d b a).sum).sum
theorem sum_add (f g : PN → Int) : ∀ l : List PN, (l.map fun b => f b + g b).sum = (l.map f).sum + (l.map g).sum
  | [] => rfl
  | c :: l => by simp only [List.map_cons, List.sum_cons, sum_add f g l]; omega
theorem sum_zero : ∀ l : List PN, (l.map fun _ => (0 : Int)).sum = 0
  | [] => rfl
  | c :: l => by simp only [List.map_cons, List.sum_cons, sum_zero l]; rfl
theorem sum_swap (f : PN → PN → Int) (Q : List PN) : ∀ P : List PN, (P.map fun a => (Q.map fun b => f a b).sum).sum = (Q.map fun b => (P.map fun a => f a b).sum).sum
  | [] => (sum_zero Q).symm
  | a :: P => by
    simp only [List.map_cons, List.sum_cons]
    rw [sum_swap f Q P, ← sum_add]
theorem sum_const (c : Int) : ∀ l : List PN, (l.map fun _ => c).sum = c * (l.length : Nat)
  | [] => by simp
  | x :: l => by
    simp only [List.map_cons, List.sum_cons, sum_const c l, List.length_cons]
    rw [Int.natCast_add, Int.mul_add]; omega
theorem sum_mul (f : PN → Int) (n : Int) : ∀ l : List PN, (l.map fun b => f b * n).sum = (l.map f).sum * n
  | [] => by simp
  | x :: l => by simp only [List.map_cons, List.sum_cons, sum_mul f n l, Int.add_mul]
theorem avg_lo {v : Int × Int} {n : Int} (hn : 1 ≤ n) : (avg v n).1 * n ≤ v.1 ∧ v.2 ≤ (avg v n).2 * n := by
  have h1 := Int.ediv_mul_le v.1 (show n ≠ 0 by omega)
  have h2 := (cq_facts (t := v.2) hn).1
  exact ⟨h1, h2⟩
theorem hi_bet {p q : PN} {d : Int} : (betS p q d).1 * (sc d * sc d) ≤ ((cutL d.toNat p).map fun a => lo2 d a q).sum ∧ ((cutL d.toNat p).map fun a => bHi (F54 p d) d q a).sum ≤ (betS p q d).2 * (sc d * sc d) := by
  have hn := cnt_in d
  have h := avg_lo (v := accS (bLo d q) (bHi (F54 p d) d q) (cutL d.toNat p) (0, 0)) (n := sc d * sc d) (by omega)
  rw [show avg (accS (bLo d q) (bHi (F54 p d) d q) (cutL d.toNat p) (0, 0)) (sc d * sc d) = betS p q d from rfl, accS_eq] at h
  simp only [Int.zero_add] at h
  exact h
theorem mut_bd (p q : PN) (d : Int) : (avg (sums (mutL p q d) (0, 0)) (sc d * sc d)).1 * (sc d * sc d) * (sc d * sc d) ≤ LL p q d ∧ HH p q d ≤ (avg (sums (mutL p q d) (0, 0)) (sc d * sc d)).2 * (sc d * sc d) * (sc d * sc d) := by
  have hn := cnt_in d
  have h := avg_lo (v := sums (mutL p q d) (0, 0)) (n := sc d * sc d) (by omega)
  rw [sums_eq] at h ⊢
  simp only [Int.zero_add, mutL, List.map_map] at h ⊢
  have h1 := Int.mul_le_mul_of_nonneg_right h.1 (show 0 ≤ sc d * sc d by omega)
  have h2 := Int.mul_le_mul_of_nonneg_right h.2 (show 0 ≤ sc d * sc d by omega)
  refine ⟨Int.le_trans h1 ?_, Int.le_trans ?_ h2⟩
  · rw [← sum_mul]; exact sum_le (fun b _ => (hi_bet (p := p) (q := b) (d := d)).1)
  · rw [← sum_mul]; exact sum_le (fun b _ => (hi_bet (p := p) (q := b) (d := d)).2)
theorem LL_le {p q : PN} {d : Int} (hp : vp p = 0) (hd : 0 ≤ d ∧ d ≤ 3) : LL p q d ≤ HH p q d :=
  sum_le (fun b _ => sum_le (fun a ha => (b_ok (q := b) hp hd a ha).2.1))
theorem LL_comm (p q : PN) (d : Int) : LL p q d = LL q p d := by
  unfold LL
  rw [sum_swap]
  have : ∀ a b, lo2 d a b = lo2 d b a := fun a b => by unfold lo2; rw [fa3_comm]
  simp only [this]
theorem of1_hi {s n m : Int} (hs : s = 1 ∨ s = 2 ∨ s = 4 ∨ s = 8) (hn : 1 ≤ n) (h : n ≤ m) : (of1 s m).2 ≤ (of1 s n).2 := by
  unfold of1
  rw [if_neg (by omega), if_neg (by omega)]
  exact inv_hi_mono ⟨by rcases hs with rfl | rfl | rfl | rfl <;> decide, (NN_bd hs).2⟩ hn h
section
variable {p q : PN} {d : Int}
theorem fa3_pos {a : PN} (hp : vp p = 0) (hd : 0 ≤ d ∧ d ≤ 3) (ha : a ∈ cutL d.toNat p) (b : PN) : 1 ≤ fa3 a b := by
  obtain ⟨g1, g2, g3⟩ := fa3_ge a b
  have h := nn_far a b.1 g1 g2 g3
  have h2 := (vp_ok hp).2
  rw [nrm_in (vp_ok hp).1 hd ha] at h
  have h0 : 0 ≤ fa3 a b := Int.le_trans (dt_self _) g1
  rcases Int.lt_or_le (fa3 a b) 1 with h' | h'
  · have e : fa3 a b = 0 := by omega
    rw [e] at h; omega
  · exact h'
theorem bet_bd (hp : vp p = 0) (hq : vp q = 0) (hd : 0 ≤ d ∧ d ≤ 3) : (betS p (tmP (sc d) q) d).1 * (sc d * sc d) * (sc d * sc d) ≤ LL p q d ∧ HH p q d ≤ (betS p (tmP (sc d) q) d).2 * (sc d * sc d) * (sc d * sc d) := by
  have hn := cnt_in d
  have h := hi_bet (p := p) (q := tmP (sc d) q) (d := d)
  have h1 := Int.mul_le_mul_of_nonneg_right h.1 (show 0 ≤ sc d * sc d by omega)
  have h2 := Int.mul_le_mul_of_nonneg_right h.2 (show 0 ≤ sc d * sc d by omega)
  have ho := of1_ok (sc_in d)
  have hq' := (vp_ok hq).1
  refine ⟨Int.le_trans h1 ?_, Int.le_trans ?_ h2⟩
  · unfold LL
    rw [← sum_swap (fun a b => lo2 d a b), ← sum_mul]
    refine sum_le (fun a ha => ?_)
    rw [← cnt_len hd q, ← sum_const]
    exact sum_le (fun b hb => ho.mono _ _ (fa3_pos hp hd ha b) (fa3_part hq' hd hb))
  · unfold HH
    rw [← sum_swap (fun a b => bHi (F54 p d) d b a), ← sum_mul]
    refine sum_le (fun a ha => ?_)
    rw [← cnt_len hd q, ← sum_const]
    refine sum_le (fun b hb => ?_)
    have hne := ne3_part (a := a) hq' hd hb
    unfold bHi
    by_cases hz : 0 < ne3 a (tmP (sc d) q)
    · have := of1_hi (sc_in d) (show 1 ≤ ne3 a (tmP (sc d) q) by omega) hne
      rw [if_pos hz, if_pos (by omega)]
      (repeat' split) <;> omega
    · rw [if_neg hz]
      (repeat' split) <;> omega
theorem Between_f (h : pk p q d = 0) : F27 p q d = (betS p (tmP (sc d) q) d, 0) := by
  obtain ⟨h1, h2, h3⟩ := pk_ok h
  have hs := sc_bd d
  have hq := (vp_ok h2).1
  have hq' := hq.mono (show (64 : Int) ≤ 4096 by omega)
  have hd : 0 ≤ d ∧ d ≤ 3 := by omega
  have e1 := bet_f h1 (tmP_bd hs hq) hd
  unfold F27
  rw [pair_eq, h, sc_f hd, tm_f hs hq'.1, tm_f hs hq'.2.1, tm_f hs hq'.2.2]
  unfold tmP at *
  rw [e1]; rfl
theorem pk_swap (h : pk p q d = 0) : pk q p d = 0 := by
  obtain ⟨h1, h2, h3⟩ := pk_ok h
  unfold pk
  rw [if_pos h2, if_pos h1, if_pos h3]
end
theorem meet_ok {a c : Int × Int} (ha : vs a) (hc : vs c) (h1 : a.1 ≤ c.2) (h2 : c.1 ≤ a.2) : (F34 a c).2.1 = true ∧ (F34 a c).2.2 = 0 := by
  unfold F34 F76_2
  have e1 : F129 (a, c).1 = true := val_f (a := a.1) (b := a.2) ha.1 ha.2.1 ha.2.2
  have e2 : F129 (a, c).2 = true := val_f (a := c.1) (b := c.2) hc.1 hc.2.1 hc.2.2
  have h3 := ha.2.1; have h4 := hc.2.1
  rw [e1, e2, decide_eq_false (by (repeat' split) <;> omega)]
  exact ⟨rfl, rfl⟩
theorem okE_vs {a : Int × Int} (h : okE a) : vs a := by unfold okE at h; unfold vs; omega
theorem law_mutuals (p q : PN) (d : Int) : F11 p q d = true := by
  unfold F11
  rw [Mutual_f, Mutual_r, Mutual_f q p, known_t]
  by_cases h : pk p q d = 0
  · have h' := pk_swap h
    obtain ⟨h1, h2, h3⟩ := pk_ok h
    have hd : 0 ≤ d ∧ d ≤ 3 := by omega
    have hn := cnt_in d
    have em : mutV p q d = (avg (sums (mutL p q d) (0, 0)) (sc d * sc d), 0) := by unfold mutV; rw [if_pos h]
    have em' : mutV q p d = (avg (sums (mutL q p d) (0, 0)) (sc d * sc d), 0) := by unfold mutV; rw [if_pos h']
    have va : vs (avg (sums (mutL p q d) (0, 0)) (sc d * sc d)) := avg_vs hn (sums_ok (mutL_ok h1 hd) (okv_len (by have := mutL_len (p := p) (q := q) hd; omega)))
    have vc : vs (avg (sums (mutL q p d) (0, 0)) (sc d * sc d)) := avg_vs hn (sums_ok (mutL_ok h2 hd) (okv_len (by have := mutL_len (p := q) (q := p) hd; omega)))
    have vd : vs (betS p (tmP (sc d) q) d) := okE_vs (bet_ok h1 hd)
    have ve : vs (betS q (tmP (sc d) p) d) := okE_vs (bet_ok h2 hd)
    have a1 := mut_bd p q d; have a2 := mut_bd q p d
    have a3 := bet_bd h1 h2 hd; have a4 := bet_bd h2 h1 hd
    have l1 := LL_le (q := q) h1 hd; have l2 := LL_le (q := p) h2 hd; have l3 := LL_comm p q d
    rw [em, em', Between_f h, Between_f h']
    generalize avg (sums (mutL p q d) (0, 0)) (sc d * sc d) = A at *
    generalize avg (sums (mutL q p d) (0, 0)) (sc d * sc d) = C at *
    generalize betS p (tmP (sc d) q) d = D at *
    generalize betS q (tmP (sc d) p) d = E at *
    have key : ∀ x y : Int, x * (sc d * sc d) * (sc d * sc d) ≤ y * (sc d * sc d) * (sc d * sc d) → x ≤ y := fun x y hxy => Int.le_of_mul_le_mul_right (Int.le_of_mul_le_mul_right hxy (by omega)) (by omega)
    have m1 := meet_ok va vc (key _ _ (by omega)) (key _ _ (by omega))
    have m2 := meet_ok va vd (key _ _ (by omega)) (key _ _ (by omega))
    have m3 := meet_ok va ve (key _ _ (by omega)) (key _ _ (by omega))
    simp only [m1.1, m1.2, m2.1, m2.2, m3.1, m3.2, beq_self_eq_true, bne_self_eq_false, cond_true, cond_false, Bool.and_true, Bool.not_true, Bool.true_and, Bool.and_self]
  · have em : mutV p q d = ((0, 0), pk p q d) := by unfold mutV; rw [if_neg h]
    rw [em]
    simp only [bne_iff_ne.2 h, beq_self_eq_true, bne_self_eq_false, cond_true, cond_false, Bool.and_true, Bool.not_true, Bool.and_self]

open Go.ChangeShapes Go.WideShapes Go.ChangeAt
theorem fieldMutuals_len9 {l : List Int} (h : l.length = 9) : ∃ a0 a1 a2 a3 a4 a5 a6 a7 a8, l = [a0, a1, a2, a3, a4, a5, a6, a7, a8] := by
  match l, h with
  | [a0, a1, a2, a3, a4, a5, a6, a7, a8], _ => exact ⟨a0, a1, a2, a3, a4, a5, a6, a7, a8, rfl⟩
set_option maxRecDepth 100000 in
theorem fieldMutuals_lifted (os : Os) (started : os.Started) (H : Type) (enc : TypeId × Value → H) :
    ReturnsInHanded {} Try.checked os 11 .any (Rows.fieldMutualsSpec.pre6 enc Try.prog Try.f11 Rows.fieldMutualsRow.domain false) (Rows.fieldMutualsSpec.post enc Try.prog Try.f11 false true false false) := by
  refine returnsInHanded_of_change (C := Try.checked) own started (by kernel_rfl) Try.func11
    (ChangeSpec.witness6 (enc := enc) (C := Try.checked) false ⟨#[], #[.agg #[.int .i64 0, .int .i64 0, .int .i64 0, .int .i64 0, .int .i64 0, .int .i64 0, .int .i64 0, .int .i64 0, .int .i64 0], .agg #[.int .i64 0, .int .i64 0, .int .i64 0, .int .i64 0, .int .i64 0, .int .i64 0, .int .i64 0, .int .i64 0, .int .i64 0], .int .i64 0], []⟩ 8 (by kernel_rfl) (by kernel_rfl) (by kernel_rfl) (by kernel_rfl)) ?_
  intro W base args ds gs before hval0 hW hcnd _
  have hval : ∀ (j : Nat) t v, Try.f11.params[j]? = some t → args[j]? = some v → Value.okWide Try.prog W .any base t v := hval0
  have hW' := hW
  obtain ⟨p, q, hA0, hV, rfl, hfz, hnd⟩ := hW
  have hA : DataW.TrodAll enc Try.prog W 0 (fun _ => true) true Try.f11.params.toList args.toList ds p := hA0
  rw [Try.params11] at hA hval
  obtain ⟨v0, vs0, d0, ds0, p0, q0, hargs, rfl, rfl, h0, r0⟩ := trodAll_cons hA
  obtain ⟨v1, vs1, d1, ds1, p1, q1, rfl, rfl, rfl, h1, r1⟩ := trodAll_cons r0
  obtain ⟨v2, vs2, d2, ds2, p2, q2, rfl, rfl, rfl, h2, r2⟩ := trodAll_cons r1
  obtain ⟨rfl, rfl, rfl⟩ := trodAll_nil r2
  obtain rfl : args = #[v0, v1, v2] := by cases args; simp_all
  obtain ⟨rfl, rfl⟩ := trodVars_none hV
  obtain ⟨rfl, ns0, rfl, l0⟩ := open_flat Try.underlying25 (by kernel_rfl) (hval 0 25 v0 rfl rfl) h0
  rw [show Try.prog.cellsOf 25 = 9 from by kernel_rfl] at l0
  obtain ⟨x0_0, x0_1, x0_2, x0_3, x0_4, x0_5, x0_6, x0_7, x0_8, rfl⟩ := fieldMutuals_len9 l0
  obtain ⟨rfl, ns1, rfl, l1⟩ := open_flat Try.underlying25 (by kernel_rfl) (hval 1 25 v1 rfl rfl) h1
  rw [show Try.prog.cellsOf 25 = 9 from by kernel_rfl] at l1
  obtain ⟨x1_0, x1_1, x1_2, x1_3, x1_4, x1_5, x1_6, x1_7, x1_8, rfl⟩ := fieldMutuals_len9 l1
  obtain ⟨x2, rfl, rfl, rfl, w2⟩ := open_int Try.underlying3 (hval 2 3 v2 rfl rfl) h2
  clear hA0 hval0 hval hA
  simp only [List.append_nil] at hW'
  have hC : Con Try.prog 11 [.a ([x0_0, x0_1, x0_2, x0_3, x0_4, x0_5, x0_6, x0_7, x0_8].map iv), .a ([x1_0, x1_1, x1_2, x1_3, x1_4, x1_5, x1_6, x1_7, x1_8].map iv), iv x2] [] (.v (.bool true)) [] := by
    have h := C11 ((x0_0, x0_1, x0_2), (x0_3, x0_4, x0_5), (x0_6, x0_7, x0_8)) ((x1_0, x1_1, x1_2), (x1_3, x1_4, x1_5), (x1_6, x1_7, x1_8)) x2
    rw [law_mutuals] at h
    exact h
  refine (law_calls (vs := [.agg ([x0_0, x0_1, x0_2, x0_3, x0_4, x0_5, x0_6, x0_7, x0_8].map (Value.int .i64)).toArray, .agg ([x1_0, x1_1, x1_2, x1_3, x1_4, x1_5, x1_6, x1_7, x1_8].map (Value.int .i64)).toArray, .int .i64 x2]) hC ⟨rel_agg [x0_0, x0_1, x0_2, x0_3, x0_4, x0_5, x0_6, x0_7, x0_8], rel_agg [x1_0, x1_1, x1_2, x1_3, x1_4, x1_5, x1_6, x1_7, x1_8], rfl, trivial⟩ W).mono fun e W' ⟨he, hb⟩ => ?_
  subst he
  exact ⟨_, rfl, post_below (before := []) hW' hb (fun _ _ _ => (all_mk (shut_bool Try.underlying4 _) trodAll_mk0)) (all_mk (Below.trod laidOut (by kernel_rfl) (of_decide_eq_true (by kernel_rfl)) h0 hb (fun x hx => by cases hx)) (all_mk (Below.trod laidOut (by kernel_rfl) (of_decide_eq_true (by kernel_rfl)) h1 hb (fun x hx => by cases hx)) (all_mk (Below.trod laidOut (by kernel_rfl) (of_decide_eq_true (by kernel_rfl)) h2 hb (fun x hx => by cases hx)) trodAll_mk0))) rfl⟩
theorem fieldMutuals_over : Rows.fieldMutualsRow.holds Try.pinned (OpenSpec.ofChange Rows.fieldMutualsSpec) :=
  OpenClaim.holds_of_wide 11 Try.f11 rfl rfl rfl rfl rfl rfl rfl ⟨rfl, rfl, rfl, rfl, rfl⟩ rfl rfl rfl rfl rfl (by kernel_rfl) Try.func11 (by kernel_rfl)
    (of_decide_eq_true (by kernel_rfl)) (by unfold Func.isWrapper; first | (rw [if_pos (by decide +kernel)]; kernel_rfl) | (rw [if_neg (by decide +kernel)]; exact ⟨rfl, rfl⟩))
    (fun os started H enc _ => fieldMutuals_lifted os started H enc)
/-- THE STATEMENT -/
theorem fieldMutuals_proved : Rows.FieldMutualsSaid :=
  fieldMutuals_over

end Go.Proofs.Ytjlekmjnkpcnoaa
