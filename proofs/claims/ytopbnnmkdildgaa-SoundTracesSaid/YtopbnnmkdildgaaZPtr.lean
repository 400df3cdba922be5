/-
  SoundTraces: for every list of pulses, point, speed, two ticks and depth the law returns true, and its arguments read behind the call as they read before. No condition.
-/
import Derived.Test.YtopbnnmkdildgaaVPtr5
import Derived.ProofKit
namespace Go.Proofs.Ytopbnnmkdildgaa
open Go.Proofs Go.Aw Go.RowKit
set_option maxRecDepth 100000
set_option linter.unusedVariables false
set_option linter.unusedSimpArgs false

/-- facet/facetlaw08.SoundTraces at ('L',) -/
def F10_L (a0 : List (((Int × Int × Int) × (Int × Int × Int) × Int × Int × Int) × Int × Int)) (a1 : (Int × Int × Int) × Int × Int × Int × Int) : Bool :=
  (bif (decide ((((a0.length : Nat) : Int) : Int) > 6)) then
   (bif (decide ((((a0.length : Nat) : Int) : Int) ≤ 16)) then
    F18
   else
    (bif (decide ((((a0.length : Nat) : Int) : Int) > 60)) then
     F18
    else
     (bif (((F33_L a0 a1.1 a1.2.1 a1.2.2.1 a1.2.2.2.1 a1.2.2.2.2).2 : Int) == (F34_L a0 a1.1 a1.2.1 a1.2.2.1 a1.2.2.2.1 a1.2.2.2.2).2) then
      (bif (F35_L_L (F33_L a0 a1.1 a1.2.1 a1.2.2.1 a1.2.2.2.1 a1.2.2.2.2).1 (F34_L a0 a1.1 a1.2.1 a1.2.2.1 a1.2.2.2.1 a1.2.2.2.2).1) then
       F18
      else
       false)
     else
      false)))
  else
   (bif (decide ((((a0.length : Nat) : Int) : Int) > 60)) then
    F18
   else
    (bif (((F33_L a0 a1.1 a1.2.1 a1.2.2.1 a1.2.2.2.1 a1.2.2.2.2).2 : Int) == (F34_L a0 a1.1 a1.2.1 a1.2.2.1 a1.2.2.2.1 a1.2.2.2.2).2) then
     (bif (F35_L_L (F33_L a0 a1.1 a1.2.1 a1.2.2.1 a1.2.2.2.1 a1.2.2.2.2).1 (F34_L a0 a1.1 a1.2.1 a1.2.2.1 a1.2.2.2.1 a1.2.2.2.2).1) then
      F18
     else
      false)
    else
     false)))

noncomputable def oC10_L_0 (a0 : List (((Int × Int × Int) × (Int × Int × Int) × Int × Int × Int) × Int × Int)) (a1 : (Int × Int × Int) × Int × Int × Int × Int) : Or := .call [0] (.t [(.s 1 0 (F33_L a0 a1.1 a1.2.1 a1.2.2.1 a1.2.2.2.1 a1.2.2.2.2).1.length 2), (iv (F33_L a0 a1.1 a1.2.1 a1.2.2.1 a1.2.2.2.1 a1.2.2.2.2).2)]) [(.live true true (flat c32 (F33_L a0 a1.1 a1.2.1 a1.2.2.1 a1.2.2.2.1 a1.2.2.2.2).1))]
noncomputable def oC10_L_1 (a0 : List (((Int × Int × Int) × (Int × Int × Int) × Int × Int × Int) × Int × Int)) (a1 : (Int × Int × Int) × Int × Int × Int × Int) : Or := .call [0] (.t [(.s 1 0 (F34_L a0 a1.1 a1.2.1 a1.2.2.1 a1.2.2.2.1 a1.2.2.2.2).1.length 2), (iv (F34_L a0 a1.1 a1.2.1 a1.2.2.1 a1.2.2.2.1 a1.2.2.2.2).2)]) [(.live true true (flat c32 (F34_L a0 a1.1 a1.2.1 a1.2.2.1 a1.2.2.2.1 a1.2.2.2.2).1))]
noncomputable def oC10_L_2 (a0 : List (((Int × Int × Int) × (Int × Int × Int) × Int × Int × Int) × Int × Int)) (a1 : (Int × Int × Int) × Int × Int × Int × Int) : Or := .call [2, 3] (.v (.bool (F35_L_L (F33_L a0 a1.1 a1.2.1 a1.2.2.1 a1.2.2.2.1 a1.2.2.2.2).1 (F34_L a0 a1.1 a1.2.1 a1.2.2.1 a1.2.2.2.1 a1.2.2.2.2).1))) []
noncomputable def oC10_L_3 (a0 : List (((Int × Int × Int) × (Int × Int × Int) × Int × Int × Int) × Int × Int)) (a1 : (Int × Int × Int) × Int × Int × Int × Int) : Ob := .call 33 [(.s 0 0 a0.length 11), (.a (k3 a1.1)), (iv a1.2.1), (iv a1.2.2.1), (iv a1.2.2.2.1), (iv a1.2.2.2.2)] [(.live false true (flat c41 a0))] (.t [(.s 1 0 (F33_L a0 a1.1 a1.2.1 a1.2.2.1 a1.2.2.2.1 a1.2.2.2.2).1.length 2), (iv (F33_L a0 a1.1 a1.2.1 a1.2.2.1 a1.2.2.2.1 a1.2.2.2.2).2)]) [(.live true true (flat c32 (F33_L a0 a1.1 a1.2.1 a1.2.2.1 a1.2.2.2.1 a1.2.2.2.2).1))]
noncomputable def oC10_L_4 (a0 : List (((Int × Int × Int) × (Int × Int × Int) × Int × Int × Int) × Int × Int)) (a1 : (Int × Int × Int) × Int × Int × Int × Int) : Ob := .call 34 [(.s 0 0 a0.length 11), (.a (k3 a1.1)), (iv a1.2.1), (iv a1.2.2.1), (iv a1.2.2.2.1), (iv a1.2.2.2.2)] [(.live false true (flat c41 a0))] (.t [(.s 1 0 (F34_L a0 a1.1 a1.2.1 a1.2.2.1 a1.2.2.2.1 a1.2.2.2.2).1.length 2), (iv (F34_L a0 a1.1 a1.2.1 a1.2.2.1 a1.2.2.2.1 a1.2.2.2.2).2)]) [(.live true true (flat c32 (F34_L a0 a1.1 a1.2.1 a1.2.2.1 a1.2.2.2.1 a1.2.2.2.2).1))]
noncomputable def oC10_L_5 (a0 : List (((Int × Int × Int) × (Int × Int × Int) × Int × Int × Int) × Int × Int)) (a1 : (Int × Int × Int) × Int × Int × Int × Int) : Ob := .eq (((F33_L a0 a1.1 a1.2.1 a1.2.2.1 a1.2.2.2.1 a1.2.2.2.2).2 : Int) == (F34_L a0 a1.1 a1.2.1 a1.2.2.1 a1.2.2.2.1 a1.2.2.2.2).2) true
noncomputable def oC10_L_6 (a0 : List (((Int × Int × Int) × (Int × Int × Int) × Int × Int × Int) × Int × Int)) (a1 : (Int × Int × Int) × Int × Int × Int × Int) : Ob := .call 35 [(.s 0 0 (F33_L a0 a1.1 a1.2.1 a1.2.2.1 a1.2.2.2.1 a1.2.2.2.2).1.length 2), (.s 1 0 (F34_L a0 a1.1 a1.2.1 a1.2.2.1 a1.2.2.2.1 a1.2.2.2.2).1.length 2)] [(.live false true (flat c32 (F33_L a0 a1.1 a1.2.1 a1.2.2.1 a1.2.2.2.1 a1.2.2.2.2).1)), (.live false true (flat c32 (F34_L a0 a1.1 a1.2.1 a1.2.2.1 a1.2.2.2.1 a1.2.2.2.2).1))] (.v (.bool (F35_L_L (F33_L a0 a1.1 a1.2.1 a1.2.2.1 a1.2.2.2.1 a1.2.2.2.2).1 (F34_L a0 a1.1 a1.2.1 a1.2.2.1 a1.2.2.2.1 a1.2.2.2.2).1))) []
theorem C10_L (a0 : List (((Int × Int × Int) × (Int × Int × Int) × Int × Int × Int) × Int × Int)) (a1 : (Int × Int × Int) × Int × Int × Int × Int) (l0 : a0.length ≤ 9223372036854775807) : Con Try.prog 10 [(.s 0 0 a0.length 11), (.a [(iv a1.1.1), (iv a1.1.2.1), (iv a1.1.2.2), (iv a1.2.1), (iv a1.2.2.1), (iv a1.2.2.2.1), (iv a1.2.2.2.2)])] [(.live false true (flat c41 a0))] (.v (.bool (F10_L a0 a1))) [] := by
  cases h0 : (decide ((((a0.length : Nat) : Int) : Int) > 6)) with
  | true =>
    cases h1 : (decide ((((a0.length : Nat) : Int) : Int) ≤ 16)) with
    | true =>
      have q0 := of_decide_eq_true h0
      have q1 := of_decide_eq_true h1
      have hd1 := trf_len a0 a1.1 a1.2.1 a1.2.2.1 a1.2.2.2.1 a1.2.2.2.2
      have hd2 := trr_len a0 a1.1 a1.2.1 a1.2.2.1 a1.2.2.2.1 a1.2.2.2.2
      have e : (F10_L a0 a1) = F18 := by simp only [F10_L, h0, h1, cond_true, cond_false]
      rw [e]
      refine con_of (n := 9) Try.func10 rfl (ent Try.func10 (by kernel_rfl) rfl) (by show 2 ≤ Try.f10.ntmps; decide) (by kernel_rfl) ⟨rfl, trivial⟩ (fun cx hcx => ?_)
      exact ret_of (T := T0) hT hm (f := 5000) (orc := [.d true, .d true, .call [] (.v (.bool F18)) []]) [] [] [] hcx
        (obs := [.eq (decide ((((a0.length : Nat) : Int) : Int) > 6)) true, .eq (decide ((((a0.length : Nat) : Int) : Int) ≤ 16)) true, .call 18 [] [] (.v (.bool F18)) []]) (by kernel_rfl) ⟨h0, h1, (C18), trivial⟩
    | false =>
      cases h2 : (decide ((((a0.length : Nat) : Int) : Int) > 60)) with
      | true =>
        have q0 := of_decide_eq_true h0
        have q1 := of_decide_eq_false h1
        have q2 := of_decide_eq_true h2
        have hd1 := trf_len a0 a1.1 a1.2.1 a1.2.2.1 a1.2.2.2.1 a1.2.2.2.2
        have hd2 := trr_len a0 a1.1 a1.2.1 a1.2.2.1 a1.2.2.2.1 a1.2.2.2.2
        have e : (F10_L a0 a1) = F18 := by simp only [F10_L, h0, h1, h2, cond_true, cond_false]
        rw [e]
        refine con_of (n := 9) Try.func10 rfl (ent Try.func10 (by kernel_rfl) rfl) (by show 2 ≤ Try.f10.ntmps; decide) (by kernel_rfl) ⟨rfl, trivial⟩ (fun cx hcx => ?_)
        exact ret_of (T := T0) hT hm (f := 5000) (orc := [.d true, .d false, .d true, .call [] (.v (.bool F18)) []]) [] [] [] hcx
          (obs := [.eq (decide ((((a0.length : Nat) : Int) : Int) > 6)) true, .eq (decide ((((a0.length : Nat) : Int) : Int) ≤ 16)) false, .eq (decide ((((a0.length : Nat) : Int) : Int) > 60)) true, .call 18 [] [] (.v (.bool F18)) []]) (by kernel_rfl) ⟨h0, h1, h2, (C18), trivial⟩
      | false =>
        cases h3 : (((F33_L a0 a1.1 a1.2.1 a1.2.2.1 a1.2.2.2.1 a1.2.2.2.2).2 : Int) == (F34_L a0 a1.1 a1.2.1 a1.2.2.1 a1.2.2.2.1 a1.2.2.2.2).2) with
        | true =>
          cases h4 : (F35_L_L (F33_L a0 a1.1 a1.2.1 a1.2.2.1 a1.2.2.2.1 a1.2.2.2.2).1 (F34_L a0 a1.1 a1.2.1 a1.2.2.1 a1.2.2.2.1 a1.2.2.2.2).1) with
          | true =>
            have q0 := of_decide_eq_true h0
            have q1 := of_decide_eq_false h1
            have q2 := of_decide_eq_false h2
            have q3 := eq_of_beq h3
            have hd1 := trf_len a0 a1.1 a1.2.1 a1.2.2.1 a1.2.2.2.1 a1.2.2.2.2
            have hd2 := trr_len a0 a1.1 a1.2.1 a1.2.2.1 a1.2.2.2.1 a1.2.2.2.2
            have e : (F10_L a0 a1) = F18 := by simp only [F10_L, h0, h1, h2, h3, h4, cond_true, cond_false]
            rw [e]
            refine con_of (n := 9) Try.func10 rfl (ent Try.func10 (by kernel_rfl) rfl) (by show 2 ≤ Try.f10.ntmps; decide) (by kernel_rfl) ⟨rfl, trivial⟩ (fun cx hcx => ?_)
            exact ret_of (T := T0) hT hm (f := 5000) (orc := [.d true, .d false, .d false, (oC10_L_0 a0 a1), (oC10_L_1 a0 a1), .d true, (oC10_L_2 a0 a1), .d true, .call [] (.v (.bool F18)) []]) [] [] [] hcx
              (obs := [.eq (decide ((((a0.length : Nat) : Int) : Int) > 6)) true, .eq (decide ((((a0.length : Nat) : Int) : Int) ≤ 16)) false, .eq (decide ((((a0.length : Nat) : Int) : Int) > 60)) false, (oC10_L_3 a0 a1), (oC10_L_4 a0 a1), (oC10_L_5 a0 a1), (oC10_L_6 a0 a1), .eq (F35_L_L (F33_L a0 a1.1 a1.2.1 a1.2.2.1 a1.2.2.2.1 a1.2.2.2.2).1 (F34_L a0 a1.1 a1.2.1 a1.2.2.1 a1.2.2.2.1 a1.2.2.2.2).1) true, .call 18 [] [] (.v (.bool F18)) []]) (by kernel_rfl) ⟨h0, h1, h2, (C33_L a0 a1.1 a1.2.1 a1.2.2.1 a1.2.2.2.1 a1.2.2.2.2 (by (try simp only [List.length_append, List.length_cons, List.length_nil, Int.toNat_zero]); omega)), (C34_L a0 a1.1 a1.2.1 a1.2.2.1 a1.2.2.2.1 a1.2.2.2.2 (by (try simp only [List.length_append, List.length_cons, List.length_nil, Int.toNat_zero]); omega)), h3, (C35_L_L (F33_L a0 a1.1 a1.2.1 a1.2.2.1 a1.2.2.2.1 a1.2.2.2.2).1 (F34_L a0 a1.1 a1.2.1 a1.2.2.1 a1.2.2.2.1 a1.2.2.2.2).1 (by (try simp only [List.length_append, List.length_cons, List.length_nil, Int.toNat_zero]); omega) (by (try simp only [List.length_append, List.length_cons, List.length_nil, Int.toNat_zero]); omega)), h4, (C18), trivial⟩
          | false =>
            have q0 := of_decide_eq_true h0
            have q1 := of_decide_eq_false h1
            have q2 := of_decide_eq_false h2
            have q3 := eq_of_beq h3
            have hd1 := trf_len a0 a1.1 a1.2.1 a1.2.2.1 a1.2.2.2.1 a1.2.2.2.2
            have hd2 := trr_len a0 a1.1 a1.2.1 a1.2.2.1 a1.2.2.2.1 a1.2.2.2.2
            have e : (F10_L a0 a1) = false := by simp only [F10_L, h0, h1, h2, h3, h4, cond_true, cond_false]
            rw [e]
            refine con_of (n := 9) Try.func10 rfl (ent Try.func10 (by kernel_rfl) rfl) (by show 2 ≤ Try.f10.ntmps; decide) (by kernel_rfl) ⟨rfl, trivial⟩ (fun cx hcx => ?_)
            exact ret_of (T := T0) hT hm (f := 5000) (orc := [.d true, .d false, .d false, (oC10_L_0 a0 a1), (oC10_L_1 a0 a1), .d true, (oC10_L_2 a0 a1), .d false]) [] [] [] hcx
              (obs := [.eq (decide ((((a0.length : Nat) : Int) : Int) > 6)) true, .eq (decide ((((a0.length : Nat) : Int) : Int) ≤ 16)) false, .eq (decide ((((a0.length : Nat) : Int) : Int) > 60)) false, (oC10_L_3 a0 a1), (oC10_L_4 a0 a1), (oC10_L_5 a0 a1), (oC10_L_6 a0 a1), .eq (F35_L_L (F33_L a0 a1.1 a1.2.1 a1.2.2.1 a1.2.2.2.1 a1.2.2.2.2).1 (F34_L a0 a1.1 a1.2.1 a1.2.2.1 a1.2.2.2.1 a1.2.2.2.2).1) false]) (by kernel_rfl) ⟨h0, h1, h2, (C33_L a0 a1.1 a1.2.1 a1.2.2.1 a1.2.2.2.1 a1.2.2.2.2 (by (try simp only [List.length_append, List.length_cons, List.length_nil, Int.toNat_zero]); omega)), (C34_L a0 a1.1 a1.2.1 a1.2.2.1 a1.2.2.2.1 a1.2.2.2.2 (by (try simp only [List.length_append, List.length_cons, List.length_nil, Int.toNat_zero]); omega)), h3, (C35_L_L (F33_L a0 a1.1 a1.2.1 a1.2.2.1 a1.2.2.2.1 a1.2.2.2.2).1 (F34_L a0 a1.1 a1.2.1 a1.2.2.1 a1.2.2.2.1 a1.2.2.2.2).1 (by (try simp only [List.length_append, List.length_cons, List.length_nil, Int.toNat_zero]); omega) (by (try simp only [List.length_append, List.length_cons, List.length_nil, Int.toNat_zero]); omega)), h4, trivial⟩
        | false =>
          have q0 := of_decide_eq_true h0
          have q1 := of_decide_eq_false h1
          have q2 := of_decide_eq_false h2
          have q3 := ne_of_beq_false h3
          have hd1 := trf_len a0 a1.1 a1.2.1 a1.2.2.1 a1.2.2.2.1 a1.2.2.2.2
          have hd2 := trr_len a0 a1.1 a1.2.1 a1.2.2.1 a1.2.2.2.1 a1.2.2.2.2
          have e : (F10_L a0 a1) = false := by simp only [F10_L, h0, h1, h2, h3, cond_true, cond_false]
          rw [e]
          refine con_of (n := 9) Try.func10 rfl (ent Try.func10 (by kernel_rfl) rfl) (by show 2 ≤ Try.f10.ntmps; decide) (by kernel_rfl) ⟨rfl, trivial⟩ (fun cx hcx => ?_)
          exact ret_of (T := T0) hT hm (f := 5000) (orc := [.d true, .d false, .d false, (oC10_L_0 a0 a1), (oC10_L_1 a0 a1), .d false]) [] [] [] hcx
            (obs := [.eq (decide ((((a0.length : Nat) : Int) : Int) > 6)) true, .eq (decide ((((a0.length : Nat) : Int) : Int) ≤ 16)) false, .eq (decide ((((a0.length : Nat) : Int) : Int) > 60)) false, (oC10_L_3 a0 a1), (oC10_L_4 a0 a1), .eq (((F33_L a0 a1.1 a1.2.1 a1.2.2.1 a1.2.2.2.1 a1.2.2.2.2).2 : Int) == (F34_L a0 a1.1 a1.2.1 a1.2.2.1 a1.2.2.2.1 a1.2.2.2.2).2) false]) (by kernel_rfl) ⟨h0, h1, h2, (C33_L a0 a1.1 a1.2.1 a1.2.2.1 a1.2.2.2.1 a1.2.2.2.2 (by (try simp only [List.length_append, List.length_cons, List.length_nil, Int.toNat_zero]); omega)), (C34_L a0 a1.1 a1.2.1 a1.2.2.1 a1.2.2.2.1 a1.2.2.2.2 (by (try simp only [List.length_append, List.length_cons, List.length_nil, Int.toNat_zero]); omega)), h3, trivial⟩
  | false =>
    cases h1 : (decide ((((a0.length : Nat) : Int) : Int) > 60)) with
    | true =>
      have q0 := of_decide_eq_false h0
      have q1 := of_decide_eq_true h1
      have hd1 := trf_len a0 a1.1 a1.2.1 a1.2.2.1 a1.2.2.2.1 a1.2.2.2.2
      have hd2 := trr_len a0 a1.1 a1.2.1 a1.2.2.1 a1.2.2.2.1 a1.2.2.2.2
      have e : (F10_L a0 a1) = F18 := by simp only [F10_L, h0, h1, cond_true, cond_false]
      rw [e]
      refine con_of (n := 9) Try.func10 rfl (ent Try.func10 (by kernel_rfl) rfl) (by show 2 ≤ Try.f10.ntmps; decide) (by kernel_rfl) ⟨rfl, trivial⟩ (fun cx hcx => ?_)
      exact ret_of (T := T0) hT hm (f := 5000) (orc := [.d false, .d true, .call [] (.v (.bool F18)) []]) [] [] [] hcx
        (obs := [.eq (decide ((((a0.length : Nat) : Int) : Int) > 6)) false, .eq (decide ((((a0.length : Nat) : Int) : Int) > 60)) true, .call 18 [] [] (.v (.bool F18)) []]) (by kernel_rfl) ⟨h0, h1, (C18), trivial⟩
    | false =>
      cases h2 : (((F33_L a0 a1.1 a1.2.1 a1.2.2.1 a1.2.2.2.1 a1.2.2.2.2).2 : Int) == (F34_L a0 a1.1 a1.2.1 a1.2.2.1 a1.2.2.2.1 a1.2.2.2.2).2) with
      | true =>
        cases h3 : (F35_L_L (F33_L a0 a1.1 a1.2.1 a1.2.2.1 a1.2.2.2.1 a1.2.2.2.2).1 (F34_L a0 a1.1 a1.2.1 a1.2.2.1 a1.2.2.2.1 a1.2.2.2.2).1) with
        | true =>
          have q0 := of_decide_eq_false h0
          have q1 := of_decide_eq_false h1
          have q2 := eq_of_beq h2
          have hd1 := trf_len a0 a1.1 a1.2.1 a1.2.2.1 a1.2.2.2.1 a1.2.2.2.2
          have hd2 := trr_len a0 a1.1 a1.2.1 a1.2.2.1 a1.2.2.2.1 a1.2.2.2.2
          have e : (F10_L a0 a1) = F18 := by simp only [F10_L, h0, h1, h2, h3, cond_true, cond_false]
          rw [e]
          refine con_of (n := 9) Try.func10 rfl (ent Try.func10 (by kernel_rfl) rfl) (by show 2 ≤ Try.f10.ntmps; decide) (by kernel_rfl) ⟨rfl, trivial⟩ (fun cx hcx => ?_)
          exact ret_of (T := T0) hT hm (f := 5000) (orc := [.d false, .d false, (oC10_L_0 a0 a1), (oC10_L_1 a0 a1), .d true, (oC10_L_2 a0 a1), .d true, .call [] (.v (.bool F18)) []]) [] [] [] hcx
            (obs := [.eq (decide ((((a0.length : Nat) : Int) : Int) > 6)) false, .eq (decide ((((a0.length : Nat) : Int) : Int) > 60)) false, (oC10_L_3 a0 a1), (oC10_L_4 a0 a1), (oC10_L_5 a0 a1), (oC10_L_6 a0 a1), .eq (F35_L_L (F33_L a0 a1.1 a1.2.1 a1.2.2.1 a1.2.2.2.1 a1.2.2.2.2).1 (F34_L a0 a1.1 a1.2.1 a1.2.2.1 a1.2.2.2.1 a1.2.2.2.2).1) true, .call 18 [] [] (.v (.bool F18)) []]) (by kernel_rfl) ⟨h0, h1, (C33_L a0 a1.1 a1.2.1 a1.2.2.1 a1.2.2.2.1 a1.2.2.2.2 (by (try simp only [List.length_append, List.length_cons, List.length_nil, Int.toNat_zero]); omega)), (C34_L a0 a1.1 a1.2.1 a1.2.2.1 a1.2.2.2.1 a1.2.2.2.2 (by (try simp only [List.length_append, List.length_cons, List.length_nil, Int.toNat_zero]); omega)), h2, (C35_L_L (F33_L a0 a1.1 a1.2.1 a1.2.2.1 a1.2.2.2.1 a1.2.2.2.2).1 (F34_L a0 a1.1 a1.2.1 a1.2.2.1 a1.2.2.2.1 a1.2.2.2.2).1 (by (try simp only [List.length_append, List.length_cons, List.length_nil, Int.toNat_zero]); omega) (by (try simp only [List.length_append, List.length_cons, List.length_nil, Int.toNat_zero]); omega)), h3, (C18), trivial⟩
        | false =>
          have q0 := of_decide_eq_false h0
          have q1 := of_decide_eq_false h1
          have q2 := eq_of_beq h2
          have hd1 := trf_len a0 a1.1 a1.2.1 a1.2.2.1 a1.2.2.2.1 a1.2.2.2.2
          have hd2 := trr_len a0 a1.1 a1.2.1 a1.2.2.1 a1.2.2.2.1 a1.2.2.2.2
          have e : (F10_L a0 a1) = false := by simp only [F10_L, h0, h1, h2, h3, cond_true, cond_false]
          rw [e]
          refine con_of (n := 9) Try.func10 rfl (ent Try.func10 (by kernel_rfl) rfl) (by show 2 ≤ Try.f10.ntmps; decide) (by kernel_rfl) ⟨rfl, trivial⟩ (fun cx hcx => ?_)
          exact ret_of (T := T0) hT hm (f := 5000) (orc := [.d false, .d false, (oC10_L_0 a0 a1), (oC10_L_1 a0 a1), .d true, (oC10_L_2 a0 a1), .d false]) [] [] [] hcx
            (obs := [.eq (decide ((((a0.length : Nat) : Int) : Int) > 6)) false, .eq (decide ((((a0.length : Nat) : Int) : Int) > 60)) false, (oC10_L_3 a0 a1), (oC10_L_4 a0 a1), (oC10_L_5 a0 a1), (oC10_L_6 a0 a1), .eq (F35_L_L (F33_L a0 a1.1 a1.2.1 a1.2.2.1 a1.2.2.2.1 a1.2.2.2.2).1 (F34_L a0 a1.1 a1.2.1 a1.2.2.1 a1.2.2.2.1 a1.2.2.2.2).1) false]) (by kernel_rfl) ⟨h0, h1, (C33_L a0 a1.1 a1.2.1 a1.2.2.1 a1.2.2.2.1 a1.2.2.2.2 (by (try simp only [List.length_append, List.length_cons, List.length_nil, Int.toNat_zero]); omega)), (C34_L a0 a1.1 a1.2.1 a1.2.2.1 a1.2.2.2.1 a1.2.2.2.2 (by (try simp only [List.length_append, List.length_cons, List.length_nil, Int.toNat_zero]); omega)), h2, (C35_L_L (F33_L a0 a1.1 a1.2.1 a1.2.2.1 a1.2.2.2.1 a1.2.2.2.2).1 (F34_L a0 a1.1 a1.2.1 a1.2.2.1 a1.2.2.2.1 a1.2.2.2.2).1 (by (try simp only [List.length_append, List.length_cons, List.length_nil, Int.toNat_zero]); omega) (by (try simp only [List.length_append, List.length_cons, List.length_nil, Int.toNat_zero]); omega)), h3, trivial⟩
      | false =>
        have q0 := of_decide_eq_false h0
        have q1 := of_decide_eq_false h1
        have q2 := ne_of_beq_false h2
        have hd1 := trf_len a0 a1.1 a1.2.1 a1.2.2.1 a1.2.2.2.1 a1.2.2.2.2
        have hd2 := trr_len a0 a1.1 a1.2.1 a1.2.2.1 a1.2.2.2.1 a1.2.2.2.2
        have e : (F10_L a0 a1) = false := by simp only [F10_L, h0, h1, h2, cond_true, cond_false]
        rw [e]
        refine con_of (n := 9) Try.func10 rfl (ent Try.func10 (by kernel_rfl) rfl) (by show 2 ≤ Try.f10.ntmps; decide) (by kernel_rfl) ⟨rfl, trivial⟩ (fun cx hcx => ?_)
        exact ret_of (T := T0) hT hm (f := 5000) (orc := [.d false, .d false, (oC10_L_0 a0 a1), (oC10_L_1 a0 a1), .d false]) [] [] [] hcx
          (obs := [.eq (decide ((((a0.length : Nat) : Int) : Int) > 6)) false, .eq (decide ((((a0.length : Nat) : Int) : Int) > 60)) false, (oC10_L_3 a0 a1), (oC10_L_4 a0 a1), .eq (((F33_L a0 a1.1 a1.2.1 a1.2.2.1 a1.2.2.2.1 a1.2.2.2.2).2 : Int) == (F34_L a0 a1.1 a1.2.1 a1.2.2.1 a1.2.2.2.1 a1.2.2.2.2).2) false]) (by kernel_rfl) ⟨h0, h1, (C33_L a0 a1.1 a1.2.1 a1.2.2.1 a1.2.2.2.1 a1.2.2.2.2 (by (try simp only [List.length_append, List.length_cons, List.length_nil, Int.toNat_zero]); omega)), (C34_L a0 a1.1 a1.2.1 a1.2.2.1 a1.2.2.2.1 a1.2.2.2.2 (by (try simp only [List.length_append, List.length_cons, List.length_nil, Int.toNat_zero]); omega)), h2, trivial⟩

theorem law_traces (l : List PU) (x : P3 × Int × Int × Int × Int) : F10_L l x = true := by
  unfold F10_L
  simp only [sane_t, Trace_f, Trace_r, sameS_refl]
  simp

open Go.ChangeShapes Go.WideShapes Go.ChangeAt
theorem soundTraces_len7 {l : List Int} (h : l.length = 7) : ∃ a0 a1 a2 a3 a4 a5 a6, l = [a0, a1, a2, a3, a4, a5, a6] := by
  match l, h with
  | [a0, a1, a2, a3, a4, a5, a6], _ => exact ⟨a0, a1, a2, a3, a4, a5, a6, rfl⟩
theorem soundTraces_len11 {l : List Int} (h : l.length = 11) : ∃ a0 a1 a2 a3 a4 a5 a6 a7 a8 a9 a10, l = [a0, a1, a2, a3, a4, a5, a6, a7, a8, a9, a10] := by
  match l, h with
  | [a0, a1, a2, a3, a4, a5, a6, a7, a8, a9, a10], _ => exact ⟨a0, a1, a2, a3, a4, a5, a6, a7, a8, a9, a10, rfl⟩
def soundTraces_mk41 (ns : List Int) : ((Int × Int × Int) × (Int × Int × Int) × Int × Int × Int) × Int × Int := ((((ns.getD 0 0), (ns.getD 1 0), (ns.getD 2 0)), ((ns.getD 3 0), (ns.getD 4 0), (ns.getD 5 0)), ((ns.getD 6 0), (ns.getD 7 0), (ns.getD 8 0))), (ns.getD 9 0), (ns.getD 10 0))
theorem soundTraces_mkc41 (ns : List Int) (h : ns.length = 11) : c41 (soundTraces_mk41 ns) = ns.map iv := by
  obtain ⟨a0, a1, a2, a3, a4, a5, a6, a7, a8, a9, a10, rfl⟩ := soundTraces_len11 h
  rfl
set_option maxRecDepth 100000 in
theorem soundTraces_lifted (os : Os) (started : os.Started) (H : Type) (enc : TypeId × Value → H) :
    ReturnsInHanded {} Try.checked os 10 .any (Rows.soundTracesSpec.pre6 enc Try.prog Try.f10 Rows.soundTracesRow.domain false) (Rows.soundTracesSpec.post enc Try.prog Try.f10 false true false false) := by
  refine returnsInHanded_of_change (C := Try.checked) own started (by kernel_rfl) Try.func10
    (ChangeSpec.witness6 (enc := enc) (C := Try.checked) false ⟨#[], #[.slice none 0 0, .agg #[.int .i64 0, .int .i64 0, .int .i64 0, .int .i64 0, .int .i64 0, .int .i64 0, .int .i64 0]], []⟩ 8 (by kernel_rfl) (by kernel_rfl) (by kernel_rfl) (by kernel_rfl)) ?_
  intro W base args ds gs before hval0 hW hcnd _
  have hval : ∀ (j : Nat) t v, Try.f10.params[j]? = some t → args[j]? = some v → Value.okWide Try.prog W .any base t v := hval0
  have hW' := hW
  obtain ⟨p, q, hA0, hV, rfl, hfz, hnd⟩ := hW
  have hA : DataW.TrodAll enc Try.prog W 0 (fun _ => true) true Try.f10.params.toList args.toList ds p := hA0
  rw [Try.params10] at hA hval
  obtain ⟨v0, vs0, d0, ds0, p0, q0, hargs, rfl, rfl, h0, r0⟩ := trodAll_cons hA
  obtain ⟨v1, vs1, d1, ds1, p1, q1, rfl, rfl, rfl, h1, r1⟩ := trodAll_cons r0
  obtain ⟨rfl, rfl, rfl⟩ := trodAll_nil r1
  obtain rfl : args = #[v0, v1] := by cases args; simp_all
  obtain ⟨rfl, rfl⟩ := trodVars_none hV
  obtain ⟨⟨nss0, s0⟩, b0⟩ := open_list Try.underlying48 (by kernel_rfl) (show Try.prog.cellsOf 41 = 11 from by kernel_rfl) (hval 0 48 v0 rfl rfl) h0
  obtain ⟨rfl, ns1, rfl, l1⟩ := open_flat Try.underlying59 (by kernel_rfl) (hval 1 59 v1 rfl rfl) h1
  rw [show Try.prog.cellsOf 59 = 7 from by kernel_rfl] at l1
  obtain ⟨x1_0, x1_1, x1_2, x1_3, x1_4, x1_5, x1_6, rfl⟩ := soundTraces_len7 l1
  clear hA0 hval0 hval hA
  simp only [List.append_nil, List.nil_append] at hW'
  have hC : Con Try.prog 10 [.s 0 0 nss0.length 11, .a ([x1_0, x1_1, x1_2, x1_3, x1_4, x1_5, x1_6].map iv)] [.live false true ((nss0.flatten).map iv)] (.v (.bool true)) [] := by
    have h := C10_L (nss0.map soundTraces_mk41) ((x1_0, x1_1, x1_2), x1_3, x1_4, x1_5, x1_6) (by rw [List.length_map]; exact s0.2.1)
    rw [law_traces, flat_mk soundTraces_mkc41 s0.1] at h
    simp only [List.length_map] at h
    exact h
  refine (law_calls1 (vs := [v0, .agg ([x1_0, x1_1, x1_2, x1_3, x1_4, x1_5, x1_6].map (Value.int .i64)).toArray]) hC s0 ⟨slice_rel s0 rfl, rel_agg [x1_0, x1_1, x1_2, x1_3, x1_4, x1_5, x1_6], trivial⟩).mono fun e W' ⟨he, hb⟩ => ?_
  subst he
  have hargs2 := (all_mk (Below.trod laidOut (by kernel_rfl) (of_decide_eq_true (by kernel_rfl)) h0 hb b0) (all_mk (Below.trod laidOut (by kernel_rfl) (of_decide_eq_true (by kernel_rfl)) h1 hb (fun x hx => by cases hx)) trodAll_mk0))
  simp only [List.append_nil, List.nil_append] at hargs2
  exact ⟨_, rfl, post_below hW' hb (fun _ _ _ => (all_mk (shut_bool Try.underlying4 _) trodAll_mk0)) hargs2 rfl⟩
theorem soundTraces_over : Rows.soundTracesRow.holds Try.pinned (OpenSpec.ofChange Rows.soundTracesSpec) :=
  OpenClaim.holds_of_wide 10 Try.f10 rfl rfl rfl rfl rfl rfl rfl ⟨rfl, rfl, rfl, rfl, rfl⟩ rfl rfl rfl rfl rfl (by kernel_rfl) Try.func10 (by kernel_rfl)
    (of_decide_eq_true (by kernel_rfl)) (by unfold Func.isWrapper; first | (rw [if_pos (by decide +kernel)]; kernel_rfl) | (rw [if_neg (by decide +kernel)]; exact ⟨rfl, rfl⟩))
    (fun os started H enc _ => soundTraces_lifted os started H enc)
/-- THE STATEMENT -/
theorem soundTraces_proved : Rows.SoundTracesSaid :=
  soundTraces_over

end Go.Proofs.Ytopbnnmkdildgaa
