/-
  SoundScenes: for every list of pulses, point, speed, tick and depth the law returns true, and its arguments read behind the call as they read before. No condition.
-/
import Derived.Test.YtnkeljlllagddaaGreatVPsc5
import Derived.ProofKit
namespace Go.Proofs.YtnkeljlllagddaaGreat
open Go.Proofs Go.Aw Go.RowKit
set_option maxRecDepth 100000
set_option linter.unusedVariables false
set_option linter.unusedSimpArgs false

/-- facet/facetlaw08.SoundScenes at ('L',) -/
def F4_L (a0 : List (((Int × Int × Int) × (Int × Int × Int) × Int × Int × Int) × Int × Int)) (a1 : (Int × Int × Int) × Int × Int × Int) : Bool :=
  (bif (decide ((((a0.length : Nat) : Int) : Int) > 60)) then
   F13
  else
   (bif ((((F16_L a0 a1.1 a1.2.1 a1.2.2.1 a1.2.2.2).1.1 : Int) == (F17_L a0 a1.1 a1.2.1 a1.2.2.1 a1.2.2.2).1.1) && ((((F16_L a0 a1.1 a1.2.1 a1.2.2.1 a1.2.2.2).1.2 : Int) == (F17_L a0 a1.1 a1.2.1 a1.2.2.1 a1.2.2.2).1.2) && true)) then
    (bif (((F16_L a0 a1.1 a1.2.1 a1.2.2.1 a1.2.2.2).2 : Int) == (F17_L a0 a1.1 a1.2.1 a1.2.2.1 a1.2.2.2).2) then
     (bif ((((F18_L a0 a1.1 a1.2.2.2).1.1 : Int) == (F19_L a0 a1.1 a1.2.2.2).1.1) && ((((F18_L a0 a1.1 a1.2.2.2).1.2 : Int) == (F19_L a0 a1.1 a1.2.2.2).1.2) && true)) then
      (bif (((F18_L a0 a1.1 a1.2.2.2).2 : Int) == (F19_L a0 a1.1 a1.2.2.2).2) then
       F13
      else
       false)
     else
      false)
    else
     false)
   else
    false))

noncomputable def oC4_L_0 (a0 : List (((Int × Int × Int) × (Int × Int × Int) × Int × Int × Int) × Int × Int)) (a1 : (Int × Int × Int) × Int × Int × Int) : Or := .call [0] (.t [(.a (k2 (F16_L a0 a1.1 a1.2.1 a1.2.2.1 a1.2.2.2).1)), (iv (F16_L a0 a1.1 a1.2.1 a1.2.2.1 a1.2.2.2).2)]) []
noncomputable def oC4_L_1 (a0 : List (((Int × Int × Int) × (Int × Int × Int) × Int × Int × Int) × Int × Int)) (a1 : (Int × Int × Int) × Int × Int × Int) : Or := .call [0] (.t [(.a (k2 (F17_L a0 a1.1 a1.2.1 a1.2.2.1 a1.2.2.2).1)), (iv (F17_L a0 a1.1 a1.2.1 a1.2.2.1 a1.2.2.2).2)]) []
noncomputable def oC4_L_2 (a0 : List (((Int × Int × Int) × (Int × Int × Int) × Int × Int × Int) × Int × Int)) (a1 : (Int × Int × Int) × Int × Int × Int) : Or := .call [0] (.t [(.a (k2 (F18_L a0 a1.1 a1.2.2.2).1)), (iv (F18_L a0 a1.1 a1.2.2.2).2)]) []
noncomputable def oC4_L_3 (a0 : List (((Int × Int × Int) × (Int × Int × Int) × Int × Int × Int) × Int × Int)) (a1 : (Int × Int × Int) × Int × Int × Int) : Or := .call [0] (.t [(.a (k2 (F19_L a0 a1.1 a1.2.2.2).1)), (iv (F19_L a0 a1.1 a1.2.2.2).2)]) []
noncomputable def oC4_L_4 (a0 : List (((Int × Int × Int) × (Int × Int × Int) × Int × Int × Int) × Int × Int)) (a1 : (Int × Int × Int) × Int × Int × Int) : Ob := .call 16 [(.s 0 0 a0.length 11), (.a (k3 a1.1)), (iv a1.2.1), (iv a1.2.2.1), (iv a1.2.2.2)] [(.live false true (flat c67 a0))] (.t [(.a (k2 (F16_L a0 a1.1 a1.2.1 a1.2.2.1 a1.2.2.2).1)), (iv (F16_L a0 a1.1 a1.2.1 a1.2.2.1 a1.2.2.2).2)]) []
noncomputable def oC4_L_5 (a0 : List (((Int × Int × Int) × (Int × Int × Int) × Int × Int × Int) × Int × Int)) (a1 : (Int × Int × Int) × Int × Int × Int) : Ob := .call 17 [(.s 0 0 a0.length 11), (.a (k3 a1.1)), (iv a1.2.1), (iv a1.2.2.1), (iv a1.2.2.2)] [(.live false true (flat c67 a0))] (.t [(.a (k2 (F17_L a0 a1.1 a1.2.1 a1.2.2.1 a1.2.2.2).1)), (iv (F17_L a0 a1.1 a1.2.1 a1.2.2.1 a1.2.2.2).2)]) []
noncomputable def oC4_L_6 (a0 : List (((Int × Int × Int) × (Int × Int × Int) × Int × Int × Int) × Int × Int)) (a1 : (Int × Int × Int) × Int × Int × Int) : Ob := .call 18 [(.s 0 0 a0.length 11), (.a (k3 a1.1)), (iv a1.2.2.2)] [(.live false true (flat c67 a0))] (.t [(.a (k2 (F18_L a0 a1.1 a1.2.2.2).1)), (iv (F18_L a0 a1.1 a1.2.2.2).2)]) []
noncomputable def oC4_L_7 (a0 : List (((Int × Int × Int) × (Int × Int × Int) × Int × Int × Int) × Int × Int)) (a1 : (Int × Int × Int) × Int × Int × Int) : Ob := .call 19 [(.s 0 0 a0.length 11), (.a (k3 a1.1)), (iv a1.2.2.2)] [(.live false true (flat c67 a0))] (.t [(.a (k2 (F19_L a0 a1.1 a1.2.2.2).1)), (iv (F19_L a0 a1.1 a1.2.2.2).2)]) []
noncomputable def oC4_L_8 (a0 : List (((Int × Int × Int) × (Int × Int × Int) × Int × Int × Int) × Int × Int)) (a1 : (Int × Int × Int) × Int × Int × Int) : Ob := .eq ((((F16_L a0 a1.1 a1.2.1 a1.2.2.1 a1.2.2.2).1.1 : Int) == (F17_L a0 a1.1 a1.2.1 a1.2.2.1 a1.2.2.2).1.1) && ((((F16_L a0 a1.1 a1.2.1 a1.2.2.1 a1.2.2.2).1.2 : Int) == (F17_L a0 a1.1 a1.2.1 a1.2.2.1 a1.2.2.2).1.2) && true)) true
noncomputable def oC4_L_9 (a0 : List (((Int × Int × Int) × (Int × Int × Int) × Int × Int × Int) × Int × Int)) (a1 : (Int × Int × Int) × Int × Int × Int) : Ob := .eq (((F16_L a0 a1.1 a1.2.1 a1.2.2.1 a1.2.2.2).2 : Int) == (F17_L a0 a1.1 a1.2.1 a1.2.2.1 a1.2.2.2).2) true
noncomputable def oC4_L_10 (a0 : List (((Int × Int × Int) × (Int × Int × Int) × Int × Int × Int) × Int × Int)) (a1 : (Int × Int × Int) × Int × Int × Int) : Ob := .eq ((((F18_L a0 a1.1 a1.2.2.2).1.1 : Int) == (F19_L a0 a1.1 a1.2.2.2).1.1) && ((((F18_L a0 a1.1 a1.2.2.2).1.2 : Int) == (F19_L a0 a1.1 a1.2.2.2).1.2) && true)) true
theorem C4_L (a0 : List (((Int × Int × Int) × (Int × Int × Int) × Int × Int × Int) × Int × Int)) (a1 : (Int × Int × Int) × Int × Int × Int) (l0 : a0.length ≤ 9223372036854775807) : Con Tryz.prog 4 [(.s 0 0 a0.length 11), (.a [(iv a1.1.1), (iv a1.1.2.1), (iv a1.1.2.2), (iv a1.2.1), (iv a1.2.2.1), (iv a1.2.2.2)])] [(.live false true (flat c67 a0))] (.v (.bool (F4_L a0 a1))) [] := by
  cases h0 : (decide ((((a0.length : Nat) : Int) : Int) > 60)) with
  | true =>
    have q0 := of_decide_eq_true h0
    have e : (F4_L a0 a1) = F13 := by simp only [F4_L, h0, cond_true, cond_false]
    rw [e]
    refine con_of (n := 9) Tryz.func4 rfl (ent Tryz.func4 (by kernel_rfl) rfl) (by show 2 ≤ Tryz.f4.ntmps; decide) (by kernel_rfl) ⟨rfl, trivial⟩ (fun cx hcx => ?_)
    exact ret_of (T := T0) hT hm (f := 5000) (orc := [.d true, .call [] (.v (.bool F13)) []]) [] [] [] hcx
      (obs := [.eq (decide ((((a0.length : Nat) : Int) : Int) > 60)) true, .call 13 [] [] (.v (.bool F13)) []]) (by kernel_rfl) ⟨h0, (C13), trivial⟩
  | false =>
    cases h1 : ((((F16_L a0 a1.1 a1.2.1 a1.2.2.1 a1.2.2.2).1.1 : Int) == (F17_L a0 a1.1 a1.2.1 a1.2.2.1 a1.2.2.2).1.1) && ((((F16_L a0 a1.1 a1.2.1 a1.2.2.1 a1.2.2.2).1.2 : Int) == (F17_L a0 a1.1 a1.2.1 a1.2.2.1 a1.2.2.2).1.2) && true)) with
    | true =>
      cases h2 : (((F16_L a0 a1.1 a1.2.1 a1.2.2.1 a1.2.2.2).2 : Int) == (F17_L a0 a1.1 a1.2.1 a1.2.2.1 a1.2.2.2).2) with
      | true =>
        cases h3 : ((((F18_L a0 a1.1 a1.2.2.2).1.1 : Int) == (F19_L a0 a1.1 a1.2.2.2).1.1) && ((((F18_L a0 a1.1 a1.2.2.2).1.2 : Int) == (F19_L a0 a1.1 a1.2.2.2).1.2) && true)) with
        | true =>
          cases h4 : (((F18_L a0 a1.1 a1.2.2.2).2 : Int) == (F19_L a0 a1.1 a1.2.2.2).2) with
          | true =>
            have q0 := of_decide_eq_false h0
            have q2 := eq_of_beq h2
            have q4 := eq_of_beq h4
            have e : (F4_L a0 a1) = F13 := by simp only [F4_L, h0, h1, h2, h3, h4, cond_true, cond_false]
            rw [e]
            refine con_of (n := 9) Tryz.func4 rfl (ent Tryz.func4 (by kernel_rfl) rfl) (by show 2 ≤ Tryz.f4.ntmps; decide) (by kernel_rfl) ⟨rfl, trivial⟩ (fun cx hcx => ?_)
            exact ret_of (T := T0) hT hm (f := 5000) (orc := [.d false, (oC4_L_0 a0 a1), (oC4_L_1 a0 a1), (oC4_L_2 a0 a1), (oC4_L_3 a0 a1), .d true, .d true, .d true, .d true, .call [] (.v (.bool F13)) []]) [] [] [] hcx
              (obs := [.eq (decide ((((a0.length : Nat) : Int) : Int) > 60)) false, (oC4_L_4 a0 a1), (oC4_L_5 a0 a1), (oC4_L_6 a0 a1), (oC4_L_7 a0 a1), (oC4_L_8 a0 a1), (oC4_L_9 a0 a1), (oC4_L_10 a0 a1), .eq (((F18_L a0 a1.1 a1.2.2.2).2 : Int) == (F19_L a0 a1.1 a1.2.2.2).2) true, .call 13 [] [] (.v (.bool F13)) []]) (by kernel_rfl) ⟨h0, (C16_L a0 a1.1 a1.2.1 a1.2.2.1 a1.2.2.2 (by (try simp only [List.length_append, List.length_cons, List.length_nil, Int.toNat_zero]); omega)), (C17_L a0 a1.1 a1.2.1 a1.2.2.1 a1.2.2.2 (by (try simp only [List.length_append, List.length_cons, List.length_nil, Int.toNat_zero]); omega)), (C18_L a0 a1.1 a1.2.2.2 (by (try simp only [List.length_append, List.length_cons, List.length_nil, Int.toNat_zero]); omega)), (C19_L a0 a1.1 a1.2.2.2 (by (try simp only [List.length_append, List.length_cons, List.length_nil, Int.toNat_zero]); omega)), h1, h2, h3, h4, (C13), trivial⟩
          | false =>
            have q0 := of_decide_eq_false h0
            have q2 := eq_of_beq h2
            have q4 := ne_of_beq_false h4
            have e : (F4_L a0 a1) = false := by simp only [F4_L, h0, h1, h2, h3, h4, cond_true, cond_false]
            rw [e]
            refine con_of (n := 9) Tryz.func4 rfl (ent Tryz.func4 (by kernel_rfl) rfl) (by show 2 ≤ Tryz.f4.ntmps; decide) (by kernel_rfl) ⟨rfl, trivial⟩ (fun cx hcx => ?_)
            exact ret_of (T := T0) hT hm (f := 5000) (orc := [.d false, (oC4_L_0 a0 a1), (oC4_L_1 a0 a1), (oC4_L_2 a0 a1), (oC4_L_3 a0 a1), .d true, .d true, .d true, .d false]) [] [] [] hcx
              (obs := [.eq (decide ((((a0.length : Nat) : Int) : Int) > 60)) false, (oC4_L_4 a0 a1), (oC4_L_5 a0 a1), (oC4_L_6 a0 a1), (oC4_L_7 a0 a1), (oC4_L_8 a0 a1), (oC4_L_9 a0 a1), (oC4_L_10 a0 a1), .eq (((F18_L a0 a1.1 a1.2.2.2).2 : Int) == (F19_L a0 a1.1 a1.2.2.2).2) false]) (by kernel_rfl) ⟨h0, (C16_L a0 a1.1 a1.2.1 a1.2.2.1 a1.2.2.2 (by (try simp only [List.length_append, List.length_cons, List.length_nil, Int.toNat_zero]); omega)), (C17_L a0 a1.1 a1.2.1 a1.2.2.1 a1.2.2.2 (by (try simp only [List.length_append, List.length_cons, List.length_nil, Int.toNat_zero]); omega)), (C18_L a0 a1.1 a1.2.2.2 (by (try simp only [List.length_append, List.length_cons, List.length_nil, Int.toNat_zero]); omega)), (C19_L a0 a1.1 a1.2.2.2 (by (try simp only [List.length_append, List.length_cons, List.length_nil, Int.toNat_zero]); omega)), h1, h2, h3, h4, trivial⟩
        | false =>
          have q0 := of_decide_eq_false h0
          have q2 := eq_of_beq h2
          have e : (F4_L a0 a1) = false := by simp only [F4_L, h0, h1, h2, h3, cond_true, cond_false]
          rw [e]
          refine con_of (n := 9) Tryz.func4 rfl (ent Tryz.func4 (by kernel_rfl) rfl) (by show 2 ≤ Tryz.f4.ntmps; decide) (by kernel_rfl) ⟨rfl, trivial⟩ (fun cx hcx => ?_)
          exact ret_of (T := T0) hT hm (f := 5000) (orc := [.d false, (oC4_L_0 a0 a1), (oC4_L_1 a0 a1), (oC4_L_2 a0 a1), (oC4_L_3 a0 a1), .d true, .d true, .d false]) [] [] [] hcx
            (obs := [.eq (decide ((((a0.length : Nat) : Int) : Int) > 60)) false, (oC4_L_4 a0 a1), (oC4_L_5 a0 a1), (oC4_L_6 a0 a1), (oC4_L_7 a0 a1), (oC4_L_8 a0 a1), (oC4_L_9 a0 a1), .eq ((((F18_L a0 a1.1 a1.2.2.2).1.1 : Int) == (F19_L a0 a1.1 a1.2.2.2).1.1) && ((((F18_L a0 a1.1 a1.2.2.2).1.2 : Int) == (F19_L a0 a1.1 a1.2.2.2).1.2) && true)) false]) (by kernel_rfl) ⟨h0, (C16_L a0 a1.1 a1.2.1 a1.2.2.1 a1.2.2.2 (by (try simp only [List.length_append, List.length_cons, List.length_nil, Int.toNat_zero]); omega)), (C17_L a0 a1.1 a1.2.1 a1.2.2.1 a1.2.2.2 (by (try simp only [List.length_append, List.length_cons, List.length_nil, Int.toNat_zero]); omega)), (C18_L a0 a1.1 a1.2.2.2 (by (try simp only [List.length_append, List.length_cons, List.length_nil, Int.toNat_zero]); omega)), (C19_L a0 a1.1 a1.2.2.2 (by (try simp only [List.length_append, List.length_cons, List.length_nil, Int.toNat_zero]); omega)), h1, h2, h3, trivial⟩
      | false =>
        have q0 := of_decide_eq_false h0
        have q2 := ne_of_beq_false h2
        have e : (F4_L a0 a1) = false := by simp only [F4_L, h0, h1, h2, cond_true, cond_false]
        rw [e]
        refine con_of (n := 9) Tryz.func4 rfl (ent Tryz.func4 (by kernel_rfl) rfl) (by show 2 ≤ Tryz.f4.ntmps; decide) (by kernel_rfl) ⟨rfl, trivial⟩ (fun cx hcx => ?_)
        exact ret_of (T := T0) hT hm (f := 5000) (orc := [.d false, (oC4_L_0 a0 a1), (oC4_L_1 a0 a1), (oC4_L_2 a0 a1), (oC4_L_3 a0 a1), .d true, .d false]) [] [] [] hcx
          (obs := [.eq (decide ((((a0.length : Nat) : Int) : Int) > 60)) false, (oC4_L_4 a0 a1), (oC4_L_5 a0 a1), (oC4_L_6 a0 a1), (oC4_L_7 a0 a1), (oC4_L_8 a0 a1), .eq (((F16_L a0 a1.1 a1.2.1 a1.2.2.1 a1.2.2.2).2 : Int) == (F17_L a0 a1.1 a1.2.1 a1.2.2.1 a1.2.2.2).2) false]) (by kernel_rfl) ⟨h0, (C16_L a0 a1.1 a1.2.1 a1.2.2.1 a1.2.2.2 (by (try simp only [List.length_append, List.length_cons, List.length_nil, Int.toNat_zero]); omega)), (C17_L a0 a1.1 a1.2.1 a1.2.2.1 a1.2.2.2 (by (try simp only [List.length_append, List.length_cons, List.length_nil, Int.toNat_zero]); omega)), (C18_L a0 a1.1 a1.2.2.2 (by (try simp only [List.length_append, List.length_cons, List.length_nil, Int.toNat_zero]); omega)), (C19_L a0 a1.1 a1.2.2.2 (by (try simp only [List.length_append, List.length_cons, List.length_nil, Int.toNat_zero]); omega)), h1, h2, trivial⟩
    | false =>
      have q0 := of_decide_eq_false h0
      have e : (F4_L a0 a1) = false := by simp only [F4_L, h0, h1, cond_true, cond_false]
      rw [e]
      refine con_of (n := 9) Tryz.func4 rfl (ent Tryz.func4 (by kernel_rfl) rfl) (by show 2 ≤ Tryz.f4.ntmps; decide) (by kernel_rfl) ⟨rfl, trivial⟩ (fun cx hcx => ?_)
      exact ret_of (T := T0) hT hm (f := 5000) (orc := [.d false, (oC4_L_0 a0 a1), (oC4_L_1 a0 a1), (oC4_L_2 a0 a1), (oC4_L_3 a0 a1), .d false]) [] [] [] hcx
        (obs := [.eq (decide ((((a0.length : Nat) : Int) : Int) > 60)) false, (oC4_L_4 a0 a1), (oC4_L_5 a0 a1), (oC4_L_6 a0 a1), (oC4_L_7 a0 a1), .eq ((((F16_L a0 a1.1 a1.2.1 a1.2.2.1 a1.2.2.2).1.1 : Int) == (F17_L a0 a1.1 a1.2.1 a1.2.2.1 a1.2.2.2).1.1) && ((((F16_L a0 a1.1 a1.2.1 a1.2.2.1 a1.2.2.2).1.2 : Int) == (F17_L a0 a1.1 a1.2.1 a1.2.2.1 a1.2.2.2).1.2) && true)) false]) (by kernel_rfl) ⟨h0, (C16_L a0 a1.1 a1.2.1 a1.2.2.1 a1.2.2.2 (by (try simp only [List.length_append, List.length_cons, List.length_nil, Int.toNat_zero]); omega)), (C17_L a0 a1.1 a1.2.1 a1.2.2.1 a1.2.2.2 (by (try simp only [List.length_append, List.length_cons, List.length_nil, Int.toNat_zero]); omega)), (C18_L a0 a1.1 a1.2.2.2 (by (try simp only [List.length_append, List.length_cons, List.length_nil, Int.toNat_zero]); omega)), (C19_L a0 a1.1 a1.2.2.2 (by (try simp only [List.length_append, List.length_cons, List.length_nil, Int.toNat_zero]); omega)), h1, trivial⟩

theorem law_scenes (l : List PU) (x : P3 × Int × Int × Int) : F4_L l x = true := by
  unfold F4_L
  simp only [sane_t, Scene_f, Scene_r, Total_f, Total_r]
  simp

open Go.ChangeShapes Go.WideShapes Go.ChangeAt
theorem soundScenes_len6 {l : List Int} (h : l.length = 6) : ∃ a0 a1 a2 a3 a4 a5, l = [a0, a1, a2, a3, a4, a5] := by
  match l, h with
  | [a0, a1, a2, a3, a4, a5], _ => exact ⟨a0, a1, a2, a3, a4, a5, rfl⟩
theorem soundScenes_len11 {l : List Int} (h : l.length = 11) : ∃ a0 a1 a2 a3 a4 a5 a6 a7 a8 a9 a10, l = [a0, a1, a2, a3, a4, a5, a6, a7, a8, a9, a10] := by
  match l, h with
  | [a0, a1, a2, a3, a4, a5, a6, a7, a8, a9, a10], _ => exact ⟨a0, a1, a2, a3, a4, a5, a6, a7, a8, a9, a10, rfl⟩
def soundScenes_mk67 (ns : List Int) : ((Int × Int × Int) × (Int × Int × Int) × Int × Int × Int) × Int × Int := ((((ns.getD 0 0), (ns.getD 1 0), (ns.getD 2 0)), ((ns.getD 3 0), (ns.getD 4 0), (ns.getD 5 0)), ((ns.getD 6 0), (ns.getD 7 0), (ns.getD 8 0))), (ns.getD 9 0), (ns.getD 10 0))
theorem soundScenes_mkc67 (ns : List Int) (h : ns.length = 11) : c67 (soundScenes_mk67 ns) = ns.map iv := by
  obtain ⟨a0, a1, a2, a3, a4, a5, a6, a7, a8, a9, a10, rfl⟩ := soundScenes_len11 h
  rfl
set_option maxRecDepth 100000 in
theorem soundScenes_lifted (os : Os) (started : os.Started) (H : Type) (enc : TypeId × Value → H) :
    ReturnsInHanded {} Tryz.checked os 4 .any (Rows.soundScenesSpec.pre6 enc Tryz.prog Tryz.f4 Rows.soundScenesRow.domain false) (Rows.soundScenesSpec.post enc Tryz.prog Tryz.f4 false true false false) := by
  refine returnsInHanded_of_change (C := Tryz.checked) own started (by kernel_rfl) Tryz.func4
    (ChangeSpec.witness6 (enc := enc) (C := Tryz.checked) false ⟨#[], #[.slice none 0 0, .agg #[.int .i64 0, .int .i64 0, .int .i64 0, .int .i64 0, .int .i64 0, .int .i64 0]], []⟩ 8 (by kernel_rfl) (by kernel_rfl) (by kernel_rfl) (by kernel_rfl)) ?_
  intro W base args ds gs before hval0 hW hcnd _
  have hval : ∀ (j : Nat) t v, Tryz.f4.params[j]? = some t → args[j]? = some v → Value.okWide Tryz.prog W .any base t v := hval0
  have hW' := hW
  obtain ⟨p, q, hA0, hV, rfl, hfz, hnd⟩ := hW
  have hA : DataW.TrodAll enc Tryz.prog W 0 (fun _ => true) true Tryz.f4.params.toList args.toList ds p := hA0
  rw [Tryz.params4] at hA hval
  obtain ⟨v0, vs0, d0, ds0, p0, q0, hargs, rfl, rfl, h0, r0⟩ := trodAll_cons hA
  obtain ⟨v1, vs1, d1, ds1, p1, q1, rfl, rfl, rfl, h1, r1⟩ := trodAll_cons r0
  obtain ⟨rfl, rfl, rfl⟩ := trodAll_nil r1
  obtain rfl : args = #[v0, v1] := by cases args; simp_all
  obtain ⟨rfl, rfl⟩ := trodVars_none hV
  obtain ⟨⟨nss0, s0⟩, b0⟩ := open_list Tryz.underlying22 (by kernel_rfl) (show Tryz.prog.cellsOf 67 = 11 from by kernel_rfl) (hval 0 22 v0 rfl rfl) h0
  obtain ⟨rfl, ns1, rfl, l1⟩ := open_flat Tryz.underlying26 (by kernel_rfl) (hval 1 26 v1 rfl rfl) h1
  rw [show Tryz.prog.cellsOf 26 = 6 from by kernel_rfl] at l1
  obtain ⟨x1_0, x1_1, x1_2, x1_3, x1_4, x1_5, rfl⟩ := soundScenes_len6 l1
  clear hA0 hval0 hval hA
  simp only [List.append_nil, List.nil_append] at hW'
  have hC : Con Tryz.prog 4 [.s 0 0 nss0.length 11, .a ([x1_0, x1_1, x1_2, x1_3, x1_4, x1_5].map iv)] [.live false true ((nss0.flatten).map iv)] (.v (.bool true)) [] := by
    have h := C4_L (nss0.map soundScenes_mk67) ((x1_0, x1_1, x1_2), x1_3, x1_4, x1_5) (by rw [List.length_map]; exact s0.2.1)
    rw [law_scenes, flat_mk soundScenes_mkc67 s0.1] at h
    simp only [List.length_map] at h
    exact h
  refine (law_calls1 (vs := [v0, .agg ([x1_0, x1_1, x1_2, x1_3, x1_4, x1_5].map (Value.int .i64)).toArray]) hC s0 ⟨slice_rel s0 rfl, rel_agg [x1_0, x1_1, x1_2, x1_3, x1_4, x1_5], trivial⟩).mono fun e W' ⟨he, hb⟩ => ?_
  subst he
  have hargs2 := (all_mk (Below.trod laidOut (by kernel_rfl) (of_decide_eq_true (by kernel_rfl)) h0 hb b0) (all_mk (Below.trod laidOut (by kernel_rfl) (of_decide_eq_true (by kernel_rfl)) h1 hb (fun x hx => by cases hx)) trodAll_mk0))
  simp only [List.append_nil, List.nil_append] at hargs2
  exact ⟨_, rfl, post_below hW' hb (fun _ _ _ => (all_mk (shut_bool Tryz.underlying4 _) trodAll_mk0)) hargs2 rfl⟩
theorem soundScenes_over : Rows.soundScenesRow.holds Tryz.pinned (OpenSpec.ofChange Rows.soundScenesSpec) :=
  OpenClaim.holds_of_wide 4 Tryz.f4 rfl rfl rfl rfl rfl rfl rfl ⟨rfl, rfl, rfl, rfl, rfl⟩ rfl rfl rfl rfl rfl (by kernel_rfl) Tryz.func4 (by kernel_rfl)
    (of_decide_eq_true (by kernel_rfl)) (by unfold Func.isWrapper; first | (rw [if_pos (by decide +kernel)]; kernel_rfl) | (rw [if_neg (by decide +kernel)]; exact ⟨rfl, rfl⟩))
    (fun os started H enc _ => soundScenes_lifted os started H enc)
/-- THE STATEMENT -/
theorem soundScenes_proved : Rows.SoundScenesSaid :=
  soundScenes_over

end Go.Proofs.YtnkeljlllagddaaGreat
