/-
  A part of the proofs of the Field laws: what functions of the program compute, and that it is what the statements ask. No premise.
-/
import Derived.Test.YtopbnnmkdildgaaLs
namespace Go.Proofs.Ytopbnnmkdildgaa
open Go.Proofs Go.Aw Go.RowKit
set_option maxRecDepth 100000
set_option linter.unusedVariables false
set_option linter.unusedSimpArgs false

/-- (facet/sound.shell).gives -/
def F89 (a0 : Int × Int × Int) (a1 : Int) (a2 : Int) : (Int × Int) × Int :=
  (bif (decide ((a2 : Int) ≤ a0.1)) then
   ((0, 0), 0)
  else
   (bif (decide ((a1 : Int) > a0.2.1)) then
    ((0, 0), 0)
   else
    (bif (decide ((a1 : Int) > a0.1)) then
     (bif (((if (a1 : Int) < a0.1 then a0.1 else a1) : Int) == 0) then
      ((0, 0), 10)
     else
      (bif (((F81 (if (a1 : Int) < a0.1 then a0.1 else a1) a0.2.2).2 : Int) != 0) then
       ((0, (F81 (if (a1 : Int) < a0.1 then a0.1 else a1) a0.2.2).1.2), (F81 (if (a1 : Int) < a0.1 then a0.1 else a1) a0.2.2).2)
      else
       (bif (!(decide ((a2 : Int) ≤ a0.2.1))) then
        ((0, (F81 (if (a1 : Int) < a0.1 then a0.1 else a1) a0.2.2).1.2), (F81 (if (a1 : Int) < a0.1 then a0.1 else a1) a0.2.2).2)
       else
        (((F81 a2 a0.2.2).1.1, (F81 (if (a1 : Int) < a0.1 then a0.1 else a1) a0.2.2).1.2), (F81 a2 a0.2.2).2))))
    else
     (bif (((if (a1 : Int) < a0.1 then a0.1 else a1) : Int) == 0) then
      ((0, 0), 10)
     else
      (bif (((F81 (if (a1 : Int) < a0.1 then a0.1 else a1) a0.2.2).2 : Int) != 0) then
       ((0, (F81 (if (a1 : Int) < a0.1 then a0.1 else a1) a0.2.2).1.2), (F81 (if (a1 : Int) < a0.1 then a0.1 else a1) a0.2.2).2)
      else
       ((0, (F81 (if (a1 : Int) < a0.1 then a0.1 else a1) a0.2.2).1.2), (F81 (if (a1 : Int) < a0.1 then a0.1 else a1) a0.2.2).2))))))

noncomputable def oC89_0 (a0 : Int × Int × Int) (a1 : Int) : Ob := .eq (((if (a1 : Int) < a0.1 then a0.1 else a1) : Int) == 0) false
theorem C89 (a0 : Int × Int × Int) (a1 : Int) (a2 : Int) : Con Try.prog 89 [(.a (k3 a0)), (iv a1), (iv a2)] [] (.t [(.a (k2 (F89 a0 a1 a2).1)), (iv (F89 a0 a1 a2).2)]) [] := by
  cases h0 : (decide ((a2 : Int) ≤ a0.1)) with
  | true =>
    have q0 := of_decide_eq_true h0
    have e : (F89 a0 a1 a2) = ((0, 0), 0) := by simp only [F89, h0, cond_true, cond_false]
    rw [e]
    refine con_of (n := 9) Try.func89 rfl (ent Try.func89 (by kernel_rfl) rfl) (by show 3 ≤ Try.f89.ntmps; decide) (by kernel_rfl) trivial (fun cx hcx => ?_)
    exact ret_of (T := T0) hT hm (f := 5000) (orc := [.d true]) [] [] [] hcx
      (obs := [.eq (decide ((a2 : Int) ≤ a0.1)) true]) (by kernel_rfl) ⟨h0, trivial⟩
  | false =>
    cases h1 : (decide ((a1 : Int) > a0.2.1)) with
    | true =>
      have q0 := of_decide_eq_false h0
      have q1 := of_decide_eq_true h1
      have e : (F89 a0 a1 a2) = ((0, 0), 0) := by simp only [F89, h0, h1, cond_true, cond_false]
      rw [e]
      refine con_of (n := 9) Try.func89 rfl (ent Try.func89 (by kernel_rfl) rfl) (by show 3 ≤ Try.f89.ntmps; decide) (by kernel_rfl) trivial (fun cx hcx => ?_)
      exact ret_of (T := T0) hT hm (f := 5000) (orc := [.d false, .d true]) [] [] [] hcx
        (obs := [.eq (decide ((a2 : Int) ≤ a0.1)) false, .eq (decide ((a1 : Int) > a0.2.1)) true]) (by kernel_rfl) ⟨h0, h1, trivial⟩
    | false =>
      cases h2 : (decide ((a1 : Int) > a0.1)) with
      | true =>
        cases h3 : (((if (a1 : Int) < a0.1 then a0.1 else a1) : Int) == 0) with
        | true =>
          have q0 := of_decide_eq_false h0
          have q1 := of_decide_eq_false h1
          have q2 := of_decide_eq_true h2
          have q3 := eq_of_beq h3
          have e : (F89 a0 a1 a2) = ((0, 0), 10) := by simp only [F89, h0, h1, h2, h3, cond_true, cond_false]
          rw [e]
          refine con_of (n := 9) Try.func89 rfl (ent Try.func89 (by kernel_rfl) rfl) (by show 3 ≤ Try.f89.ntmps; decide) (by kernel_rfl) trivial (fun cx hcx => ?_)
          exact ret_of (T := T0) hT hm (f := 5000) (orc := [.d false, .d false, .d true, .d true]) [] [] [] hcx
            (obs := [.eq (decide ((a2 : Int) ≤ a0.1)) false, .eq (decide ((a1 : Int) > a0.2.1)) false, .eq (decide ((a1 : Int) > a0.1)) true, .eq (((if (a1 : Int) < a0.1 then a0.1 else a1) : Int) == 0) true]) (by kernel_rfl) ⟨h0, h1, h2, h3, trivial⟩
        | false =>
          cases h4 : (((F81 (if (a1 : Int) < a0.1 then a0.1 else a1) a0.2.2).2 : Int) != 0) with
          | true =>
            have q0 := of_decide_eq_false h0
            have q1 := of_decide_eq_false h1
            have q2 := of_decide_eq_true h2
            have q3 := ne_of_beq_false h3
            have q4 := bne_iff_ne.1 h4
            obtain ⟨u0, hu0⟩ : ∃ u, u = (F81 (if (a1 : Int) < a0.1 then a0.1 else a1) a0.2.2) := ⟨_, rfl⟩
            have e : (F89 a0 a1 a2) = ((0, u0.1.2), u0.2) := by subst hu0; simp only [F89, h0, h1, h2, h3, h4, cond_true, cond_false]
            rw [e]
            refine con_of (n := 9) Try.func89 rfl (ent Try.func89 (by kernel_rfl) rfl) (by show 3 ≤ Try.f89.ntmps; decide) (by kernel_rfl) trivial (fun cx hcx => ?_)
            exact ret_of (T := T0) hT hm (f := 5000) (orc := [.d false, .d false, .d true, .d false, .call [] (.t [(.a [(iv u0.1.1), (iv u0.1.2)]), (iv u0.2)]) [], .d true]) [] [] [] hcx
              (obs := [.eq (decide ((a2 : Int) ≤ a0.1)) false, .eq (decide ((a1 : Int) > a0.2.1)) false, .eq (decide ((a1 : Int) > a0.1)) true, (oC89_0 a0 a1), .call 81 [(iv (if (a1 : Int) < a0.1 then a0.1 else a1)), (iv a0.2.2)] [] (.t [(.a [(iv u0.1.1), (iv u0.1.2)]), (iv u0.2)]) [], .eq ((u0.2 : Int) != 0) true]) (by kernel_rfl) (by subst hu0; exact ⟨h0, h1, h2, h3, (C81 (if (a1 : Int) < a0.1 then a0.1 else a1) a0.2.2), h4, trivial⟩)
          | false =>
            cases h5 : (!(decide ((a2 : Int) ≤ a0.2.1))) with
            | true =>
              have q0 := of_decide_eq_false h0
              have q1 := of_decide_eq_false h1
              have q2 := of_decide_eq_true h2
              have q3 := ne_of_beq_false h3
              have q4 := bne_eq_false_iff_eq.1 h4
              obtain ⟨u0, hu0⟩ : ∃ u, u = (F81 (if (a1 : Int) < a0.1 then a0.1 else a1) a0.2.2) := ⟨_, rfl⟩
              have e : (F89 a0 a1 a2) = ((0, u0.1.2), u0.2) := by subst hu0; simp only [F89, h0, h1, h2, h3, h4, h5, cond_true, cond_false]
              rw [e]
              refine con_of (n := 9) Try.func89 rfl (ent Try.func89 (by kernel_rfl) rfl) (by show 3 ≤ Try.f89.ntmps; decide) (by kernel_rfl) trivial (fun cx hcx => ?_)
              exact ret_of (T := T0) hT hm (f := 5000) (orc := [.d false, .d false, .d true, .d false, .call [] (.t [(.a [(iv u0.1.1), (iv u0.1.2)]), (iv u0.2)]) [], .d false, .d true]) [] [] [] hcx
                (obs := [.eq (decide ((a2 : Int) ≤ a0.1)) false, .eq (decide ((a1 : Int) > a0.2.1)) false, .eq (decide ((a1 : Int) > a0.1)) true, (oC89_0 a0 a1), .call 81 [(iv (if (a1 : Int) < a0.1 then a0.1 else a1)), (iv a0.2.2)] [] (.t [(.a [(iv u0.1.1), (iv u0.1.2)]), (iv u0.2)]) [], .eq ((u0.2 : Int) != 0) false, .eq (!(decide ((a2 : Int) ≤ a0.2.1))) true]) (by kernel_rfl) (by subst hu0; exact ⟨h0, h1, h2, h3, (C81 (if (a1 : Int) < a0.1 then a0.1 else a1) a0.2.2), h4, h5, trivial⟩)
            | false =>
              have q0 := of_decide_eq_false h0
              have q1 := of_decide_eq_false h1
              have q2 := of_decide_eq_true h2
              have q3 := ne_of_beq_false h3
              have q4 := bne_eq_false_iff_eq.1 h4
              obtain ⟨u0, hu0⟩ : ∃ u, u = (F81 (if (a1 : Int) < a0.1 then a0.1 else a1) a0.2.2) := ⟨_, rfl⟩
              obtain ⟨u1, hu1⟩ : ∃ u, u = (F81 a2 a0.2.2) := ⟨_, rfl⟩
              have e : (F89 a0 a1 a2) = ((u1.1.1, u0.1.2), u1.2) := by subst hu1; subst hu0; simp only [F89, h0, h1, h2, h3, h4, h5, cond_true, cond_false]
              rw [e]
              refine con_of (n := 9) Try.func89 rfl (ent Try.func89 (by kernel_rfl) rfl) (by show 3 ≤ Try.f89.ntmps; decide) (by kernel_rfl) trivial (fun cx hcx => ?_)
              exact ret_of (T := T0) hT hm (f := 5000) (orc := [.d false, .d false, .d true, .d false, .call [] (.t [(.a [(iv u0.1.1), (iv u0.1.2)]), (iv u0.2)]) [], .d false, .d false, .call [] (.t [(.a [(iv u1.1.1), (iv u1.1.2)]), (iv u1.2)]) []]) [] [] [] hcx
                (obs := [.eq (decide ((a2 : Int) ≤ a0.1)) false, .eq (decide ((a1 : Int) > a0.2.1)) false, .eq (decide ((a1 : Int) > a0.1)) true, (oC89_0 a0 a1), .call 81 [(iv (if (a1 : Int) < a0.1 then a0.1 else a1)), (iv a0.2.2)] [] (.t [(.a [(iv u0.1.1), (iv u0.1.2)]), (iv u0.2)]) [], .eq ((u0.2 : Int) != 0) false, .eq (!(decide ((a2 : Int) ≤ a0.2.1))) false, .call 81 [(iv a2), (iv a0.2.2)] [] (.t [(.a [(iv u1.1.1), (iv u1.1.2)]), (iv u1.2)]) []]) (by kernel_rfl) (by subst hu1; subst hu0; exact ⟨h0, h1, h2, h3, (C81 (if (a1 : Int) < a0.1 then a0.1 else a1) a0.2.2), h4, h5, (C81 a2 a0.2.2), trivial⟩)
      | false =>
        cases h3 : (((if (a1 : Int) < a0.1 then a0.1 else a1) : Int) == 0) with
        | true =>
          have q0 := of_decide_eq_false h0
          have q1 := of_decide_eq_false h1
          have q2 := of_decide_eq_false h2
          have q3 := eq_of_beq h3
          have e : (F89 a0 a1 a2) = ((0, 0), 10) := by simp only [F89, h0, h1, h2, h3, cond_true, cond_false]
          rw [e]
          refine con_of (n := 9) Try.func89 rfl (ent Try.func89 (by kernel_rfl) rfl) (by show 3 ≤ Try.f89.ntmps; decide) (by kernel_rfl) trivial (fun cx hcx => ?_)
          exact ret_of (T := T0) hT hm (f := 5000) (orc := [.d false, .d false, .d false, .d true]) [] [] [] hcx
            (obs := [.eq (decide ((a2 : Int) ≤ a0.1)) false, .eq (decide ((a1 : Int) > a0.2.1)) false, .eq (decide ((a1 : Int) > a0.1)) false, .eq (((if (a1 : Int) < a0.1 then a0.1 else a1) : Int) == 0) true]) (by kernel_rfl) ⟨h0, h1, h2, h3, trivial⟩
        | false =>
          cases h4 : (((F81 (if (a1 : Int) < a0.1 then a0.1 else a1) a0.2.2).2 : Int) != 0) with
          | true =>
            have q0 := of_decide_eq_false h0
            have q1 := of_decide_eq_false h1
            have q2 := of_decide_eq_false h2
            have q3 := ne_of_beq_false h3
            have q4 := bne_iff_ne.1 h4
            obtain ⟨u0, hu0⟩ : ∃ u, u = (F81 (if (a1 : Int) < a0.1 then a0.1 else a1) a0.2.2) := ⟨_, rfl⟩
            have e : (F89 a0 a1 a2) = ((0, u0.1.2), u0.2) := by subst hu0; simp only [F89, h0, h1, h2, h3, h4, cond_true, cond_false]
            rw [e]
            refine con_of (n := 9) Try.func89 rfl (ent Try.func89 (by kernel_rfl) rfl) (by show 3 ≤ Try.f89.ntmps; decide) (by kernel_rfl) trivial (fun cx hcx => ?_)
            exact ret_of (T := T0) hT hm (f := 5000) (orc := [.d false, .d false, .d false, .d false, .call [] (.t [(.a [(iv u0.1.1), (iv u0.1.2)]), (iv u0.2)]) [], .d true]) [] [] [] hcx
              (obs := [.eq (decide ((a2 : Int) ≤ a0.1)) false, .eq (decide ((a1 : Int) > a0.2.1)) false, .eq (decide ((a1 : Int) > a0.1)) false, (oC89_0 a0 a1), .call 81 [(iv (if (a1 : Int) < a0.1 then a0.1 else a1)), (iv a0.2.2)] [] (.t [(.a [(iv u0.1.1), (iv u0.1.2)]), (iv u0.2)]) [], .eq ((u0.2 : Int) != 0) true]) (by kernel_rfl) (by subst hu0; exact ⟨h0, h1, h2, h3, (C81 (if (a1 : Int) < a0.1 then a0.1 else a1) a0.2.2), h4, trivial⟩)
          | false =>
            have q0 := of_decide_eq_false h0
            have q1 := of_decide_eq_false h1
            have q2 := of_decide_eq_false h2
            have q3 := ne_of_beq_false h3
            have q4 := bne_eq_false_iff_eq.1 h4
            obtain ⟨u0, hu0⟩ : ∃ u, u = (F81 (if (a1 : Int) < a0.1 then a0.1 else a1) a0.2.2) := ⟨_, rfl⟩
            have e : (F89 a0 a1 a2) = ((0, u0.1.2), u0.2) := by subst hu0; simp only [F89, h0, h1, h2, h3, h4, cond_true, cond_false]
            rw [e]
            refine con_of (n := 9) Try.func89 rfl (ent Try.func89 (by kernel_rfl) rfl) (by show 3 ≤ Try.f89.ntmps; decide) (by kernel_rfl) trivial (fun cx hcx => ?_)
            exact ret_of (T := T0) hT hm (f := 5000) (orc := [.d false, .d false, .d false, .d false, .call [] (.t [(.a [(iv u0.1.1), (iv u0.1.2)]), (iv u0.2)]) [], .d false]) [] [] [] hcx
              (obs := [.eq (decide ((a2 : Int) ≤ a0.1)) false, .eq (decide ((a1 : Int) > a0.2.1)) false, .eq (decide ((a1 : Int) > a0.1)) false, (oC89_0 a0 a1), .call 81 [(iv (if (a1 : Int) < a0.1 then a0.1 else a1)), (iv a0.2.2)] [] (.t [(.a [(iv u0.1.1), (iv u0.1.2)]), (iv u0.2)]) [], .eq ((u0.2 : Int) != 0) false]) (by kernel_rfl) (by subst hu0; exact ⟨h0, h1, h2, h3, (C81 (if (a1 : Int) < a0.1 then a0.1 else a1) a0.2.2), h4, trivial⟩)

/-- facet/facetref08.share -/
def F92 (a0 : (Int × Int × Int) × (Int × Int × Int) × Int × Int × Int) (a1 : Int × Int × Int) (a2 : Int) (a3 : Int) (a4 : Int) : (Int × Int) × Int :=
  (bif (decide (((F58 a0 a1) : Int) ≤ a2)) then
   ((0, 0), 0)
  else
   (bif (decide (((F56 a0 a1) : Int) > a3)) then
    ((0, 0), 0)
   else
    (bif (((if ((F56 a0 a1) : Int) < a2 then a2 else (F56 a0 a1)) : Int) == 0) then
     ((0, 0), 10)
    else
     (bif (((F119 (if ((F56 a0 a1) : Int) < a2 then a2 else (F56 a0 a1)) a4).2 : Int) != 0) then
      ((0, (F119 (if ((F56 a0 a1) : Int) < a2 then a2 else (F56 a0 a1)) a4).1.2), (F119 (if ((F56 a0 a1) : Int) < a2 then a2 else (F56 a0 a1)) a4).2)
     else
      (bif (decide (((F56 a0 a1) : Int) ≤ a2)) then
       ((0, (F119 (if ((F56 a0 a1) : Int) < a2 then a2 else (F56 a0 a1)) a4).1.2), (F119 (if ((F56 a0 a1) : Int) < a2 then a2 else (F56 a0 a1)) a4).2)
      else
       (bif (decide (((F58 a0 a1) : Int) > a3)) then
        ((0, (F119 (if ((F56 a0 a1) : Int) < a2 then a2 else (F56 a0 a1)) a4).1.2), (F119 (if ((F56 a0 a1) : Int) < a2 then a2 else (F56 a0 a1)) a4).2)
       else
        (((F119 (F58 a0 a1) a4).1.1, (F119 (if ((F56 a0 a1) : Int) < a2 then a2 else (F56 a0 a1)) a4).1.2), (F119 (F58 a0 a1) a4).2)))))))

theorem C92 (a0 : (Int × Int × Int) × (Int × Int × Int) × Int × Int × Int) (a1 : Int × Int × Int) (a2 : Int) (a3 : Int) (a4 : Int) : Con Try.prog 92 [(.a (k9 a0)), (.a (k3 a1)), (iv a2), (iv a3), (iv a4)] [] (.t [(.a (k2 (F92 a0 a1 a2 a3 a4).1)), (iv (F92 a0 a1 a2 a3 a4).2)]) [] := by
  cases h0 : (decide (((F58 a0 a1) : Int) ≤ a2)) with
  | true =>
    have q0 := of_decide_eq_true h0
    obtain ⟨u0, hu0⟩ : ∃ u, u = (F58 a0 a1) := ⟨_, rfl⟩
    obtain ⟨u1, hu1⟩ : ∃ u, u = (F56 a0 a1) := ⟨_, rfl⟩
    have e : (F92 a0 a1 a2 a3 a4) = ((0, 0), 0) := by subst hu1; subst hu0; simp only [F92, h0, cond_true, cond_false]
    rw [e]
    refine con_of (n := 9) Try.func92 rfl (ent Try.func92 (by kernel_rfl) rfl) (by show 5 ≤ Try.f92.ntmps; decide) (by kernel_rfl) trivial (fun cx hcx => ?_)
    exact ret_of (T := T0) hT hm (f := 5000) (orc := [.call [] (iv u0) [], .call [] (iv u1) [], .d true]) [] [] [] hcx
      (obs := [.call 58 [(.a (k9 a0)), (.a (k3 a1))] [] (iv u0) [], .call 56 [(.a (k9 a0)), (.a (k3 a1))] [] (iv u1) [], .eq (decide ((u0 : Int) ≤ a2)) true]) (by kernel_rfl) (by subst hu1; subst hu0; exact ⟨(C58 a0 a1), (C56 a0 a1), h0, trivial⟩)
  | false =>
    cases h1 : (decide (((F56 a0 a1) : Int) > a3)) with
    | true =>
      have q0 := of_decide_eq_false h0
      have q1 := of_decide_eq_true h1
      obtain ⟨u0, hu0⟩ : ∃ u, u = (F58 a0 a1) := ⟨_, rfl⟩
      obtain ⟨u1, hu1⟩ : ∃ u, u = (F56 a0 a1) := ⟨_, rfl⟩
      have e : (F92 a0 a1 a2 a3 a4) = ((0, 0), 0) := by subst hu1; subst hu0; simp only [F92, h0, h1, cond_true, cond_false]
      rw [e]
      refine con_of (n := 9) Try.func92 rfl (ent Try.func92 (by kernel_rfl) rfl) (by show 5 ≤ Try.f92.ntmps; decide) (by kernel_rfl) trivial (fun cx hcx => ?_)
      exact ret_of (T := T0) hT hm (f := 5000) (orc := [.call [] (iv u0) [], .call [] (iv u1) [], .d false, .d true]) [] [] [] hcx
        (obs := [.call 58 [(.a (k9 a0)), (.a (k3 a1))] [] (iv u0) [], .call 56 [(.a (k9 a0)), (.a (k3 a1))] [] (iv u1) [], .eq (decide ((u0 : Int) ≤ a2)) false, .eq (decide ((u1 : Int) > a3)) true]) (by kernel_rfl) (by subst hu1; subst hu0; exact ⟨(C58 a0 a1), (C56 a0 a1), h0, h1, trivial⟩)
    | false =>
      cases h2 : (((if ((F56 a0 a1) : Int) < a2 then a2 else (F56 a0 a1)) : Int) == 0) with
      | true =>
        have q0 := of_decide_eq_false h0
        have q1 := of_decide_eq_false h1
        have q2 := eq_of_beq h2
        obtain ⟨u0, hu0⟩ : ∃ u, u = (F58 a0 a1) := ⟨_, rfl⟩
        obtain ⟨u1, hu1⟩ : ∃ u, u = (F56 a0 a1) := ⟨_, rfl⟩
        have e : (F92 a0 a1 a2 a3 a4) = ((0, 0), 10) := by subst hu1; subst hu0; simp only [F92, h0, h1, h2, cond_true, cond_false]
        rw [e]
        refine con_of (n := 9) Try.func92 rfl (ent Try.func92 (by kernel_rfl) rfl) (by show 5 ≤ Try.f92.ntmps; decide) (by kernel_rfl) trivial (fun cx hcx => ?_)
        exact ret_of (T := T0) hT hm (f := 5000) (orc := [.call [] (iv u0) [], .call [] (iv u1) [], .d false, .d false, .d true]) [] [] [] hcx
          (obs := [.call 58 [(.a (k9 a0)), (.a (k3 a1))] [] (iv u0) [], .call 56 [(.a (k9 a0)), (.a (k3 a1))] [] (iv u1) [], .eq (decide ((u0 : Int) ≤ a2)) false, .eq (decide ((u1 : Int) > a3)) false, .eq (((if (u1 : Int) < a2 then a2 else u1) : Int) == 0) true]) (by kernel_rfl) (by subst hu1; subst hu0; exact ⟨(C58 a0 a1), (C56 a0 a1), h0, h1, h2, trivial⟩)
      | false =>
        cases h3 : (((F119 (if ((F56 a0 a1) : Int) < a2 then a2 else (F56 a0 a1)) a4).2 : Int) != 0) with
        | true =>
          have q0 := of_decide_eq_false h0
          have q1 := of_decide_eq_false h1
          have q2 := ne_of_beq_false h2
          have q3 := bne_iff_ne.1 h3
          obtain ⟨u0, hu0⟩ : ∃ u, u = (F58 a0 a1) := ⟨_, rfl⟩
          obtain ⟨u1, hu1⟩ : ∃ u, u = (F56 a0 a1) := ⟨_, rfl⟩
          obtain ⟨u2, hu2⟩ : ∃ u, u = (F119 (if (u1 : Int) < a2 then a2 else u1) a4) := ⟨_, rfl⟩
          have e : (F92 a0 a1 a2 a3 a4) = ((0, u2.1.2), u2.2) := by subst hu2; subst hu1; subst hu0; simp only [F92, h0, h1, h2, h3, cond_true, cond_false]
          rw [e]
          refine con_of (n := 9) Try.func92 rfl (ent Try.func92 (by kernel_rfl) rfl) (by show 5 ≤ Try.f92.ntmps; decide) (by kernel_rfl) trivial (fun cx hcx => ?_)
          exact ret_of (T := T0) hT hm (f := 5000) (orc := [.call [] (iv u0) [], .call [] (iv u1) [], .d false, .d false, .d false, .call [] (.t [(.a [(iv u2.1.1), (iv u2.1.2)]), (iv u2.2)]) [], .d true]) [] [] [] hcx
            (obs := [.call 58 [(.a (k9 a0)), (.a (k3 a1))] [] (iv u0) [], .call 56 [(.a (k9 a0)), (.a (k3 a1))] [] (iv u1) [], .eq (decide ((u0 : Int) ≤ a2)) false, .eq (decide ((u1 : Int) > a3)) false, .eq (((if (u1 : Int) < a2 then a2 else u1) : Int) == 0) false, .call 119 [(iv (if (u1 : Int) < a2 then a2 else u1)), (iv a4)] [] (.t [(.a [(iv u2.1.1), (iv u2.1.2)]), (iv u2.2)]) [], .eq ((u2.2 : Int) != 0) true]) (by kernel_rfl) (by subst hu2; subst hu1; subst hu0; exact ⟨(C58 a0 a1), (C56 a0 a1), h0, h1, h2, (C119 (if ((F56 a0 a1) : Int) < a2 then a2 else (F56 a0 a1)) a4), h3, trivial⟩)
        | false =>
          cases h4 : (decide (((F56 a0 a1) : Int) ≤ a2)) with
          | true =>
            have q0 := of_decide_eq_false h0
            have q1 := of_decide_eq_false h1
            have q2 := ne_of_beq_false h2
            have q3 := bne_eq_false_iff_eq.1 h3
            have q4 := of_decide_eq_true h4
            obtain ⟨u0, hu0⟩ : ∃ u, u = (F58 a0 a1) := ⟨_, rfl⟩
            obtain ⟨u1, hu1⟩ : ∃ u, u = (F56 a0 a1) := ⟨_, rfl⟩
            obtain ⟨u2, hu2⟩ : ∃ u, u = (F119 (if (u1 : Int) < a2 then a2 else u1) a4) := ⟨_, rfl⟩
            have e : (F92 a0 a1 a2 a3 a4) = ((0, u2.1.2), u2.2) := by subst hu2; subst hu1; subst hu0; simp only [F92, h0, h1, h2, h3, h4, cond_true, cond_false]
            rw [e]
            refine con_of (n := 9) Try.func92 rfl (ent Try.func92 (by kernel_rfl) rfl) (by show 5 ≤ Try.f92.ntmps; decide) (by kernel_rfl) trivial (fun cx hcx => ?_)
            exact ret_of (T := T0) hT hm (f := 5000) (orc := [.call [] (iv u0) [], .call [] (iv u1) [], .d false, .d false, .d false, .call [] (.t [(.a [(iv u2.1.1), (iv u2.1.2)]), (iv u2.2)]) [], .d false, .d true]) [] [] [] hcx
              (obs := [.call 58 [(.a (k9 a0)), (.a (k3 a1))] [] (iv u0) [], .call 56 [(.a (k9 a0)), (.a (k3 a1))] [] (iv u1) [], .eq (decide ((u0 : Int) ≤ a2)) false, .eq (decide ((u1 : Int) > a3)) false, .eq (((if (u1 : Int) < a2 then a2 else u1) : Int) == 0) false, .call 119 [(iv (if (u1 : Int) < a2 then a2 else u1)), (iv a4)] [] (.t [(.a [(iv u2.1.1), (iv u2.1.2)]), (iv u2.2)]) [], .eq ((u2.2 : Int) != 0) false, .eq (decide ((u1 : Int) ≤ a2)) true]) (by kernel_rfl) (by subst hu2; subst hu1; subst hu0; exact ⟨(C58 a0 a1), (C56 a0 a1), h0, h1, h2, (C119 (if ((F56 a0 a1) : Int) < a2 then a2 else (F56 a0 a1)) a4), h3, h4, trivial⟩)
          | false =>
            cases h5 : (decide (((F58 a0 a1) : Int) > a3)) with
            | true =>
              have q0 := of_decide_eq_false h0
              have q1 := of_decide_eq_false h1
              have q2 := ne_of_beq_false h2
              have q3 := bne_eq_false_iff_eq.1 h3
              have q4 := of_decide_eq_false h4
              have q5 := of_decide_eq_true h5
              obtain ⟨u0, hu0⟩ : ∃ u, u = (F58 a0 a1) := ⟨_, rfl⟩
              obtain ⟨u1, hu1⟩ : ∃ u, u = (F56 a0 a1) := ⟨_, rfl⟩
              obtain ⟨u2, hu2⟩ : ∃ u, u = (F119 (if (u1 : Int) < a2 then a2 else u1) a4) := ⟨_, rfl⟩
              have e : (F92 a0 a1 a2 a3 a4) = ((0, u2.1.2), u2.2) := by subst hu2; subst hu1; subst hu0; simp only [F92, h0, h1, h2, h3, h4, h5, cond_true, cond_false]
              rw [e]
              refine con_of (n := 9) Try.func92 rfl (ent Try.func92 (by kernel_rfl) rfl) (by show 5 ≤ Try.f92.ntmps; decide) (by kernel_rfl) trivial (fun cx hcx => ?_)
              exact ret_of (T := T0) hT hm (f := 5000) (orc := [.call [] (iv u0) [], .call [] (iv u1) [], .d false, .d false, .d false, .call [] (.t [(.a [(iv u2.1.1), (iv u2.1.2)]), (iv u2.2)]) [], .d false, .d false, .d true]) [] [] [] hcx
                (obs := [.call 58 [(.a (k9 a0)), (.a (k3 a1))] [] (iv u0) [], .call 56 [(.a (k9 a0)), (.a (k3 a1))] [] (iv u1) [], .eq (decide ((u0 : Int) ≤ a2)) false, .eq (decide ((u1 : Int) > a3)) false, .eq (((if (u1 : Int) < a2 then a2 else u1) : Int) == 0) false, .call 119 [(iv (if (u1 : Int) < a2 then a2 else u1)), (iv a4)] [] (.t [(.a [(iv u2.1.1), (iv u2.1.2)]), (iv u2.2)]) [], .eq ((u2.2 : Int) != 0) false, .eq (decide ((u1 : Int) ≤ a2)) false, .eq (decide ((u0 : Int) > a3)) true]) (by kernel_rfl) (by subst hu2; subst hu1; subst hu0; exact ⟨(C58 a0 a1), (C56 a0 a1), h0, h1, h2, (C119 (if ((F56 a0 a1) : Int) < a2 then a2 else (F56 a0 a1)) a4), h3, h4, h5, trivial⟩)
            | false =>
              have q0 := of_decide_eq_false h0
              have q1 := of_decide_eq_false h1
              have q2 := ne_of_beq_false h2
              have q3 := bne_eq_false_iff_eq.1 h3
              have q4 := of_decide_eq_false h4
              have q5 := of_decide_eq_false h5
              obtain ⟨u0, hu0⟩ : ∃ u, u = (F58 a0 a1) := ⟨_, rfl⟩
              obtain ⟨u1, hu1⟩ : ∃ u, u = (F56 a0 a1) := ⟨_, rfl⟩
              obtain ⟨u2, hu2⟩ : ∃ u, u = (F119 (if (u1 : Int) < a2 then a2 else u1) a4) := ⟨_, rfl⟩
              obtain ⟨u3, hu3⟩ : ∃ u, u = (F119 u0 a4) := ⟨_, rfl⟩
              have e : (F92 a0 a1 a2 a3 a4) = ((u3.1.1, u2.1.2), u3.2) := by subst hu3; subst hu2; subst hu1; subst hu0; simp only [F92, h0, h1, h2, h3, h4, h5, cond_true, cond_false]
              rw [e]
              refine con_of (n := 9) Try.func92 rfl (ent Try.func92 (by kernel_rfl) rfl) (by show 5 ≤ Try.f92.ntmps; decide) (by kernel_rfl) trivial (fun cx hcx => ?_)
              exact ret_of (T := T0) hT hm (f := 5000) (orc := [.call [] (iv u0) [], .call [] (iv u1) [], .d false, .d false, .d false, .call [] (.t [(.a [(iv u2.1.1), (iv u2.1.2)]), (iv u2.2)]) [], .d false, .d false, .d false, .call [] (.t [(.a [(iv u3.1.1), (iv u3.1.2)]), (iv u3.2)]) []]) [] [] [] hcx
                (obs := [.call 58 [(.a (k9 a0)), (.a (k3 a1))] [] (iv u0) [], .call 56 [(.a (k9 a0)), (.a (k3 a1))] [] (iv u1) [], .eq (decide ((u0 : Int) ≤ a2)) false, .eq (decide ((u1 : Int) > a3)) false, .eq (((if (u1 : Int) < a2 then a2 else u1) : Int) == 0) false, .call 119 [(iv (if (u1 : Int) < a2 then a2 else u1)), (iv a4)] [] (.t [(.a [(iv u2.1.1), (iv u2.1.2)]), (iv u2.2)]) [], .eq ((u2.2 : Int) != 0) false, .eq (decide ((u1 : Int) ≤ a2)) false, .eq (decide ((u0 : Int) > a3)) false, .call 119 [(iv u0), (iv a4)] [] (.t [(.a [(iv u3.1.1), (iv u3.1.2)]), (iv u3.2)]) []]) (by kernel_rfl) (by subst hu3; subst hu2; subst hu1; subst hu0; exact ⟨(C58 a0 a1), (C56 a0 a1), h0, h1, h2, (C119 (if ((F56 a0 a1) : Int) < a2 then a2 else (F56 a0 a1)) a4), h3, h4, h5, (C119 (F58 a0 a1) a4), trivial⟩)

end Go.Proofs.Ytopbnnmkdildgaa
