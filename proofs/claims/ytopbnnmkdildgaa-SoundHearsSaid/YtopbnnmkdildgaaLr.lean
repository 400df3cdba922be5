/-
  A part of the proofs of the Field laws: what functions of the program compute, and that it is what the statements ask. No premise.
-/
import Derived.Test.YtopbnnmkdildgaaMm
namespace Go.Proofs.Ytopbnnmkdildgaa
open Go.Proofs Go.Aw Go.RowKit
set_option maxRecDepth 100000
set_option linter.unusedVariables false
set_option linter.unusedSimpArgs false

/-- facet/sound.square -/
def F83 (a0 : Int) : Int :=
  (W (a0 * a0))

theorem C83 (a0 : Int) : Con Try.prog 83 [(iv a0)] [] (iv (F83 a0)) [] := by
  have e : (F83 a0) = (W (a0 * a0)) := by simp only [F83]
  rw [e]
  refine con_of (n := 9) Try.func83 rfl (ent Try.func83 (by kernel_rfl) rfl) (by show 1 ≤ Try.f83.ntmps; decide) (by kernel_rfl) trivial (fun cx hcx => ?_)
  exact ret_of (T := T0) hT hm (f := 5000) (orc := []) [] [] [] hcx
    (obs := []) (by kernel_rfl) trivial

/-- facet/sound.corners -/
def F113 (a0 : (Int × Int × Int) × (Int × Int × Int) × Int × Int × Int) : (Int × Int × Int) × (Int × Int × Int) × Int × Int × Int :=
  a0

theorem C113 (a0 : (Int × Int × Int) × (Int × Int × Int) × Int × Int × Int) : Con Try.prog 113 [(.a (k9 a0))] [] (.a (k9 (F113 a0))) [] := by
  have e : (F113 a0) = a0 := by simp only [F113]
  rw [e]
  refine con_of (n := 9) Try.func113 rfl (ent Try.func113 (by kernel_rfl) rfl) (by show 1 ≤ Try.f113.ntmps; decide) (by kernel_rfl) trivial (fun cx hcx => ?_)
  exact ret_of (T := T0) hT hm (f := 5000) (orc := []) [] [] [] hcx
    (obs := []) (by kernel_rfl) trivial

/-- facet/sound.distance -/
def F48 (a0 : Int × Int × Int) (a1 : Int × Int × Int) : Int :=
  (W ((W ((F83 (W (a0.1 - a1.1))) + (F83 (W (a0.2.1 - a1.2.1))))) + (F83 (W (a0.2.2 - a1.2.2)))))

theorem C48 (a0 : Int × Int × Int) (a1 : Int × Int × Int) : Con Try.prog 48 [(.a (k3 a0)), (.a (k3 a1))] [] (iv (F48 a0 a1)) [] := by
  have e : (F48 a0 a1) = (W ((W ((F83 (W (a0.1 - a1.1))) + (F83 (W (a0.2.1 - a1.2.1))))) + (F83 (W (a0.2.2 - a1.2.2))))) := by simp only [F48]
  rw [e]
  refine con_of (n := 9) Try.func48 rfl (ent Try.func48 (by kernel_rfl) rfl) (by show 2 ≤ Try.f48.ntmps; decide) (by kernel_rfl) trivial (fun cx hcx => ?_)
  exact ret_of (T := T0) hT hm (f := 5000) (orc := [.call [] (iv (F83 (W (a0.1 - a1.1)))) [], .call [] (iv (F83 (W (a0.2.1 - a1.2.1)))) [], .call [] (iv (F83 (W (a0.2.2 - a1.2.2)))) []]) [] [] [] hcx
    (obs := [.call 83 [(iv (W (a0.1 - a1.1)))] [] (iv (F83 (W (a0.1 - a1.1)))) [], .call 83 [(iv (W (a0.2.1 - a1.2.1)))] [] (iv (F83 (W (a0.2.1 - a1.2.1)))) [], .call 83 [(iv (W (a0.2.2 - a1.2.2)))] [] (iv (F83 (W (a0.2.2 - a1.2.2)))) []]) (by kernel_rfl) ⟨(C83 (W (a0.1 - a1.1))), (C83 (W (a0.2.1 - a1.2.1))), (C83 (W (a0.2.2 - a1.2.2))), trivial⟩

/-- facet/sound.far -/
def F87 (a0 : (Int × Int × Int) × (Int × Int × Int) × Int × Int × Int) (a1 : Int × Int × Int) : Int :=
  (if ((if ((if (0 : Int) < (F48 (F113 a0).1 a1) then (F48 (F113 a0).1 a1) else 0) : Int) < (F48 (F113 a0).2.1 a1) then (F48 (F113 a0).2.1 a1) else (if (0 : Int) < (F48 (F113 a0).1 a1) then (F48 (F113 a0).1 a1) else 0)) : Int) < (F48 (F113 a0).2.2 a1) then (F48 (F113 a0).2.2 a1) else (if ((if (0 : Int) < (F48 (F113 a0).1 a1) then (F48 (F113 a0).1 a1) else 0) : Int) < (F48 (F113 a0).2.1 a1) then (F48 (F113 a0).2.1 a1) else (if (0 : Int) < (F48 (F113 a0).1 a1) then (F48 (F113 a0).1 a1) else 0)))

theorem C87 (a0 : (Int × Int × Int) × (Int × Int × Int) × Int × Int × Int) (a1 : Int × Int × Int) : Con Try.prog 87 [(.a (k9 a0)), (.a (k3 a1))] [] (iv (F87 a0 a1)) [] := by
  have e : (F87 a0 a1) = (if ((if ((if (0 : Int) < (F48 (F113 a0).1 a1) then (F48 (F113 a0).1 a1) else 0) : Int) < (F48 (F113 a0).2.1 a1) then (F48 (F113 a0).2.1 a1) else (if (0 : Int) < (F48 (F113 a0).1 a1) then (F48 (F113 a0).1 a1) else 0)) : Int) < (F48 (F113 a0).2.2 a1) then (F48 (F113 a0).2.2 a1) else (if ((if (0 : Int) < (F48 (F113 a0).1 a1) then (F48 (F113 a0).1 a1) else 0) : Int) < (F48 (F113 a0).2.1 a1) then (F48 (F113 a0).2.1 a1) else (if (0 : Int) < (F48 (F113 a0).1 a1) then (F48 (F113 a0).1 a1) else 0))) := by simp only [F87]
  rw [e]
  refine con_of (n := 9) Try.func87 rfl (ent Try.func87 (by kernel_rfl) rfl) (by show 2 ≤ Try.f87.ntmps; decide) (by kernel_rfl) trivial (fun cx hcx => ?_)
  exact ret_of (T := T0) hT hm (f := 5000) (orc := [.call [] (.a (k9 (F113 a0))) [], .un 200, .d true, .call [] (iv (F48 (F113 a0).1 a1)) [], .un 0, .d true, .call [] (iv (F48 (F113 a0).2.1 a1)) [], .un 0, .d true, .call [] (iv (F48 (F113 a0).2.2 a1)) [], .un 0, .d false]) [] [] [] hcx
    (obs := [.call 113 [(.a (k9 a0))] [] (.a (k9 (F113 a0))) [], .eq true true, .pr (0 ≤ (0 : Int) ∧ (0 : Int) < ((3 : Nat) : Int)), .call 48 [(.a (k3 (F113 a0).1)), (.a (k3 a1))] [] (iv (F48 (F113 a0).1 a1)) [], .eq true true, .pr (0 ≤ (1 : Int) ∧ (1 : Int) < ((3 : Nat) : Int)), .call 48 [(.a (k3 (F113 a0).2.1)), (.a (k3 a1))] [] (iv (F48 (F113 a0).2.1 a1)) [], .eq true true, .pr (0 ≤ (2 : Int) ∧ (2 : Int) < ((3 : Nat) : Int)), .call 48 [(.a (k3 (F113 a0).2.2)), (.a (k3 a1))] [] (iv (F48 (F113 a0).2.2 a1)) [], .eq false false]) (by kernel_rfl) ⟨(C113 a0), rfl, (show 0 ≤ (0 : Int) ∧ (0 : Int) < ((3 : Nat) : Int) from by decide), (C48 (F113 a0).1 a1), rfl, (show 0 ≤ (1 : Int) ∧ (1 : Int) < ((3 : Nat) : Int) from by decide), (C48 (F113 a0).2.1 a1), rfl, (show 0 ≤ (2 : Int) ∧ (2 : Int) < ((3 : Nat) : Int) from by decide), (C48 (F113 a0).2.2 a1), rfl, trivial⟩

/-- facet/sound.gap at (3,) -/
def F110_3 (a0 : Int) (a1 : (Int) × (Int) × (Int)) : Int :=
  (if ((if (0 : Int) < (W ((if (a1.2.2 : Int) < (if (a1.2.1 : Int) < (if (a1.1 : Int) < a1.1 then a1.1 else a1.1) then a1.2.1 else (if (a1.1 : Int) < a1.1 then a1.1 else a1.1)) then a1.2.2 else (if (a1.2.1 : Int) < (if (a1.1 : Int) < a1.1 then a1.1 else a1.1) then a1.2.1 else (if (a1.1 : Int) < a1.1 then a1.1 else a1.1))) - a0)) then (W ((if (a1.2.2 : Int) < (if (a1.2.1 : Int) < (if (a1.1 : Int) < a1.1 then a1.1 else a1.1) then a1.2.1 else (if (a1.1 : Int) < a1.1 then a1.1 else a1.1)) then a1.2.2 else (if (a1.2.1 : Int) < (if (a1.1 : Int) < a1.1 then a1.1 else a1.1) then a1.2.1 else (if (a1.1 : Int) < a1.1 then a1.1 else a1.1))) - a0)) else 0) : Int) < (W (a0 - (if ((if ((if (a1.1 : Int) < a1.1 then a1.1 else a1.1) : Int) < a1.2.1 then a1.2.1 else (if (a1.1 : Int) < a1.1 then a1.1 else a1.1)) : Int) < a1.2.2 then a1.2.2 else (if ((if (a1.1 : Int) < a1.1 then a1.1 else a1.1) : Int) < a1.2.1 then a1.2.1 else (if (a1.1 : Int) < a1.1 then a1.1 else a1.1))))) then (W (a0 - (if ((if ((if (a1.1 : Int) < a1.1 then a1.1 else a1.1) : Int) < a1.2.1 then a1.2.1 else (if (a1.1 : Int) < a1.1 then a1.1 else a1.1)) : Int) < a1.2.2 then a1.2.2 else (if ((if (a1.1 : Int) < a1.1 then a1.1 else a1.1) : Int) < a1.2.1 then a1.2.1 else (if (a1.1 : Int) < a1.1 then a1.1 else a1.1))))) else (if (0 : Int) < (W ((if (a1.2.2 : Int) < (if (a1.2.1 : Int) < (if (a1.1 : Int) < a1.1 then a1.1 else a1.1) then a1.2.1 else (if (a1.1 : Int) < a1.1 then a1.1 else a1.1)) then a1.2.2 else (if (a1.2.1 : Int) < (if (a1.1 : Int) < a1.1 then a1.1 else a1.1) then a1.2.1 else (if (a1.1 : Int) < a1.1 then a1.1 else a1.1))) - a0)) then (W ((if (a1.2.2 : Int) < (if (a1.2.1 : Int) < (if (a1.1 : Int) < a1.1 then a1.1 else a1.1) then a1.2.1 else (if (a1.1 : Int) < a1.1 then a1.1 else a1.1)) then a1.2.2 else (if (a1.2.1 : Int) < (if (a1.1 : Int) < a1.1 then a1.1 else a1.1) then a1.2.1 else (if (a1.1 : Int) < a1.1 then a1.1 else a1.1))) - a0)) else 0))

theorem C110_3 (a0 : Int) (a1 : (Int) × (Int) × (Int)) : Con Try.prog 110 [(iv a0), (.s 0 0 3 1)] [(.live false false (k3 a1))] (iv (F110_3 a0 a1)) [] := by
  have e : (F110_3 a0 a1) = (if ((if (0 : Int) < (W ((if (a1.2.2 : Int) < (if (a1.2.1 : Int) < (if (a1.1 : Int) < a1.1 then a1.1 else a1.1) then a1.2.1 else (if (a1.1 : Int) < a1.1 then a1.1 else a1.1)) then a1.2.2 else (if (a1.2.1 : Int) < (if (a1.1 : Int) < a1.1 then a1.1 else a1.1) then a1.2.1 else (if (a1.1 : Int) < a1.1 then a1.1 else a1.1))) - a0)) then (W ((if (a1.2.2 : Int) < (if (a1.2.1 : Int) < (if (a1.1 : Int) < a1.1 then a1.1 else a1.1) then a1.2.1 else (if (a1.1 : Int) < a1.1 then a1.1 else a1.1)) then a1.2.2 else (if (a1.2.1 : Int) < (if (a1.1 : Int) < a1.1 then a1.1 else a1.1) then a1.2.1 else (if (a1.1 : Int) < a1.1 then a1.1 else a1.1))) - a0)) else 0) : Int) < (W (a0 - (if ((if ((if (a1.1 : Int) < a1.1 then a1.1 else a1.1) : Int) < a1.2.1 then a1.2.1 else (if (a1.1 : Int) < a1.1 then a1.1 else a1.1)) : Int) < a1.2.2 then a1.2.2 else (if ((if (a1.1 : Int) < a1.1 then a1.1 else a1.1) : Int) < a1.2.1 then a1.2.1 else (if (a1.1 : Int) < a1.1 then a1.1 else a1.1))))) then (W (a0 - (if ((if ((if (a1.1 : Int) < a1.1 then a1.1 else a1.1) : Int) < a1.2.1 then a1.2.1 else (if (a1.1 : Int) < a1.1 then a1.1 else a1.1)) : Int) < a1.2.2 then a1.2.2 else (if ((if (a1.1 : Int) < a1.1 then a1.1 else a1.1) : Int) < a1.2.1 then a1.2.1 else (if (a1.1 : Int) < a1.1 then a1.1 else a1.1))))) else (if (0 : Int) < (W ((if (a1.2.2 : Int) < (if (a1.2.1 : Int) < (if (a1.1 : Int) < a1.1 then a1.1 else a1.1) then a1.2.1 else (if (a1.1 : Int) < a1.1 then a1.1 else a1.1)) then a1.2.2 else (if (a1.2.1 : Int) < (if (a1.1 : Int) < a1.1 then a1.1 else a1.1) then a1.2.1 else (if (a1.1 : Int) < a1.1 then a1.1 else a1.1))) - a0)) then (W ((if (a1.2.2 : Int) < (if (a1.2.1 : Int) < (if (a1.1 : Int) < a1.1 then a1.1 else a1.1) then a1.2.1 else (if (a1.1 : Int) < a1.1 then a1.1 else a1.1)) then a1.2.2 else (if (a1.2.1 : Int) < (if (a1.1 : Int) < a1.1 then a1.1 else a1.1) then a1.2.1 else (if (a1.1 : Int) < a1.1 then a1.1 else a1.1))) - a0)) else 0)) := by simp only [F110_3]
  rw [e]
  refine con_of (n := 9) Try.func110 rfl (ent Try.func110 (by kernel_rfl) rfl) (by show 2 ≤ Try.f110.ntmps; decide) (by kernel_rfl) ⟨rfl, trivial⟩ (fun cx hcx => ?_)
  exact ret_of (T := T0) hT hm (f := 5000) (orc := [.un 200, .d true, .un 0, .d true, .un 0, .d true, .un 0, .d false]) [] [] [] hcx
    (obs := [.pr (0 ≤ (0 : Int) ∧ (0 : Int) < ((3 : Nat) : Int)), .pr (0 ≤ (0 : Int) ∧ (0 : Int) < ((3 : Nat) : Int)), .eq true true, .pr (0 ≤ (0 : Int) ∧ (0 : Int) < ((3 : Nat) : Int)), .eq true true, .pr (0 ≤ (1 : Int) ∧ (1 : Int) < ((3 : Nat) : Int)), .eq true true, .pr (0 ≤ (2 : Int) ∧ (2 : Int) < ((3 : Nat) : Int)), .eq false false]) (by kernel_rfl) ⟨(show 0 ≤ (0 : Int) ∧ (0 : Int) < ((3 : Nat) : Int) from by decide), (show 0 ≤ (0 : Int) ∧ (0 : Int) < ((3 : Nat) : Int) from by decide), rfl, (show 0 ≤ (0 : Int) ∧ (0 : Int) < ((3 : Nat) : Int) from by decide), rfl, (show 0 ≤ (1 : Int) ∧ (1 : Int) < ((3 : Nat) : Int) from by decide), rfl, (show 0 ≤ (2 : Int) ∧ (2 : Int) < ((3 : Nat) : Int) from by decide), rfl, trivial⟩

/-- facet/sound.near -/
def F84 (a0 : (Int × Int × Int) × (Int × Int × Int) × Int × Int × Int) (a1 : Int × Int × Int) : Int :=
  (W ((W ((F83 (F110_3 a1.1 (a0.1.1, a0.2.1.1, a0.2.2.1))) + (F83 (F110_3 a1.2.1 (a0.1.2.1, a0.2.1.2.1, a0.2.2.2.1))))) + (F83 (F110_3 a1.2.2 (a0.1.2.2, a0.2.1.2.2, a0.2.2.2.2)))))

theorem C84 (a0 : (Int × Int × Int) × (Int × Int × Int) × Int × Int × Int) (a1 : Int × Int × Int) : Con Try.prog 84 [(.a (k9 a0)), (.a (k3 a1))] [] (iv (F84 a0 a1)) [] := by
  have e : (F84 a0 a1) = (W ((W ((F83 (F110_3 a1.1 (a0.1.1, a0.2.1.1, a0.2.2.1))) + (F83 (F110_3 a1.2.1 (a0.1.2.1, a0.2.1.2.1, a0.2.2.2.1))))) + (F83 (F110_3 a1.2.2 (a0.1.2.2, a0.2.1.2.2, a0.2.2.2.2))))) := by simp only [F84]
  rw [e]
  refine con_of (n := 9) Try.func84 rfl (ent Try.func84 (by kernel_rfl) rfl) (by show 2 ≤ Try.f84.ntmps; decide) (by kernel_rfl) trivial (fun cx hcx => ?_)
  exact ret_of (T := T0) hT hm (f := 5000) (orc := [.call [2] (iv (F110_3 a1.1 (a0.1.1, a0.2.1.1, a0.2.2.1))) [], .call [] (iv (F83 (F110_3 a1.1 (a0.1.1, a0.2.1.1, a0.2.2.1)))) [], .call [3] (iv (F110_3 a1.2.1 (a0.1.2.1, a0.2.1.2.1, a0.2.2.2.1))) [], .call [] (iv (F83 (F110_3 a1.2.1 (a0.1.2.1, a0.2.1.2.1, a0.2.2.2.1)))) [], .call [4] (iv (F110_3 a1.2.2 (a0.1.2.2, a0.2.1.2.2, a0.2.2.2.2))) [], .call [] (iv (F83 (F110_3 a1.2.2 (a0.1.2.2, a0.2.1.2.2, a0.2.2.2.2)))) []]) [] [] [] hcx
    (obs := [.call 110 [(iv a1.1), (.s 0 0 3 1)] [(.live false false [(iv a0.1.1), (iv a0.2.1.1), (iv a0.2.2.1)])] (iv (F110_3 a1.1 (a0.1.1, a0.2.1.1, a0.2.2.1))) [], .call 83 [(iv (F110_3 a1.1 (a0.1.1, a0.2.1.1, a0.2.2.1)))] [] (iv (F83 (F110_3 a1.1 (a0.1.1, a0.2.1.1, a0.2.2.1)))) [], .call 110 [(iv a1.2.1), (.s 0 0 3 1)] [(.live false false [(iv a0.1.2.1), (iv a0.2.1.2.1), (iv a0.2.2.2.1)])] (iv (F110_3 a1.2.1 (a0.1.2.1, a0.2.1.2.1, a0.2.2.2.1))) [], .call 83 [(iv (F110_3 a1.2.1 (a0.1.2.1, a0.2.1.2.1, a0.2.2.2.1)))] [] (iv (F83 (F110_3 a1.2.1 (a0.1.2.1, a0.2.1.2.1, a0.2.2.2.1)))) [], .call 110 [(iv a1.2.2), (.s 0 0 3 1)] [(.live false false [(iv a0.1.2.2), (iv a0.2.1.2.2), (iv a0.2.2.2.2)])] (iv (F110_3 a1.2.2 (a0.1.2.2, a0.2.1.2.2, a0.2.2.2.2))) [], .call 83 [(iv (F110_3 a1.2.2 (a0.1.2.2, a0.2.1.2.2, a0.2.2.2.2)))] [] (iv (F83 (F110_3 a1.2.2 (a0.1.2.2, a0.2.1.2.2, a0.2.2.2.2)))) []]) (by kernel_rfl) ⟨(C110_3 a1.1 (a0.1.1, a0.2.1.1, a0.2.2.1)), (C83 (F110_3 a1.1 (a0.1.1, a0.2.1.1, a0.2.2.1))), (C110_3 a1.2.1 (a0.1.2.1, a0.2.1.2.1, a0.2.2.2.1)), (C83 (F110_3 a1.2.1 (a0.1.2.1, a0.2.1.2.1, a0.2.2.2.1))), (C110_3 a1.2.2 (a0.1.2.2, a0.2.1.2.2, a0.2.2.2.2)), (C83 (F110_3 a1.2.2 (a0.1.2.2, a0.2.1.2.2, a0.2.2.2.2))), trivial⟩

/-- facet/sound.from -/
def F63 (a0 : Int) (a1 : Int) (a2 : Int) : Bool :=
  (bif (decide ((a1 : Int) ≤ a0)) then
   (decide ((a0 : Int) ≤ a2))
  else
   false)

theorem C63 (a0 : Int) (a1 : Int) (a2 : Int) : Con Try.prog 63 [(iv a0), (iv a1), (iv a2)] [] (.v (.bool (F63 a0 a1 a2))) [] := by
  cases h0 : (decide ((a1 : Int) ≤ a0)) with
  | true =>
    have q0 := of_decide_eq_true h0
    have e : (F63 a0 a1 a2) = (decide ((a0 : Int) ≤ a2)) := by simp only [F63, h0, cond_true, cond_false]
    rw [e]
    refine con_of (n := 9) Try.func63 rfl (ent Try.func63 (by kernel_rfl) rfl) (by show 3 ≤ Try.f63.ntmps; decide) (by kernel_rfl) trivial (fun cx hcx => ?_)
    exact ret_of (T := T0) hT hm (f := 5000) (orc := [.d true]) [] [] [] hcx
      (obs := [.eq (decide ((a1 : Int) ≤ a0)) true]) (by kernel_rfl) ⟨h0, trivial⟩
  | false =>
    have q0 := of_decide_eq_false h0
    have e : (F63 a0 a1 a2) = false := by simp only [F63, h0, cond_true, cond_false]
    rw [e]
    refine con_of (n := 9) Try.func63 rfl (ent Try.func63 (by kernel_rfl) rfl) (by show 3 ≤ Try.f63.ntmps; decide) (by kernel_rfl) trivial (fun cx hcx => ?_)
    exact ret_of (T := T0) hT hm (f := 5000) (orc := [.d false]) [] [] [] hcx
      (obs := [.eq (decide ((a1 : Int) ≤ a0)) false]) (by kernel_rfl) ⟨h0, trivial⟩

/-- facet/sound.isPoint -/
def F45 (a0 : Int × Int × Int) : Bool :=
  (bif (F63 a0.1 (-256) 256) then
   (bif (F63 a0.2.1 (-256) 256) then
    (F63 a0.2.2 (-256) 256)
   else
    false)
  else
   false)

noncomputable def oC45_0 (a0 : Int × Int × Int) : Ob := .call 63 [(iv a0.1), (iv (-256)), (iv 256)] [] (.v (.bool (F63 a0.1 (-256) 256))) []
theorem C45 (a0 : Int × Int × Int) : Con Try.prog 45 [(.a (k3 a0))] [] (.v (.bool (F45 a0))) [] := by
  cases h0 : (F63 a0.1 (-256) 256) with
  | true =>
    cases h1 : (F63 a0.2.1 (-256) 256) with
    | true =>
      have e : (F45 a0) = (F63 a0.2.2 (-256) 256) := by simp only [F45, h0, h1, cond_true, cond_false]
      rw [e]
      refine con_of (n := 9) Try.func45 rfl (ent Try.func45 (by kernel_rfl) rfl) (by show 1 ≤ Try.f45.ntmps; decide) (by kernel_rfl) trivial (fun cx hcx => ?_)
      exact ret_of (T := T0) hT hm (f := 5000) (orc := [.call [] (.v (.bool (F63 a0.1 (-256) 256))) [], .d true, .call [] (.v (.bool (F63 a0.2.1 (-256) 256))) [], .d true, .call [] (.v (.bool (F63 a0.2.2 (-256) 256))) []]) [] [] [] hcx
        (obs := [(oC45_0 a0), .eq (F63 a0.1 (-256) 256) true, .call 63 [(iv a0.2.1), (iv (-256)), (iv 256)] [] (.v (.bool (F63 a0.2.1 (-256) 256))) [], .eq (F63 a0.2.1 (-256) 256) true, .call 63 [(iv a0.2.2), (iv (-256)), (iv 256)] [] (.v (.bool (F63 a0.2.2 (-256) 256))) []]) (by kernel_rfl) ⟨(C63 a0.1 (-256) 256), h0, (C63 a0.2.1 (-256) 256), h1, (C63 a0.2.2 (-256) 256), trivial⟩
    | false =>
      have e : (F45 a0) = false := by simp only [F45, h0, h1, cond_true, cond_false]
      rw [e]
      refine con_of (n := 9) Try.func45 rfl (ent Try.func45 (by kernel_rfl) rfl) (by show 1 ≤ Try.f45.ntmps; decide) (by kernel_rfl) trivial (fun cx hcx => ?_)
      exact ret_of (T := T0) hT hm (f := 5000) (orc := [.call [] (.v (.bool (F63 a0.1 (-256) 256))) [], .d true, .call [] (.v (.bool (F63 a0.2.1 (-256) 256))) [], .d false]) [] [] [] hcx
        (obs := [(oC45_0 a0), .eq (F63 a0.1 (-256) 256) true, .call 63 [(iv a0.2.1), (iv (-256)), (iv 256)] [] (.v (.bool (F63 a0.2.1 (-256) 256))) [], .eq (F63 a0.2.1 (-256) 256) false]) (by kernel_rfl) ⟨(C63 a0.1 (-256) 256), h0, (C63 a0.2.1 (-256) 256), h1, trivial⟩
  | false =>
    have e : (F45 a0) = false := by simp only [F45, h0, cond_true, cond_false]
    rw [e]
    refine con_of (n := 9) Try.func45 rfl (ent Try.func45 (by kernel_rfl) rfl) (by show 1 ≤ Try.f45.ntmps; decide) (by kernel_rfl) trivial (fun cx hcx => ?_)
    exact ret_of (T := T0) hT hm (f := 5000) (orc := [.call [] (.v (.bool (F63 a0.1 (-256) 256))) [], .d false]) [] [] [] hcx
      (obs := [(oC45_0 a0), .eq (F63 a0.1 (-256) 256) false]) (by kernel_rfl) ⟨(C63 a0.1 (-256) 256), h0, trivial⟩

/-- facet/sound.isSpeed -/
def F46 (a0 : Int) : Bool :=
  (F63 a0 1 16)

theorem C46 (a0 : Int) : Con Try.prog 46 [(iv a0)] [] (.v (.bool (F46 a0))) [] := by
  have e : (F46 a0) = (F63 a0 1 16) := by simp only [F46]
  rw [e]
  refine con_of (n := 9) Try.func46 rfl (ent Try.func46 (by kernel_rfl) rfl) (by show 1 ≤ Try.f46.ntmps; decide) (by kernel_rfl) trivial (fun cx hcx => ?_)
  exact ret_of (T := T0) hT hm (f := 5000) (orc := [.call [] (.v (.bool (F63 a0 1 16))) []]) [] [] [] hcx
    (obs := [.call 63 [(iv a0), (iv 1), (iv 16)] [] (.v (.bool (F63 a0 1 16))) []]) (by kernel_rfl) ⟨(C63 a0 1 16), trivial⟩

/-- facet/sound.isTick -/
def F59 (a0 : Int) : Bool :=
  (F63 a0 0 2000)

theorem C59 (a0 : Int) : Con Try.prog 59 [(iv a0)] [] (.v (.bool (F59 a0))) [] := by
  have e : (F59 a0) = (F63 a0 0 2000) := by simp only [F59]
  rw [e]
  refine con_of (n := 9) Try.func59 rfl (ent Try.func59 (by kernel_rfl) rfl) (by show 1 ≤ Try.f59.ntmps; decide) (by kernel_rfl) trivial (fun cx hcx => ?_)
  exact ret_of (T := T0) hT hm (f := 5000) (orc := [.call [] (.v (.bool (F63 a0 0 2000))) []]) [] [] [] hcx
    (obs := [.call 63 [(iv a0), (iv 0), (iv 2000)] [] (.v (.bool (F63 a0 0 2000))) []]) (by kernel_rfl) ⟨(C63 a0 0 2000), trivial⟩

/-- facet/sound.isDepth -/
def F60 (a0 : Int) : Bool :=
  (F63 a0 0 3)

theorem C60 (a0 : Int) : Con Try.prog 60 [(iv a0)] [] (.v (.bool (F60 a0))) [] := by
  have e : (F60 a0) = (F63 a0 0 3) := by simp only [F60]
  rw [e]
  refine con_of (n := 9) Try.func60 rfl (ent Try.func60 (by kernel_rfl) rfl) (by show 1 ≤ Try.f60.ntmps; decide) (by kernel_rfl) trivial (fun cx hcx => ?_)
  exact ret_of (T := T0) hT hm (f := 5000) (orc := [.call [] (.v (.bool (F63 a0 0 3))) []]) [] [] [] hcx
    (obs := [.call 63 [(iv a0), (iv 0), (iv 3)] [] (.v (.bool (F63 a0 0 3))) []]) (by kernel_rfl) ⟨(C63 a0 0 3), trivial⟩

/-- facet/sound.ValidatePulses at (1,) -/
def F27_1 (a0 : ((Int × Int × Int) × (Int × Int × Int) × Int × Int × Int) × Int × Int) : Int :=
  (bif (((F66 a0.1) : Int) != 0) then
   (F66 a0.1)
  else
   (bif (!(F63 a0.2.1 0 1000)) then
    1
   else
    (bif (!(F63 a0.2.2 (-100) 100)) then
     1
    else
     0)))

theorem C27_1 (a0 : ((Int × Int × Int) × (Int × Int × Int) × Int × Int × Int) × Int × Int) : Con Try.prog 27 [(.s 0 0 1 11)] [(.live false false [(iv a0.1.1.1), (iv a0.1.1.2.1), (iv a0.1.1.2.2), (iv a0.1.2.1.1), (iv a0.1.2.1.2.1), (iv a0.1.2.1.2.2), (iv a0.1.2.2.1), (iv a0.1.2.2.2.1), (iv a0.1.2.2.2.2), (iv a0.2.1), (iv a0.2.2)])] (iv (F27_1 a0)) [] := by
  cases h0 : (((F66 a0.1) : Int) != 0) with
  | true =>
    have q0 := bne_iff_ne.1 h0
    have e : (F27_1 a0) = (F66 a0.1) := by simp only [F27_1, h0, cond_true, cond_false]
    rw [e]
    refine con_of (n := 9) Try.func27 rfl (ent Try.func27 (by kernel_rfl) rfl) (by show 1 ≤ Try.f27.ntmps; decide) (by kernel_rfl) ⟨rfl, trivial⟩ (fun cx hcx => ?_)
    exact ret_of (T := T0) hT hm (f := 5000) (orc := [.d false, .un 200, .d true, .call [] (iv (F66 a0.1)) [], .d true]) [] [] [] hcx
      (obs := [.eq false false, .eq true true, .pr (0 ≤ (0 : Int) ∧ (0 : Int) < ((1 : Nat) : Int)), .call 66 [(.a (k9 a0.1))] [] (iv (F66 a0.1)) [], .eq (((F66 a0.1) : Int) != 0) true]) (by kernel_rfl) ⟨rfl, rfl, (show 0 ≤ (0 : Int) ∧ (0 : Int) < ((1 : Nat) : Int) from by decide), (C66 a0.1), h0, trivial⟩
  | false =>
    cases h1 : (!(F63 a0.2.1 0 1000)) with
    | true =>
      have q0 := bne_eq_false_iff_eq.1 h0
      have e : (F27_1 a0) = 1 := by simp only [F27_1, h0, h1, cond_true, cond_false]
      rw [e]
      refine con_of (n := 9) Try.func27 rfl (ent Try.func27 (by kernel_rfl) rfl) (by show 1 ≤ Try.f27.ntmps; decide) (by kernel_rfl) ⟨rfl, trivial⟩ (fun cx hcx => ?_)
      exact ret_of (T := T0) hT hm (f := 5000) (orc := [.d false, .un 200, .d true, .call [] (iv (F66 a0.1)) [], .d false, .call [] (.v (.bool (F63 a0.2.1 0 1000))) [], .d true]) [] [] [] hcx
        (obs := [.eq false false, .eq true true, .pr (0 ≤ (0 : Int) ∧ (0 : Int) < ((1 : Nat) : Int)), .call 66 [(.a (k9 a0.1))] [] (iv (F66 a0.1)) [], .eq (((F66 a0.1) : Int) != 0) false, .call 63 [(iv a0.2.1), (iv 0), (iv 1000)] [] (.v (.bool (F63 a0.2.1 0 1000))) [], .eq (!(F63 a0.2.1 0 1000)) true]) (by kernel_rfl) ⟨rfl, rfl, (show 0 ≤ (0 : Int) ∧ (0 : Int) < ((1 : Nat) : Int) from by decide), (C66 a0.1), h0, (C63 a0.2.1 0 1000), h1, trivial⟩
    | false =>
      cases h2 : (!(F63 a0.2.2 (-100) 100)) with
      | true =>
        have q0 := bne_eq_false_iff_eq.1 h0
        have e : (F27_1 a0) = 1 := by simp only [F27_1, h0, h1, h2, cond_true, cond_false]
        rw [e]
        refine con_of (n := 9) Try.func27 rfl (ent Try.func27 (by kernel_rfl) rfl) (by show 1 ≤ Try.f27.ntmps; decide) (by kernel_rfl) ⟨rfl, trivial⟩ (fun cx hcx => ?_)
        exact ret_of (T := T0) hT hm (f := 5000) (orc := [.d false, .un 200, .d true, .call [] (iv (F66 a0.1)) [], .d false, .call [] (.v (.bool (F63 a0.2.1 0 1000))) [], .d false, .call [] (.v (.bool (F63 a0.2.2 (-100) 100))) [], .d true]) [] [] [] hcx
          (obs := [.eq false false, .eq true true, .pr (0 ≤ (0 : Int) ∧ (0 : Int) < ((1 : Nat) : Int)), .call 66 [(.a (k9 a0.1))] [] (iv (F66 a0.1)) [], .eq (((F66 a0.1) : Int) != 0) false, .call 63 [(iv a0.2.1), (iv 0), (iv 1000)] [] (.v (.bool (F63 a0.2.1 0 1000))) [], .eq (!(F63 a0.2.1 0 1000)) false, .call 63 [(iv a0.2.2), (iv (-100)), (iv 100)] [] (.v (.bool (F63 a0.2.2 (-100) 100))) [], .eq (!(F63 a0.2.2 (-100) 100)) true]) (by kernel_rfl) ⟨rfl, rfl, (show 0 ≤ (0 : Int) ∧ (0 : Int) < ((1 : Nat) : Int) from by decide), (C66 a0.1), h0, (C63 a0.2.1 0 1000), h1, (C63 a0.2.2 (-100) 100), h2, trivial⟩
      | false =>
        have q0 := bne_eq_false_iff_eq.1 h0
        have e : (F27_1 a0) = 0 := by simp only [F27_1, h0, h1, h2, cond_true, cond_false]
        rw [e]
        refine con_of (n := 9) Try.func27 rfl (ent Try.func27 (by kernel_rfl) rfl) (by show 1 ≤ Try.f27.ntmps; decide) (by kernel_rfl) ⟨rfl, trivial⟩ (fun cx hcx => ?_)
        exact ret_of (T := T0) hT hm (f := 5000) (orc := [.d false, .un 200, .d true, .call [] (iv (F66 a0.1)) [], .d false, .call [] (.v (.bool (F63 a0.2.1 0 1000))) [], .d false, .call [] (.v (.bool (F63 a0.2.2 (-100) 100))) [], .d false, .un 0, .d false]) [] [] [] hcx
          (obs := [.eq false false, .eq true true, .pr (0 ≤ (0 : Int) ∧ (0 : Int) < ((1 : Nat) : Int)), .call 66 [(.a (k9 a0.1))] [] (iv (F66 a0.1)) [], .eq (((F66 a0.1) : Int) != 0) false, .call 63 [(iv a0.2.1), (iv 0), (iv 1000)] [] (.v (.bool (F63 a0.2.1 0 1000))) [], .eq (!(F63 a0.2.1 0 1000)) false, .call 63 [(iv a0.2.2), (iv (-100)), (iv 100)] [] (.v (.bool (F63 a0.2.2 (-100) 100))) [], .eq (!(F63 a0.2.2 (-100) 100)) false, .eq false false]) (by kernel_rfl) ⟨rfl, rfl, (show 0 ≤ (0 : Int) ∧ (0 : Int) < ((1 : Nat) : Int) from by decide), (C66 a0.1), h0, (C63 a0.2.1 0 1000), h1, (C63 a0.2.2 (-100) 100), h2, rfl, trivial⟩

/-- facet/sound.check at (1,) -/
def F53_1 (a0 : ((Int × Int × Int) × (Int × Int × Int) × Int × Int × Int) × Int × Int) (a1 : Bool) : Int :=
  (bif (((F27_1 a0) : Int) != 0) then
   (F27_1 a0)
  else
   (bif (!a1) then
    1
   else
    0))

noncomputable def oC53_1_0 (a0 : ((Int × Int × Int) × (Int × Int × Int) × Int × Int × Int) × Int × Int) : Ob := .call 27 [(.s 0 0 1 11)] [(.live false false [(iv a0.1.1.1), (iv a0.1.1.2.1), (iv a0.1.1.2.2), (iv a0.1.2.1.1), (iv a0.1.2.1.2.1), (iv a0.1.2.1.2.2), (iv a0.1.2.2.1), (iv a0.1.2.2.2.1), (iv a0.1.2.2.2.2), (iv a0.2.1), (iv a0.2.2)])] (iv (F27_1 a0)) []
theorem C53_1 (a0 : ((Int × Int × Int) × (Int × Int × Int) × Int × Int × Int) × Int × Int) (a1 : Bool) : Con Try.prog 53 [(.s 0 0 1 11), (.v (.bool a1))] [(.live false false [(iv a0.1.1.1), (iv a0.1.1.2.1), (iv a0.1.1.2.2), (iv a0.1.2.1.1), (iv a0.1.2.1.2.1), (iv a0.1.2.1.2.2), (iv a0.1.2.2.1), (iv a0.1.2.2.2.1), (iv a0.1.2.2.2.2), (iv a0.2.1), (iv a0.2.2)])] (iv (F53_1 a0 a1)) [] := by
  cases h0 : (((F27_1 a0) : Int) != 0) with
  | true =>
    have q0 := bne_iff_ne.1 h0
    have e : (F53_1 a0 a1) = (F27_1 a0) := by simp only [F53_1, h0, cond_true, cond_false]
    rw [e]
    refine con_of (n := 9) Try.func53 rfl (ent Try.func53 (by kernel_rfl) rfl) (by show 2 ≤ Try.f53.ntmps; decide) (by kernel_rfl) ⟨rfl, trivial⟩ (fun cx hcx => ?_)
    exact ret_of (T := T0) hT hm (f := 5000) (orc := [.call [0] (iv (F27_1 a0)) [], .d true]) [] [] [] hcx
      (obs := [(oC53_1_0 a0), .eq (((F27_1 a0) : Int) != 0) true]) (by kernel_rfl) ⟨(C27_1 a0), h0, trivial⟩
  | false =>
    cases h1 : (!a1) with
    | true =>
      have q0 := bne_eq_false_iff_eq.1 h0
      have e : (F53_1 a0 a1) = 1 := by simp only [F53_1, h0, h1, cond_true, cond_false]
      rw [e]
      refine con_of (n := 9) Try.func53 rfl (ent Try.func53 (by kernel_rfl) rfl) (by show 2 ≤ Try.f53.ntmps; decide) (by kernel_rfl) ⟨rfl, trivial⟩ (fun cx hcx => ?_)
      exact ret_of (T := T0) hT hm (f := 5000) (orc := [.call [0] (iv (F27_1 a0)) [], .d false, .d true]) [] [] [] hcx
        (obs := [(oC53_1_0 a0), .eq (((F27_1 a0) : Int) != 0) false, .eq (!a1) true]) (by kernel_rfl) ⟨(C27_1 a0), h0, h1, trivial⟩
    | false =>
      have q0 := bne_eq_false_iff_eq.1 h0
      have e : (F53_1 a0 a1) = 0 := by simp only [F53_1, h0, h1, cond_true, cond_false]
      rw [e]
      refine con_of (n := 9) Try.func53 rfl (ent Try.func53 (by kernel_rfl) rfl) (by show 2 ≤ Try.f53.ntmps; decide) (by kernel_rfl) ⟨rfl, trivial⟩ (fun cx hcx => ?_)
      exact ret_of (T := T0) hT hm (f := 5000) (orc := [.call [0] (iv (F27_1 a0)) [], .d false, .d false]) [] [] [] hcx
        (obs := [(oC53_1_0 a0), .eq (((F27_1 a0) : Int) != 0) false, .eq (!a1) false]) (by kernel_rfl) ⟨(C27_1 a0), h0, h1, trivial⟩

/-- facet/facetref04.size -/
def F73 (a0 : Int) : Int :=
  (if (a0 : Int) < (W (0 - a0)) then (W (0 - a0)) else a0)

theorem C73 (a0 : Int) : Con Try.prog 73 [(iv a0)] [] (iv (F73 a0)) [] := by
  have e : (F73 a0) = (if (a0 : Int) < (W (0 - a0)) then (W (0 - a0)) else a0) := by simp only [F73]
  rw [e]
  refine con_of (n := 9) Try.func73 rfl (ent Try.func73 (by kernel_rfl) rfl) (by show 1 ≤ Try.f73.ntmps; decide) (by kernel_rfl) trivial (fun cx hcx => ?_)
  exact ret_of (T := T0) hT hm (f := 5000) (orc := []) [] [] [] hcx
    (obs := []) (by kernel_rfl) trivial

/-- facet/facetref04.Small -/
def F36 (a0 : Int × Int × Int) (a1 : Int) : Bool :=
  (bif (decide (((F73 a0.1) : Int) ≤ a1)) then
   (bif (decide (((F73 a0.2.1) : Int) ≤ a1)) then
    (bif (decide (((F73 a0.2.2) : Int) ≤ a1)) then
     (bif (decide ((a0.1 : Int) ≥ (W (0 - a1)))) then
      (bif (decide ((a0.2.1 : Int) ≥ (W (0 - a1)))) then
       (decide ((a0.2.2 : Int) ≥ (W (0 - a1))))
      else
       false)
     else
      false)
    else
     false)
   else
    false)
  else
   false)

theorem C36 (a0 : Int × Int × Int) (a1 : Int) : Con Try.prog 36 [(.a (k3 a0)), (iv a1)] [] (.v (.bool (F36 a0 a1))) [] := by
  cases h0 : (decide (((F73 a0.1) : Int) ≤ a1)) with
  | true =>
    cases h1 : (decide (((F73 a0.2.1) : Int) ≤ a1)) with
    | true =>
      cases h2 : (decide (((F73 a0.2.2) : Int) ≤ a1)) with
      | true =>
        cases h3 : (decide ((a0.1 : Int) ≥ (W (0 - a1)))) with
        | true =>
          cases h4 : (decide ((a0.2.1 : Int) ≥ (W (0 - a1)))) with
          | true =>
            have q0 := of_decide_eq_true h0
            have q1 := of_decide_eq_true h1
            have q2 := of_decide_eq_true h2
            have q3 := of_decide_eq_true h3
            have q4 := of_decide_eq_true h4
            have e : (F36 a0 a1) = (decide ((a0.2.2 : Int) ≥ (W (0 - a1)))) := by simp only [F36, h0, h1, h2, h3, h4, cond_true, cond_false]
            rw [e]
            refine con_of (n := 9) Try.func36 rfl (ent Try.func36 (by kernel_rfl) rfl) (by show 2 ≤ Try.f36.ntmps; decide) (by kernel_rfl) trivial (fun cx hcx => ?_)
            exact ret_of (T := T0) hT hm (f := 5000) (orc := [.call [] (iv (F73 a0.1)) [], .d true, .call [] (iv (F73 a0.2.1)) [], .d true, .call [] (iv (F73 a0.2.2)) [], .d true, .d true, .d true]) [] [] [] hcx
              (obs := [.call 73 [(iv a0.1)] [] (iv (F73 a0.1)) [], .eq (decide (((F73 a0.1) : Int) ≤ a1)) true, .call 73 [(iv a0.2.1)] [] (iv (F73 a0.2.1)) [], .eq (decide (((F73 a0.2.1) : Int) ≤ a1)) true, .call 73 [(iv a0.2.2)] [] (iv (F73 a0.2.2)) [], .eq (decide (((F73 a0.2.2) : Int) ≤ a1)) true, .eq (decide ((a0.1 : Int) ≥ (W (0 - a1)))) true, .eq (decide ((a0.2.1 : Int) ≥ (W (0 - a1)))) true]) (by kernel_rfl) ⟨(C73 a0.1), h0, (C73 a0.2.1), h1, (C73 a0.2.2), h2, h3, h4, trivial⟩
          | false =>
            have q0 := of_decide_eq_true h0
            have q1 := of_decide_eq_true h1
            have q2 := of_decide_eq_true h2
            have q3 := of_decide_eq_true h3
            have q4 := of_decide_eq_false h4
            have e : (F36 a0 a1) = false := by simp only [F36, h0, h1, h2, h3, h4, cond_true, cond_false]
            rw [e]
            refine con_of (n := 9) Try.func36 rfl (ent Try.func36 (by kernel_rfl) rfl) (by show 2 ≤ Try.f36.ntmps; decide) (by kernel_rfl) trivial (fun cx hcx => ?_)
            exact ret_of (T := T0) hT hm (f := 5000) (orc := [.call [] (iv (F73 a0.1)) [], .d true, .call [] (iv (F73 a0.2.1)) [], .d true, .call [] (iv (F73 a0.2.2)) [], .d true, .d true, .d false]) [] [] [] hcx
              (obs := [.call 73 [(iv a0.1)] [] (iv (F73 a0.1)) [], .eq (decide (((F73 a0.1) : Int) ≤ a1)) true, .call 73 [(iv a0.2.1)] [] (iv (F73 a0.2.1)) [], .eq (decide (((F73 a0.2.1) : Int) ≤ a1)) true, .call 73 [(iv a0.2.2)] [] (iv (F73 a0.2.2)) [], .eq (decide (((F73 a0.2.2) : Int) ≤ a1)) true, .eq (decide ((a0.1 : Int) ≥ (W (0 - a1)))) true, .eq (decide ((a0.2.1 : Int) ≥ (W (0 - a1)))) false]) (by kernel_rfl) ⟨(C73 a0.1), h0, (C73 a0.2.1), h1, (C73 a0.2.2), h2, h3, h4, trivial⟩
        | false =>
          have q0 := of_decide_eq_true h0
          have q1 := of_decide_eq_true h1
          have q2 := of_decide_eq_true h2
          have q3 := of_decide_eq_false h3
          have e : (F36 a0 a1) = false := by simp only [F36, h0, h1, h2, h3, cond_true, cond_false]
          rw [e]
          refine con_of (n := 9) Try.func36 rfl (ent Try.func36 (by kernel_rfl) rfl) (by show 2 ≤ Try.f36.ntmps; decide) (by kernel_rfl) trivial (fun cx hcx => ?_)
          exact ret_of (T := T0) hT hm (f := 5000) (orc := [.call [] (iv (F73 a0.1)) [], .d true, .call [] (iv (F73 a0.2.1)) [], .d true, .call [] (iv (F73 a0.2.2)) [], .d true, .d false]) [] [] [] hcx
            (obs := [.call 73 [(iv a0.1)] [] (iv (F73 a0.1)) [], .eq (decide (((F73 a0.1) : Int) ≤ a1)) true, .call 73 [(iv a0.2.1)] [] (iv (F73 a0.2.1)) [], .eq (decide (((F73 a0.2.1) : Int) ≤ a1)) true, .call 73 [(iv a0.2.2)] [] (iv (F73 a0.2.2)) [], .eq (decide (((F73 a0.2.2) : Int) ≤ a1)) true, .eq (decide ((a0.1 : Int) ≥ (W (0 - a1)))) false]) (by kernel_rfl) ⟨(C73 a0.1), h0, (C73 a0.2.1), h1, (C73 a0.2.2), h2, h3, trivial⟩
      | false =>
        have q0 := of_decide_eq_true h0
        have q1 := of_decide_eq_true h1
        have q2 := of_decide_eq_false h2
        have e : (F36 a0 a1) = false := by simp only [F36, h0, h1, h2, cond_true, cond_false]
        rw [e]
        refine con_of (n := 9) Try.func36 rfl (ent Try.func36 (by kernel_rfl) rfl) (by show 2 ≤ Try.f36.ntmps; decide) (by kernel_rfl) trivial (fun cx hcx => ?_)
        exact ret_of (T := T0) hT hm (f := 5000) (orc := [.call [] (iv (F73 a0.1)) [], .d true, .call [] (iv (F73 a0.2.1)) [], .d true, .call [] (iv (F73 a0.2.2)) [], .d false]) [] [] [] hcx
          (obs := [.call 73 [(iv a0.1)] [] (iv (F73 a0.1)) [], .eq (decide (((F73 a0.1) : Int) ≤ a1)) true, .call 73 [(iv a0.2.1)] [] (iv (F73 a0.2.1)) [], .eq (decide (((F73 a0.2.1) : Int) ≤ a1)) true, .call 73 [(iv a0.2.2)] [] (iv (F73 a0.2.2)) [], .eq (decide (((F73 a0.2.2) : Int) ≤ a1)) false]) (by kernel_rfl) ⟨(C73 a0.1), h0, (C73 a0.2.1), h1, (C73 a0.2.2), h2, trivial⟩
    | false =>
      have q0 := of_decide_eq_true h0
      have q1 := of_decide_eq_false h1
      have e : (F36 a0 a1) = false := by simp only [F36, h0, h1, cond_true, cond_false]
      rw [e]
      refine con_of (n := 9) Try.func36 rfl (ent Try.func36 (by kernel_rfl) rfl) (by show 2 ≤ Try.f36.ntmps; decide) (by kernel_rfl) trivial (fun cx hcx => ?_)
      exact ret_of (T := T0) hT hm (f := 5000) (orc := [.call [] (iv (F73 a0.1)) [], .d true, .call [] (iv (F73 a0.2.1)) [], .d false]) [] [] [] hcx
        (obs := [.call 73 [(iv a0.1)] [] (iv (F73 a0.1)) [], .eq (decide (((F73 a0.1) : Int) ≤ a1)) true, .call 73 [(iv a0.2.1)] [] (iv (F73 a0.2.1)) [], .eq (decide (((F73 a0.2.1) : Int) ≤ a1)) false]) (by kernel_rfl) ⟨(C73 a0.1), h0, (C73 a0.2.1), h1, trivial⟩
  | false =>
    have q0 := of_decide_eq_false h0
    have e : (F36 a0 a1) = false := by simp only [F36, h0, cond_true, cond_false]
    rw [e]
    refine con_of (n := 9) Try.func36 rfl (ent Try.func36 (by kernel_rfl) rfl) (by show 2 ≤ Try.f36.ntmps; decide) (by kernel_rfl) trivial (fun cx hcx => ?_)
    exact ret_of (T := T0) hT hm (f := 5000) (orc := [.call [] (iv (F73 a0.1)) [], .d false]) [] [] [] hcx
      (obs := [.call 73 [(iv a0.1)] [] (iv (F73 a0.1)) [], .eq (decide (((F73 a0.1) : Int) ≤ a1)) false]) (by kernel_rfl) ⟨(C73 a0.1), h0, trivial⟩

/-- facet/facetref08.within -/
def F65 (a0 : Int) (a1 : Int) (a2 : Int) : Bool :=
  (bif (decide ((a0 : Int) ≥ a1)) then
   (decide ((a0 : Int) ≤ a2))
  else
   false)

theorem C65 (a0 : Int) (a1 : Int) (a2 : Int) : Con Try.prog 65 [(iv a0), (iv a1), (iv a2)] [] (.v (.bool (F65 a0 a1 a2))) [] := by
  cases h0 : (decide ((a0 : Int) ≥ a1)) with
  | true =>
    have q0 := of_decide_eq_true h0
    have e : (F65 a0 a1 a2) = (decide ((a0 : Int) ≤ a2)) := by simp only [F65, h0, cond_true, cond_false]
    rw [e]
    refine con_of (n := 9) Try.func65 rfl (ent Try.func65 (by kernel_rfl) rfl) (by show 3 ≤ Try.f65.ntmps; decide) (by kernel_rfl) trivial (fun cx hcx => ?_)
    exact ret_of (T := T0) hT hm (f := 5000) (orc := [.d true]) [] [] [] hcx
      (obs := [.eq (decide ((a0 : Int) ≥ a1)) true]) (by kernel_rfl) ⟨h0, trivial⟩
  | false =>
    have q0 := of_decide_eq_false h0
    have e : (F65 a0 a1 a2) = false := by simp only [F65, h0, cond_true, cond_false]
    rw [e]
    refine con_of (n := 9) Try.func65 rfl (ent Try.func65 (by kernel_rfl) rfl) (by show 3 ≤ Try.f65.ntmps; decide) (by kernel_rfl) trivial (fun cx hcx => ?_)
    exact ret_of (T := T0) hT hm (f := 5000) (orc := [.d false]) [] [] [] hcx
      (obs := [.eq (decide ((a0 : Int) ≥ a1)) false]) (by kernel_rfl) ⟨h0, trivial⟩

/-- facet/facetref08.asked -/
def F49 (a0 : Int × Int × Int) (a1 : Int) (a2 : Int) (a3 : Int) : Int :=
  (bif (!(F36 a0 256)) then
   1
  else
   (bif (!(F65 a1 1 16)) then
    1
   else
    (bif (!(F65 a2 0 2000)) then
     1
    else
     (bif (!(F65 a3 0 3)) then
      1
     else
      0))))

noncomputable def oC49_0 (a0 : Int × Int × Int) : Ob := .call 36 [(.a (k3 a0)), (iv 256)] [] (.v (.bool (F36 a0 256))) []
noncomputable def oC49_1 (a1 : Int) : Ob := .call 65 [(iv a1), (iv 1), (iv 16)] [] (.v (.bool (F65 a1 1 16))) []
theorem C49 (a0 : Int × Int × Int) (a1 : Int) (a2 : Int) (a3 : Int) : Con Try.prog 49 [(.a (k3 a0)), (iv a1), (iv a2), (iv a3)] [] (iv (F49 a0 a1 a2 a3)) [] := by
  cases h0 : (!(F36 a0 256)) with
  | true =>
    have e : (F49 a0 a1 a2 a3) = 1 := by simp only [F49, h0, cond_true, cond_false]
    rw [e]
    refine con_of (n := 9) Try.func49 rfl (ent Try.func49 (by kernel_rfl) rfl) (by show 4 ≤ Try.f49.ntmps; decide) (by kernel_rfl) trivial (fun cx hcx => ?_)
    exact ret_of (T := T0) hT hm (f := 5000) (orc := [.call [] (.v (.bool (F36 a0 256))) [], .d true]) [] [] [] hcx
      (obs := [(oC49_0 a0), .eq (!(F36 a0 256)) true]) (by kernel_rfl) ⟨(C36 a0 256), h0, trivial⟩
  | false =>
    cases h1 : (!(F65 a1 1 16)) with
    | true =>
      have e : (F49 a0 a1 a2 a3) = 1 := by simp only [F49, h0, h1, cond_true, cond_false]
      rw [e]
      refine con_of (n := 9) Try.func49 rfl (ent Try.func49 (by kernel_rfl) rfl) (by show 4 ≤ Try.f49.ntmps; decide) (by kernel_rfl) trivial (fun cx hcx => ?_)
      exact ret_of (T := T0) hT hm (f := 5000) (orc := [.call [] (.v (.bool (F36 a0 256))) [], .d false, .call [] (.v (.bool (F65 a1 1 16))) [], .d true]) [] [] [] hcx
        (obs := [(oC49_0 a0), .eq (!(F36 a0 256)) false, (oC49_1 a1), .eq (!(F65 a1 1 16)) true]) (by kernel_rfl) ⟨(C36 a0 256), h0, (C65 a1 1 16), h1, trivial⟩
    | false =>
      cases h2 : (!(F65 a2 0 2000)) with
      | true =>
        have e : (F49 a0 a1 a2 a3) = 1 := by simp only [F49, h0, h1, h2, cond_true, cond_false]
        rw [e]
        refine con_of (n := 9) Try.func49 rfl (ent Try.func49 (by kernel_rfl) rfl) (by show 4 ≤ Try.f49.ntmps; decide) (by kernel_rfl) trivial (fun cx hcx => ?_)
        exact ret_of (T := T0) hT hm (f := 5000) (orc := [.call [] (.v (.bool (F36 a0 256))) [], .d false, .call [] (.v (.bool (F65 a1 1 16))) [], .d false, .call [] (.v (.bool (F65 a2 0 2000))) [], .d true]) [] [] [] hcx
          (obs := [(oC49_0 a0), .eq (!(F36 a0 256)) false, (oC49_1 a1), .eq (!(F65 a1 1 16)) false, .call 65 [(iv a2), (iv 0), (iv 2000)] [] (.v (.bool (F65 a2 0 2000))) [], .eq (!(F65 a2 0 2000)) true]) (by kernel_rfl) ⟨(C36 a0 256), h0, (C65 a1 1 16), h1, (C65 a2 0 2000), h2, trivial⟩
      | false =>
        cases h3 : (!(F65 a3 0 3)) with
        | true =>
          have e : (F49 a0 a1 a2 a3) = 1 := by simp only [F49, h0, h1, h2, h3, cond_true, cond_false]
          rw [e]
          refine con_of (n := 9) Try.func49 rfl (ent Try.func49 (by kernel_rfl) rfl) (by show 4 ≤ Try.f49.ntmps; decide) (by kernel_rfl) trivial (fun cx hcx => ?_)
          exact ret_of (T := T0) hT hm (f := 5000) (orc := [.call [] (.v (.bool (F36 a0 256))) [], .d false, .call [] (.v (.bool (F65 a1 1 16))) [], .d false, .call [] (.v (.bool (F65 a2 0 2000))) [], .d false, .call [] (.v (.bool (F65 a3 0 3))) [], .d true]) [] [] [] hcx
            (obs := [(oC49_0 a0), .eq (!(F36 a0 256)) false, (oC49_1 a1), .eq (!(F65 a1 1 16)) false, .call 65 [(iv a2), (iv 0), (iv 2000)] [] (.v (.bool (F65 a2 0 2000))) [], .eq (!(F65 a2 0 2000)) false, .call 65 [(iv a3), (iv 0), (iv 3)] [] (.v (.bool (F65 a3 0 3))) [], .eq (!(F65 a3 0 3)) true]) (by kernel_rfl) ⟨(C36 a0 256), h0, (C65 a1 1 16), h1, (C65 a2 0 2000), h2, (C65 a3 0 3), h3, trivial⟩
        | false =>
          have e : (F49 a0 a1 a2 a3) = 0 := by simp only [F49, h0, h1, h2, h3, cond_true, cond_false]
          rw [e]
          refine con_of (n := 9) Try.func49 rfl (ent Try.func49 (by kernel_rfl) rfl) (by show 4 ≤ Try.f49.ntmps; decide) (by kernel_rfl) trivial (fun cx hcx => ?_)
          exact ret_of (T := T0) hT hm (f := 5000) (orc := [.call [] (.v (.bool (F36 a0 256))) [], .d false, .call [] (.v (.bool (F65 a1 1 16))) [], .d false, .call [] (.v (.bool (F65 a2 0 2000))) [], .d false, .call [] (.v (.bool (F65 a3 0 3))) [], .d false]) [] [] [] hcx
            (obs := [(oC49_0 a0), .eq (!(F36 a0 256)) false, (oC49_1 a1), .eq (!(F65 a1 1 16)) false, .call 65 [(iv a2), (iv 0), (iv 2000)] [] (.v (.bool (F65 a2 0 2000))) [], .eq (!(F65 a2 0 2000)) false, .call 65 [(iv a3), (iv 0), (iv 3)] [] (.v (.bool (F65 a3 0 3))) [], .eq (!(F65 a3 0 3)) false]) (by kernel_rfl) ⟨(C36 a0 256), h0, (C65 a1 1 16), h1, (C65 a2 0 2000), h2, (C65 a3 0 3), h3, trivial⟩

/-- facet/facetref08.one -/
def F55 (a0 : ((Int × Int × Int) × (Int × Int × Int) × Int × Int × Int) × Int × Int) : Int :=
  (bif (((F85 a0.1) : Int) != 0) then
   (F85 a0.1)
  else
   (bif (!(F65 a0.2.1 0 1000)) then
    1
   else
    (bif (!(F65 a0.2.2 (-100) 100)) then
     1
    else
     0)))

theorem C55 (a0 : ((Int × Int × Int) × (Int × Int × Int) × Int × Int × Int) × Int × Int) : Con Try.prog 55 [(.a [(iv a0.1.1.1), (iv a0.1.1.2.1), (iv a0.1.1.2.2), (iv a0.1.2.1.1), (iv a0.1.2.1.2.1), (iv a0.1.2.1.2.2), (iv a0.1.2.2.1), (iv a0.1.2.2.2.1), (iv a0.1.2.2.2.2), (iv a0.2.1), (iv a0.2.2)])] [] (iv (F55 a0)) [] := by
  cases h0 : (((F85 a0.1) : Int) != 0) with
  | true =>
    have q0 := bne_iff_ne.1 h0
    have e : (F55 a0) = (F85 a0.1) := by simp only [F55, h0, cond_true, cond_false]
    rw [e]
    refine con_of (n := 9) Try.func55 rfl (ent Try.func55 (by kernel_rfl) rfl) (by show 1 ≤ Try.f55.ntmps; decide) (by kernel_rfl) trivial (fun cx hcx => ?_)
    exact ret_of (T := T0) hT hm (f := 5000) (orc := [.call [] (iv (F85 a0.1)) [], .d true]) [] [] [] hcx
      (obs := [.call 85 [(.a (k9 a0.1))] [] (iv (F85 a0.1)) [], .eq (((F85 a0.1) : Int) != 0) true]) (by kernel_rfl) ⟨(C85 a0.1), h0, trivial⟩
  | false =>
    cases h1 : (!(F65 a0.2.1 0 1000)) with
    | true =>
      have q0 := bne_eq_false_iff_eq.1 h0
      have e : (F55 a0) = 1 := by simp only [F55, h0, h1, cond_true, cond_false]
      rw [e]
      refine con_of (n := 9) Try.func55 rfl (ent Try.func55 (by kernel_rfl) rfl) (by show 1 ≤ Try.f55.ntmps; decide) (by kernel_rfl) trivial (fun cx hcx => ?_)
      exact ret_of (T := T0) hT hm (f := 5000) (orc := [.call [] (iv (F85 a0.1)) [], .d false, .call [] (.v (.bool (F65 a0.2.1 0 1000))) [], .d true]) [] [] [] hcx
        (obs := [.call 85 [(.a (k9 a0.1))] [] (iv (F85 a0.1)) [], .eq (((F85 a0.1) : Int) != 0) false, .call 65 [(iv a0.2.1), (iv 0), (iv 1000)] [] (.v (.bool (F65 a0.2.1 0 1000))) [], .eq (!(F65 a0.2.1 0 1000)) true]) (by kernel_rfl) ⟨(C85 a0.1), h0, (C65 a0.2.1 0 1000), h1, trivial⟩
    | false =>
      cases h2 : (!(F65 a0.2.2 (-100) 100)) with
      | true =>
        have q0 := bne_eq_false_iff_eq.1 h0
        have e : (F55 a0) = 1 := by simp only [F55, h0, h1, h2, cond_true, cond_false]
        rw [e]
        refine con_of (n := 9) Try.func55 rfl (ent Try.func55 (by kernel_rfl) rfl) (by show 1 ≤ Try.f55.ntmps; decide) (by kernel_rfl) trivial (fun cx hcx => ?_)
        exact ret_of (T := T0) hT hm (f := 5000) (orc := [.call [] (iv (F85 a0.1)) [], .d false, .call [] (.v (.bool (F65 a0.2.1 0 1000))) [], .d false, .call [] (.v (.bool (F65 a0.2.2 (-100) 100))) [], .d true]) [] [] [] hcx
          (obs := [.call 85 [(.a (k9 a0.1))] [] (iv (F85 a0.1)) [], .eq (((F85 a0.1) : Int) != 0) false, .call 65 [(iv a0.2.1), (iv 0), (iv 1000)] [] (.v (.bool (F65 a0.2.1 0 1000))) [], .eq (!(F65 a0.2.1 0 1000)) false, .call 65 [(iv a0.2.2), (iv (-100)), (iv 100)] [] (.v (.bool (F65 a0.2.2 (-100) 100))) [], .eq (!(F65 a0.2.2 (-100) 100)) true]) (by kernel_rfl) ⟨(C85 a0.1), h0, (C65 a0.2.1 0 1000), h1, (C65 a0.2.2 (-100) 100), h2, trivial⟩
      | false =>
        have q0 := bne_eq_false_iff_eq.1 h0
        have e : (F55 a0) = 0 := by simp only [F55, h0, h1, h2, cond_true, cond_false]
        rw [e]
        refine con_of (n := 9) Try.func55 rfl (ent Try.func55 (by kernel_rfl) rfl) (by show 1 ≤ Try.f55.ntmps; decide) (by kernel_rfl) trivial (fun cx hcx => ?_)
        exact ret_of (T := T0) hT hm (f := 5000) (orc := [.call [] (iv (F85 a0.1)) [], .d false, .call [] (.v (.bool (F65 a0.2.1 0 1000))) [], .d false, .call [] (.v (.bool (F65 a0.2.2 (-100) 100))) [], .d false]) [] [] [] hcx
          (obs := [.call 85 [(.a (k9 a0.1))] [] (iv (F85 a0.1)) [], .eq (((F85 a0.1) : Int) != 0) false, .call 65 [(iv a0.2.1), (iv 0), (iv 1000)] [] (.v (.bool (F65 a0.2.1 0 1000))) [], .eq (!(F65 a0.2.1 0 1000)) false, .call 65 [(iv a0.2.2), (iv (-100)), (iv 100)] [] (.v (.bool (F65 a0.2.2 (-100) 100))) [], .eq (!(F65 a0.2.2 (-100) 100)) false]) (by kernel_rfl) ⟨(C85 a0.1), h0, (C65 a0.2.1 0 1000), h1, (C65 a0.2.2 (-100) 100), h2, trivial⟩

/-- facet/facetref08.gap -/
def F86 (a0 : Int) (a1 : Int) (a2 : Int) : Int :=
  (if ((if ((W (a1 - a0)) : Int) < (W (a0 - a2)) then (W (a0 - a2)) else (W (a1 - a0))) : Int) < 0 then 0 else (if ((W (a1 - a0)) : Int) < (W (a0 - a2)) then (W (a0 - a2)) else (W (a1 - a0))))

theorem C86 (a0 : Int) (a1 : Int) (a2 : Int) : Con Try.prog 86 [(iv a0), (iv a1), (iv a2)] [] (iv (F86 a0 a1 a2)) [] := by
  have e : (F86 a0 a1 a2) = (if ((if ((W (a1 - a0)) : Int) < (W (a0 - a2)) then (W (a0 - a2)) else (W (a1 - a0))) : Int) < 0 then 0 else (if ((W (a1 - a0)) : Int) < (W (a0 - a2)) then (W (a0 - a2)) else (W (a1 - a0)))) := by simp only [F86]
  rw [e]
  refine con_of (n := 9) Try.func86 rfl (ent Try.func86 (by kernel_rfl) rfl) (by show 3 ≤ Try.f86.ntmps; decide) (by kernel_rfl) trivial (fun cx hcx => ?_)
  exact ret_of (T := T0) hT hm (f := 5000) (orc := []) [] [] [] hcx
    (obs := []) (by kernel_rfl) trivial

/-- facet/facetref04.Square -/
def F51 (a0 : Int × Int × Int) : Int :=
  (W ((W ((W (a0.1 * a0.1)) + (W (a0.2.1 * a0.2.1)))) + (W (a0.2.2 * a0.2.2))))

theorem C51 (a0 : Int × Int × Int) : Con Try.prog 51 [(.a (k3 a0))] [] (iv (F51 a0)) [] := by
  have e : (F51 a0) = (W ((W ((W (a0.1 * a0.1)) + (W (a0.2.1 * a0.2.1)))) + (W (a0.2.2 * a0.2.2)))) := by simp only [F51]
  rw [e]
  refine con_of (n := 9) Try.func51 rfl (ent Try.func51 (by kernel_rfl) rfl) (by show 1 ≤ Try.f51.ntmps; decide) (by kernel_rfl) trivial (fun cx hcx => ?_)
  exact ret_of (T := T0) hT hm (f := 5000) (orc := []) [] [] [] hcx
    (obs := []) (by kernel_rfl) trivial

/-- facet/facetref08.near -/
def F56 (a0 : (Int × Int × Int) × (Int × Int × Int) × Int × Int × Int) (a1 : Int × Int × Int) : Int :=
  (F51 ((F86 a1.1 (if (a0.2.2.1 : Int) < (if (a0.2.1.1 : Int) < a0.1.1 then a0.2.1.1 else a0.1.1) then a0.2.2.1 else (if (a0.2.1.1 : Int) < a0.1.1 then a0.2.1.1 else a0.1.1)) (if ((if (a0.1.1 : Int) < a0.2.1.1 then a0.2.1.1 else a0.1.1) : Int) < a0.2.2.1 then a0.2.2.1 else (if (a0.1.1 : Int) < a0.2.1.1 then a0.2.1.1 else a0.1.1))), (F86 a1.2.1 (if (a0.2.2.2.1 : Int) < (if (a0.2.1.2.1 : Int) < a0.1.2.1 then a0.2.1.2.1 else a0.1.2.1) then a0.2.2.2.1 else (if (a0.2.1.2.1 : Int) < a0.1.2.1 then a0.2.1.2.1 else a0.1.2.1)) (if ((if (a0.1.2.1 : Int) < a0.2.1.2.1 then a0.2.1.2.1 else a0.1.2.1) : Int) < a0.2.2.2.1 then a0.2.2.2.1 else (if (a0.1.2.1 : Int) < a0.2.1.2.1 then a0.2.1.2.1 else a0.1.2.1))), (F86 a1.2.2 (if (a0.2.2.2.2 : Int) < (if (a0.2.1.2.2 : Int) < a0.1.2.2 then a0.2.1.2.2 else a0.1.2.2) then a0.2.2.2.2 else (if (a0.2.1.2.2 : Int) < a0.1.2.2 then a0.2.1.2.2 else a0.1.2.2)) (if ((if (a0.1.2.2 : Int) < a0.2.1.2.2 then a0.2.1.2.2 else a0.1.2.2) : Int) < a0.2.2.2.2 then a0.2.2.2.2 else (if (a0.1.2.2 : Int) < a0.2.1.2.2 then a0.2.1.2.2 else a0.1.2.2)))))

theorem C56 (a0 : (Int × Int × Int) × (Int × Int × Int) × Int × Int × Int) (a1 : Int × Int × Int) : Con Try.prog 56 [(.a (k9 a0)), (.a (k3 a1))] [] (iv (F56 a0 a1)) [] := by
  have e : (F56 a0 a1) = (F51 ((F86 a1.1 (if (a0.2.2.1 : Int) < (if (a0.2.1.1 : Int) < a0.1.1 then a0.2.1.1 else a0.1.1) then a0.2.2.1 else (if (a0.2.1.1 : Int) < a0.1.1 then a0.2.1.1 else a0.1.1)) (if ((if (a0.1.1 : Int) < a0.2.1.1 then a0.2.1.1 else a0.1.1) : Int) < a0.2.2.1 then a0.2.2.1 else (if (a0.1.1 : Int) < a0.2.1.1 then a0.2.1.1 else a0.1.1))), (F86 a1.2.1 (if (a0.2.2.2.1 : Int) < (if (a0.2.1.2.1 : Int) < a0.1.2.1 then a0.2.1.2.1 else a0.1.2.1) then a0.2.2.2.1 else (if (a0.2.1.2.1 : Int) < a0.1.2.1 then a0.2.1.2.1 else a0.1.2.1)) (if ((if (a0.1.2.1 : Int) < a0.2.1.2.1 then a0.2.1.2.1 else a0.1.2.1) : Int) < a0.2.2.2.1 then a0.2.2.2.1 else (if (a0.1.2.1 : Int) < a0.2.1.2.1 then a0.2.1.2.1 else a0.1.2.1))), (F86 a1.2.2 (if (a0.2.2.2.2 : Int) < (if (a0.2.1.2.2 : Int) < a0.1.2.2 then a0.2.1.2.2 else a0.1.2.2) then a0.2.2.2.2 else (if (a0.2.1.2.2 : Int) < a0.1.2.2 then a0.2.1.2.2 else a0.1.2.2)) (if ((if (a0.1.2.2 : Int) < a0.2.1.2.2 then a0.2.1.2.2 else a0.1.2.2) : Int) < a0.2.2.2.2 then a0.2.2.2.2 else (if (a0.1.2.2 : Int) < a0.2.1.2.2 then a0.2.1.2.2 else a0.1.2.2))))) := by simp only [F56]
  rw [e]
  refine con_of (n := 9) Try.func56 rfl (ent Try.func56 (by kernel_rfl) rfl) (by show 2 ≤ Try.f56.ntmps; decide) (by kernel_rfl) trivial (fun cx hcx => ?_)
  exact ret_of (T := T0) hT hm (f := 5000) (orc := [.call [] (iv (F86 a1.1 (if (a0.2.2.1 : Int) < (if (a0.2.1.1 : Int) < a0.1.1 then a0.2.1.1 else a0.1.1) then a0.2.2.1 else (if (a0.2.1.1 : Int) < a0.1.1 then a0.2.1.1 else a0.1.1)) (if ((if (a0.1.1 : Int) < a0.2.1.1 then a0.2.1.1 else a0.1.1) : Int) < a0.2.2.1 then a0.2.2.1 else (if (a0.1.1 : Int) < a0.2.1.1 then a0.2.1.1 else a0.1.1)))) [], .call [] (iv (F86 a1.2.1 (if (a0.2.2.2.1 : Int) < (if (a0.2.1.2.1 : Int) < a0.1.2.1 then a0.2.1.2.1 else a0.1.2.1) then a0.2.2.2.1 else (if (a0.2.1.2.1 : Int) < a0.1.2.1 then a0.2.1.2.1 else a0.1.2.1)) (if ((if (a0.1.2.1 : Int) < a0.2.1.2.1 then a0.2.1.2.1 else a0.1.2.1) : Int) < a0.2.2.2.1 then a0.2.2.2.1 else (if (a0.1.2.1 : Int) < a0.2.1.2.1 then a0.2.1.2.1 else a0.1.2.1)))) [], .call [] (iv (F86 a1.2.2 (if (a0.2.2.2.2 : Int) < (if (a0.2.1.2.2 : Int) < a0.1.2.2 then a0.2.1.2.2 else a0.1.2.2) then a0.2.2.2.2 else (if (a0.2.1.2.2 : Int) < a0.1.2.2 then a0.2.1.2.2 else a0.1.2.2)) (if ((if (a0.1.2.2 : Int) < a0.2.1.2.2 then a0.2.1.2.2 else a0.1.2.2) : Int) < a0.2.2.2.2 then a0.2.2.2.2 else (if (a0.1.2.2 : Int) < a0.2.1.2.2 then a0.2.1.2.2 else a0.1.2.2)))) [], .call [] (iv (F51 ((F86 a1.1 (if (a0.2.2.1 : Int) < (if (a0.2.1.1 : Int) < a0.1.1 then a0.2.1.1 else a0.1.1) then a0.2.2.1 else (if (a0.2.1.1 : Int) < a0.1.1 then a0.2.1.1 else a0.1.1)) (if ((if (a0.1.1 : Int) < a0.2.1.1 then a0.2.1.1 else a0.1.1) : Int) < a0.2.2.1 then a0.2.2.1 else (if (a0.1.1 : Int) < a0.2.1.1 then a0.2.1.1 else a0.1.1))), (F86 a1.2.1 (if (a0.2.2.2.1 : Int) < (if (a0.2.1.2.1 : Int) < a0.1.2.1 then a0.2.1.2.1 else a0.1.2.1) then a0.2.2.2.1 else (if (a0.2.1.2.1 : Int) < a0.1.2.1 then a0.2.1.2.1 else a0.1.2.1)) (if ((if (a0.1.2.1 : Int) < a0.2.1.2.1 then a0.2.1.2.1 else a0.1.2.1) : Int) < a0.2.2.2.1 then a0.2.2.2.1 else (if (a0.1.2.1 : Int) < a0.2.1.2.1 then a0.2.1.2.1 else a0.1.2.1))), (F86 a1.2.2 (if (a0.2.2.2.2 : Int) < (if (a0.2.1.2.2 : Int) < a0.1.2.2 then a0.2.1.2.2 else a0.1.2.2) then a0.2.2.2.2 else (if (a0.2.1.2.2 : Int) < a0.1.2.2 then a0.2.1.2.2 else a0.1.2.2)) (if ((if (a0.1.2.2 : Int) < a0.2.1.2.2 then a0.2.1.2.2 else a0.1.2.2) : Int) < a0.2.2.2.2 then a0.2.2.2.2 else (if (a0.1.2.2 : Int) < a0.2.1.2.2 then a0.2.1.2.2 else a0.1.2.2)))))) []]) [] [] [] hcx
    (obs := [.call 86 [(iv a1.1), (iv (if (a0.2.2.1 : Int) < (if (a0.2.1.1 : Int) < a0.1.1 then a0.2.1.1 else a0.1.1) then a0.2.2.1 else (if (a0.2.1.1 : Int) < a0.1.1 then a0.2.1.1 else a0.1.1))), (iv (if ((if (a0.1.1 : Int) < a0.2.1.1 then a0.2.1.1 else a0.1.1) : Int) < a0.2.2.1 then a0.2.2.1 else (if (a0.1.1 : Int) < a0.2.1.1 then a0.2.1.1 else a0.1.1)))] [] (iv (F86 a1.1 (if (a0.2.2.1 : Int) < (if (a0.2.1.1 : Int) < a0.1.1 then a0.2.1.1 else a0.1.1) then a0.2.2.1 else (if (a0.2.1.1 : Int) < a0.1.1 then a0.2.1.1 else a0.1.1)) (if ((if (a0.1.1 : Int) < a0.2.1.1 then a0.2.1.1 else a0.1.1) : Int) < a0.2.2.1 then a0.2.2.1 else (if (a0.1.1 : Int) < a0.2.1.1 then a0.2.1.1 else a0.1.1)))) [], .call 86 [(iv a1.2.1), (iv (if (a0.2.2.2.1 : Int) < (if (a0.2.1.2.1 : Int) < a0.1.2.1 then a0.2.1.2.1 else a0.1.2.1) then a0.2.2.2.1 else (if (a0.2.1.2.1 : Int) < a0.1.2.1 then a0.2.1.2.1 else a0.1.2.1))), (iv (if ((if (a0.1.2.1 : Int) < a0.2.1.2.1 then a0.2.1.2.1 else a0.1.2.1) : Int) < a0.2.2.2.1 then a0.2.2.2.1 else (if (a0.1.2.1 : Int) < a0.2.1.2.1 then a0.2.1.2.1 else a0.1.2.1)))] [] (iv (F86 a1.2.1 (if (a0.2.2.2.1 : Int) < (if (a0.2.1.2.1 : Int) < a0.1.2.1 then a0.2.1.2.1 else a0.1.2.1) then a0.2.2.2.1 else (if (a0.2.1.2.1 : Int) < a0.1.2.1 then a0.2.1.2.1 else a0.1.2.1)) (if ((if (a0.1.2.1 : Int) < a0.2.1.2.1 then a0.2.1.2.1 else a0.1.2.1) : Int) < a0.2.2.2.1 then a0.2.2.2.1 else (if (a0.1.2.1 : Int) < a0.2.1.2.1 then a0.2.1.2.1 else a0.1.2.1)))) [], .call 86 [(iv a1.2.2), (iv (if (a0.2.2.2.2 : Int) < (if (a0.2.1.2.2 : Int) < a0.1.2.2 then a0.2.1.2.2 else a0.1.2.2) then a0.2.2.2.2 else (if (a0.2.1.2.2 : Int) < a0.1.2.2 then a0.2.1.2.2 else a0.1.2.2))), (iv (if ((if (a0.1.2.2 : Int) < a0.2.1.2.2 then a0.2.1.2.2 else a0.1.2.2) : Int) < a0.2.2.2.2 then a0.2.2.2.2 else (if (a0.1.2.2 : Int) < a0.2.1.2.2 then a0.2.1.2.2 else a0.1.2.2)))] [] (iv (F86 a1.2.2 (if (a0.2.2.2.2 : Int) < (if (a0.2.1.2.2 : Int) < a0.1.2.2 then a0.2.1.2.2 else a0.1.2.2) then a0.2.2.2.2 else (if (a0.2.1.2.2 : Int) < a0.1.2.2 then a0.2.1.2.2 else a0.1.2.2)) (if ((if (a0.1.2.2 : Int) < a0.2.1.2.2 then a0.2.1.2.2 else a0.1.2.2) : Int) < a0.2.2.2.2 then a0.2.2.2.2 else (if (a0.1.2.2 : Int) < a0.2.1.2.2 then a0.2.1.2.2 else a0.1.2.2)))) [], .call 51 [(.a [(iv (F86 a1.1 (if (a0.2.2.1 : Int) < (if (a0.2.1.1 : Int) < a0.1.1 then a0.2.1.1 else a0.1.1) then a0.2.2.1 else (if (a0.2.1.1 : Int) < a0.1.1 then a0.2.1.1 else a0.1.1)) (if ((if (a0.1.1 : Int) < a0.2.1.1 then a0.2.1.1 else a0.1.1) : Int) < a0.2.2.1 then a0.2.2.1 else (if (a0.1.1 : Int) < a0.2.1.1 then a0.2.1.1 else a0.1.1)))), (iv (F86 a1.2.1 (if (a0.2.2.2.1 : Int) < (if (a0.2.1.2.1 : Int) < a0.1.2.1 then a0.2.1.2.1 else a0.1.2.1) then a0.2.2.2.1 else (if (a0.2.1.2.1 : Int) < a0.1.2.1 then a0.2.1.2.1 else a0.1.2.1)) (if ((if (a0.1.2.1 : Int) < a0.2.1.2.1 then a0.2.1.2.1 else a0.1.2.1) : Int) < a0.2.2.2.1 then a0.2.2.2.1 else (if (a0.1.2.1 : Int) < a0.2.1.2.1 then a0.2.1.2.1 else a0.1.2.1)))), (iv (F86 a1.2.2 (if (a0.2.2.2.2 : Int) < (if (a0.2.1.2.2 : Int) < a0.1.2.2 then a0.2.1.2.2 else a0.1.2.2) then a0.2.2.2.2 else (if (a0.2.1.2.2 : Int) < a0.1.2.2 then a0.2.1.2.2 else a0.1.2.2)) (if ((if (a0.1.2.2 : Int) < a0.2.1.2.2 then a0.2.1.2.2 else a0.1.2.2) : Int) < a0.2.2.2.2 then a0.2.2.2.2 else (if (a0.1.2.2 : Int) < a0.2.1.2.2 then a0.2.1.2.2 else a0.1.2.2))))])] [] (iv (F51 ((F86 a1.1 (if (a0.2.2.1 : Int) < (if (a0.2.1.1 : Int) < a0.1.1 then a0.2.1.1 else a0.1.1) then a0.2.2.1 else (if (a0.2.1.1 : Int) < a0.1.1 then a0.2.1.1 else a0.1.1)) (if ((if (a0.1.1 : Int) < a0.2.1.1 then a0.2.1.1 else a0.1.1) : Int) < a0.2.2.1 then a0.2.2.1 else (if (a0.1.1 : Int) < a0.2.1.1 then a0.2.1.1 else a0.1.1))), (F86 a1.2.1 (if (a0.2.2.2.1 : Int) < (if (a0.2.1.2.1 : Int) < a0.1.2.1 then a0.2.1.2.1 else a0.1.2.1) then a0.2.2.2.1 else (if (a0.2.1.2.1 : Int) < a0.1.2.1 then a0.2.1.2.1 else a0.1.2.1)) (if ((if (a0.1.2.1 : Int) < a0.2.1.2.1 then a0.2.1.2.1 else a0.1.2.1) : Int) < a0.2.2.2.1 then a0.2.2.2.1 else (if (a0.1.2.1 : Int) < a0.2.1.2.1 then a0.2.1.2.1 else a0.1.2.1))), (F86 a1.2.2 (if (a0.2.2.2.2 : Int) < (if (a0.2.1.2.2 : Int) < a0.1.2.2 then a0.2.1.2.2 else a0.1.2.2) then a0.2.2.2.2 else (if (a0.2.1.2.2 : Int) < a0.1.2.2 then a0.2.1.2.2 else a0.1.2.2)) (if ((if (a0.1.2.2 : Int) < a0.2.1.2.2 then a0.2.1.2.2 else a0.1.2.2) : Int) < a0.2.2.2.2 then a0.2.2.2.2 else (if (a0.1.2.2 : Int) < a0.2.1.2.2 then a0.2.1.2.2 else a0.1.2.2)))))) []]) (by kernel_rfl) ⟨(C86 a1.1 (if (a0.2.2.1 : Int) < (if (a0.2.1.1 : Int) < a0.1.1 then a0.2.1.1 else a0.1.1) then a0.2.2.1 else (if (a0.2.1.1 : Int) < a0.1.1 then a0.2.1.1 else a0.1.1)) (if ((if (a0.1.1 : Int) < a0.2.1.1 then a0.2.1.1 else a0.1.1) : Int) < a0.2.2.1 then a0.2.2.1 else (if (a0.1.1 : Int) < a0.2.1.1 then a0.2.1.1 else a0.1.1))), (C86 a1.2.1 (if (a0.2.2.2.1 : Int) < (if (a0.2.1.2.1 : Int) < a0.1.2.1 then a0.2.1.2.1 else a0.1.2.1) then a0.2.2.2.1 else (if (a0.2.1.2.1 : Int) < a0.1.2.1 then a0.2.1.2.1 else a0.1.2.1)) (if ((if (a0.1.2.1 : Int) < a0.2.1.2.1 then a0.2.1.2.1 else a0.1.2.1) : Int) < a0.2.2.2.1 then a0.2.2.2.1 else (if (a0.1.2.1 : Int) < a0.2.1.2.1 then a0.2.1.2.1 else a0.1.2.1))), (C86 a1.2.2 (if (a0.2.2.2.2 : Int) < (if (a0.2.1.2.2 : Int) < a0.1.2.2 then a0.2.1.2.2 else a0.1.2.2) then a0.2.2.2.2 else (if (a0.2.1.2.2 : Int) < a0.1.2.2 then a0.2.1.2.2 else a0.1.2.2)) (if ((if (a0.1.2.2 : Int) < a0.2.1.2.2 then a0.2.1.2.2 else a0.1.2.2) : Int) < a0.2.2.2.2 then a0.2.2.2.2 else (if (a0.1.2.2 : Int) < a0.2.1.2.2 then a0.2.1.2.2 else a0.1.2.2))), (C51 ((F86 a1.1 (if (a0.2.2.1 : Int) < (if (a0.2.1.1 : Int) < a0.1.1 then a0.2.1.1 else a0.1.1) then a0.2.2.1 else (if (a0.2.1.1 : Int) < a0.1.1 then a0.2.1.1 else a0.1.1)) (if ((if (a0.1.1 : Int) < a0.2.1.1 then a0.2.1.1 else a0.1.1) : Int) < a0.2.2.1 then a0.2.2.1 else (if (a0.1.1 : Int) < a0.2.1.1 then a0.2.1.1 else a0.1.1))), (F86 a1.2.1 (if (a0.2.2.2.1 : Int) < (if (a0.2.1.2.1 : Int) < a0.1.2.1 then a0.2.1.2.1 else a0.1.2.1) then a0.2.2.2.1 else (if (a0.2.1.2.1 : Int) < a0.1.2.1 then a0.2.1.2.1 else a0.1.2.1)) (if ((if (a0.1.2.1 : Int) < a0.2.1.2.1 then a0.2.1.2.1 else a0.1.2.1) : Int) < a0.2.2.2.1 then a0.2.2.2.1 else (if (a0.1.2.1 : Int) < a0.2.1.2.1 then a0.2.1.2.1 else a0.1.2.1))), (F86 a1.2.2 (if (a0.2.2.2.2 : Int) < (if (a0.2.1.2.2 : Int) < a0.1.2.2 then a0.2.1.2.2 else a0.1.2.2) then a0.2.2.2.2 else (if (a0.2.1.2.2 : Int) < a0.1.2.2 then a0.2.1.2.2 else a0.1.2.2)) (if ((if (a0.1.2.2 : Int) < a0.2.1.2.2 then a0.2.1.2.2 else a0.1.2.2) : Int) < a0.2.2.2.2 then a0.2.2.2.2 else (if (a0.1.2.2 : Int) < a0.2.1.2.2 then a0.2.1.2.2 else a0.1.2.2))))), trivial⟩

/-- facet/facetref04.Minus -/
def F52 (a0 : Int × Int × Int) (a1 : Int × Int × Int) : Int × Int × Int :=
  ((W (a0.1 - a1.1)), (W (a0.2.1 - a1.2.1)), (W (a0.2.2 - a1.2.2)))

theorem C52 (a0 : Int × Int × Int) (a1 : Int × Int × Int) : Con Try.prog 52 [(.a (k3 a0)), (.a (k3 a1))] [] (.a (k3 (F52 a0 a1))) [] := by
  have e : (F52 a0 a1) = ((W (a0.1 - a1.1)), (W (a0.2.1 - a1.2.1)), (W (a0.2.2 - a1.2.2))) := by simp only [F52]
  rw [e]
  refine con_of (n := 9) Try.func52 rfl (ent Try.func52 (by kernel_rfl) rfl) (by show 2 ≤ Try.f52.ntmps; decide) (by kernel_rfl) trivial (fun cx hcx => ?_)
  exact ret_of (T := T0) hT hm (f := 5000) (orc := []) [] [] [] hcx
    (obs := []) (by kernel_rfl) trivial

/-- facet/facetref08.far -/
def F58 (a0 : (Int × Int × Int) × (Int × Int × Int) × Int × Int × Int) (a1 : Int × Int × Int) : Int :=
  (if ((if ((F51 (F52 a0.1 a1)) : Int) < (F51 (F52 a0.2.1 a1)) then (F51 (F52 a0.2.1 a1)) else (F51 (F52 a0.1 a1))) : Int) < (F51 (F52 a0.2.2 a1)) then (F51 (F52 a0.2.2 a1)) else (if ((F51 (F52 a0.1 a1)) : Int) < (F51 (F52 a0.2.1 a1)) then (F51 (F52 a0.2.1 a1)) else (F51 (F52 a0.1 a1))))

theorem C58 (a0 : (Int × Int × Int) × (Int × Int × Int) × Int × Int × Int) (a1 : Int × Int × Int) : Con Try.prog 58 [(.a (k9 a0)), (.a (k3 a1))] [] (iv (F58 a0 a1)) [] := by
  have e : (F58 a0 a1) = (if ((if ((F51 (F52 a0.1 a1)) : Int) < (F51 (F52 a0.2.1 a1)) then (F51 (F52 a0.2.1 a1)) else (F51 (F52 a0.1 a1))) : Int) < (F51 (F52 a0.2.2 a1)) then (F51 (F52 a0.2.2 a1)) else (if ((F51 (F52 a0.1 a1)) : Int) < (F51 (F52 a0.2.1 a1)) then (F51 (F52 a0.2.1 a1)) else (F51 (F52 a0.1 a1)))) := by simp only [F58]
  rw [e]
  refine con_of (n := 9) Try.func58 rfl (ent Try.func58 (by kernel_rfl) rfl) (by show 2 ≤ Try.f58.ntmps; decide) (by kernel_rfl) trivial (fun cx hcx => ?_)
  exact ret_of (T := T0) hT hm (f := 5000) (orc := [.call [] (.a (k3 (F52 a0.1 a1))) [], .call [] (iv (F51 (F52 a0.1 a1))) [], .call [] (.a (k3 (F52 a0.2.1 a1))) [], .call [] (iv (F51 (F52 a0.2.1 a1))) [], .call [] (.a (k3 (F52 a0.2.2 a1))) [], .call [] (iv (F51 (F52 a0.2.2 a1))) []]) [] [] [] hcx
    (obs := [.call 52 [(.a (k3 a0.1)), (.a (k3 a1))] [] (.a (k3 (F52 a0.1 a1))) [], .call 51 [(.a (k3 (F52 a0.1 a1)))] [] (iv (F51 (F52 a0.1 a1))) [], .call 52 [(.a (k3 a0.2.1)), (.a (k3 a1))] [] (.a (k3 (F52 a0.2.1 a1))) [], .call 51 [(.a (k3 (F52 a0.2.1 a1)))] [] (iv (F51 (F52 a0.2.1 a1))) [], .call 52 [(.a (k3 a0.2.2)), (.a (k3 a1))] [] (.a (k3 (F52 a0.2.2 a1))) [], .call 51 [(.a (k3 (F52 a0.2.2 a1)))] [] (iv (F51 (F52 a0.2.2 a1))) []]) (by kernel_rfl) ⟨(C52 a0.1 a1), (C51 (F52 a0.1 a1)), (C52 a0.2.1 a1), (C51 (F52 a0.2.1 a1)), (C52 a0.2.2 a1), (C51 (F52 a0.2.2 a1)), trivial⟩

/-- facet/facetref04.Plus -/
def F117 (a0 : Int × Int × Int) (a1 : Int × Int × Int) : Int × Int × Int :=
  ((W (a0.1 + a1.1)), (W (a0.2.1 + a1.2.1)), (W (a0.2.2 + a1.2.2)))

theorem C117 (a0 : Int × Int × Int) (a1 : Int × Int × Int) : Con Try.prog 117 [(.a (k3 a0)), (.a (k3 a1))] [] (.a (k3 (F117 a0 a1))) [] := by
  have e : (F117 a0 a1) = ((W (a0.1 + a1.1)), (W (a0.2.1 + a1.2.1)), (W (a0.2.2 + a1.2.2))) := by simp only [F117]
  rw [e]
  refine con_of (n := 9) Try.func117 rfl (ent Try.func117 (by kernel_rfl) rfl) (by show 2 ≤ Try.f117.ntmps; decide) (by kernel_rfl) trivial (fun cx hcx => ?_)
  exact ret_of (T := T0) hT hm (f := 5000) (orc := []) [] [] [] hcx
    (obs := []) (by kernel_rfl) trivial

end Go.Proofs.Ytopbnnmkdildgaa
