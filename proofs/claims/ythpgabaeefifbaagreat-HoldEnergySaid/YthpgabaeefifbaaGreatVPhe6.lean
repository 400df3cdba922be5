/-
  Parts of the proofs of the laws: the executor, what functions of the program compute, and that it is what the statements ask. No premise.
-/
import Derived.Test.YthpgabaeefifbaaGreatVPhe5
namespace Go.Proofs.YthpgabaeefifbaaGreat
open Go.Proofs Go.Aw Go.RowKit
set_option maxRecDepth 100000
set_option linter.unusedVariables false
set_option linter.unusedSimpArgs false

/-- facet/facetlaw07.sane -/
def F10 : Bool :=
  (bif (((F11 (F30.1, F30.2) (0, 0, 0)).2 : Int) == 0) then
   (bif (((F11 (F30.1, F30.2) (0, 0, 0)).1 : Int) == 1048576) then
    (bif (((F31 (F30.1, F30.2) 1).2 : Int) == 0) then
     (bif (((F31 (F30.1, F30.2) 1).1 : Int) == 1280) then
      (bif (((F26 (F30.1, F30.2) 0).2 : Int) == 0) then
       (bif (decide (((F26 (F30.1, F30.2) 0).1.1 : Int) > 0)) then
        (decide (((F26 (F30.1, F30.2) 0).1.2 : Int) ≤ 1048576))
       else
        false)
      else
       false)
     else
      false)
    else
     false)
   else
    false)
  else
   false)

theorem C10 : Con Tryz.prog 10 [] [] (.v (.bool F10)) [] := by
  refine con_s Tryz.func10 (by kernel_rfl) fun cx hcx => ?_
  have ho1 : F30.1.length = 6 := by kernel_rfl
  have ho2 : F30.2.length = 8 := by kernel_rfl
  let t0 : List (St Tryz.prog) := [.c [] (C30), .c [0, 1] (C11 (F30.1, F30.2) (0, 0, 0) (by (try simp only [List.length_append, List.length_cons, List.length_nil, Int.toNat_zero]); omega) (by (try simp only [List.length_append, List.length_cons, List.length_nil, Int.toNat_zero]); omega)), .c [] (C30), .c [2, 3] (C31 (F30.1, F30.2) 1 (by (try simp only [List.length_append, List.length_cons, List.length_nil, Int.toNat_zero]); omega) (by (try simp only [List.length_append, List.length_cons, List.length_nil, Int.toNat_zero]); omega)), .c [] (C30), .c [4, 5] (C26 (F30.1, F30.2) 0 (by (try simp only [List.length_append, List.length_cons, List.length_nil, Int.toNat_zero]); omega) (by (try simp only [List.length_append, List.length_cons, List.length_nil, Int.toNat_zero]); omega))]
  cases h0 : (((F11 (F30.1, F30.2) (0, 0, 0)).2 : Int) == 0) with
  | true =>
   have q0 := eq_of_beq h0
   let t1 : List (St Tryz.prog) := (t0 ++ [.d h0])
   cases h1 : (((F11 (F30.1, F30.2) (0, 0, 0)).1 : Int) == 1048576) with
   | true =>
    have q1 := eq_of_beq h1
    let t2 : List (St Tryz.prog) := (t1 ++ [.d h1])
    cases h2 : (((F31 (F30.1, F30.2) 1).2 : Int) == 0) with
    | true =>
     have q2 := eq_of_beq h2
     let t3 : List (St Tryz.prog) := (t2 ++ [.d h2])
     cases h3 : (((F31 (F30.1, F30.2) 1).1 : Int) == 1280) with
     | true =>
      have q3 := eq_of_beq h3
      let t4 : List (St Tryz.prog) := (t3 ++ [.d h3])
      cases h4 : (((F26 (F30.1, F30.2) 0).2 : Int) == 0) with
      | true =>
       have q4 := eq_of_beq h4
       let t5 : List (St Tryz.prog) := (t4 ++ [.d h4])
       cases h5 : (decide (((F26 (F30.1, F30.2) 0).1.1 : Int) > 0)) with
       | true =>
        have q5 := of_decide_eq_true h5
        have e := Eq.refl F10; conv at e => rhs; simp only [F10, h0, h1, h2, h3, h4, h5, cond_true, cond_false]
        rw [e]
        exact rt (t5 ++ [.d h5]) [] [] hcx (by kernel_rfl)
       | false =>
        have q5 := of_decide_eq_false h5
        have e := Eq.refl F10; conv at e => rhs; simp only [F10, h0, h1, h2, h3, h4, h5, cond_true, cond_false]
        rw [e]
        exact rt (t5 ++ [.d h5]) [] [] hcx (by kernel_rfl)
      | false =>
       have q4 := ne_of_beq_false h4
       have e := Eq.refl F10; conv at e => rhs; simp only [F10, h0, h1, h2, h3, h4, cond_true, cond_false]
       rw [e]
       exact rt (t4 ++ [.d h4]) [] [] hcx (by kernel_rfl)
     | false =>
      have q3 := ne_of_beq_false h3
      have e := Eq.refl F10; conv at e => rhs; simp only [F10, h0, h1, h2, h3, cond_true, cond_false]
      rw [e]
      exact rt (t3 ++ [.d h3]) [] [] hcx (by kernel_rfl)
    | false =>
     have q2 := ne_of_beq_false h2
     have e := Eq.refl F10; conv at e => rhs; simp only [F10, h0, h1, h2, cond_true, cond_false]
     rw [e]
     exact rt (t2 ++ [.d h2]) [] [] hcx (by kernel_rfl)
   | false =>
    have q1 := ne_of_beq_false h1
    have e := Eq.refl F10; conv at e => rhs; simp only [F10, h0, h1, cond_true, cond_false]
    rw [e]
    exact rt (t1 ++ [.d h1]) [] [] hcx (by kernel_rfl)
  | false =>
   have q0 := ne_of_beq_false h0
   have e := Eq.refl F10; conv at e => rhs; simp only [F10, h0, cond_true, cond_false]
   rw [e]
   exact rt (t0 ++ [.d h0]) [] [] hcx (by kernel_rfl)

end Go.Proofs.YthpgabaeefifbaaGreat

namespace Go.Proofs.YthpgabaeefifbaaGreat
open Go.Proofs Go.Aw Go.RowKit
set_option maxRecDepth 100000
set_option linter.unusedVariables false
set_option linter.unusedSimpArgs false

theorem sane_h : F10 = true := by kernel_rfl

end Go.Proofs.YthpgabaeefifbaaGreat

namespace Go.Proofs.YthpgabaeefifbaaGreat
open Go.Proofs Go.Aw Go.RowKit
set_option maxRecDepth 100000
set_option linter.unusedVariables false
set_option linter.unusedSimpArgs false

/-- facet/facetlaw07.HoldEnergy at ('L',) -/
def F5_L (a0 : (List (Int × Int × Int)) × List (Int × Int × Int)) (a1 : List (Int)) (a2 : Int) : Bool :=
  (bif (F9 (a0.1, a0.2) a2) then
   F10
  else
   (bif (decide ((((a1.length : Nat) : Int) : Int) > 300)) then
    F10
   else
    (bif ((((F16_L (a0.1, a0.2) a1 a2).1.1 : Int) == (F17_L (a0.1, a0.2) a1 a2).1.1) && ((((F16_L (a0.1, a0.2) a1 a2).1.2 : Int) == (F17_L (a0.1, a0.2) a1 a2).1.2) && true)) then
     (bif (((F16_L (a0.1, a0.2) a1 a2).2 : Int) == (F17_L (a0.1, a0.2) a1 a2).2) then
      F10
     else
      false)
    else
     false)))

theorem C5_L (a0 : (List (Int × Int × Int)) × List (Int × Int × Int)) (a1 : List (Int)) (a2 : Int) (l0_1 : a0.1.length ≤ 9223372036854775807) (l0_2 : a0.2.length ≤ 9223372036854775807) (l1 : a1.length ≤ 9223372036854775807) : Con Tryz.prog 5 [(.a [(.s 0 0 a0.1.length 3), (.s 1 0 a0.2.length 3)]), (.s 2 0 a1.length 1), (iv a2)] [(.live false true (flat c27 a0.1)), (.live false true (flat c85 a0.2)), (.live false true (flat c3 a1))] (.v (.bool (F5_L a0 a1 a2))) [] := by
  refine con_s Tryz.func5 (by kernel_rfl) fun cx hcx => ?_
  let t0 : List (St Tryz.prog) := [.c [0, 1] (C9 (a0.1, a0.2) a2 (by (try simp only [List.length_append, List.length_cons, List.length_nil, Int.toNat_zero]); omega) (by (try simp only [List.length_append, List.length_cons, List.length_nil, Int.toNat_zero]); omega))]
  cases h0 : (F9 (a0.1, a0.2) a2) with
  | true =>
   have e := Eq.refl (F5_L a0 a1 a2); conv at e => rhs; simp only [F5_L, h0, cond_true, cond_false]
   rw [e]
   exact rt (t0 ++ [.d h0, .c [] (C10)]) [] [] hcx (by kernel_rfl)
  | false =>
   let t1 : List (St Tryz.prog) := (t0 ++ [.d h0])
   cases h1 : (decide ((((a1.length : Nat) : Int) : Int) > 300)) with
   | true =>
    have q1 := of_decide_eq_true h1
    have e := Eq.refl (F5_L a0 a1 a2); conv at e => rhs; simp only [F5_L, h0, h1, cond_true, cond_false]
    rw [e]
    exact rt (t1 ++ [.d h1, .c [] (C10)]) [] [] hcx (by kernel_rfl)
   | false =>
    have q1 := of_decide_eq_false h1
    let t2 : List (St Tryz.prog) := (t1 ++ [.d h1, .c [0, 1, 2] (C16_L (a0.1, a0.2) a1 a2 (by (try simp only [List.length_append, List.length_cons, List.length_nil, Int.toNat_zero]); omega) (by (try simp only [List.length_append, List.length_cons, List.length_nil, Int.toNat_zero]); omega) (by (try simp only [List.length_append, List.length_cons, List.length_nil, Int.toNat_zero]); omega)), .c [0, 1, 2] (C17_L (a0.1, a0.2) a1 a2 (by (try simp only [List.length_append, List.length_cons, List.length_nil, Int.toNat_zero]); omega) (by (try simp only [List.length_append, List.length_cons, List.length_nil, Int.toNat_zero]); omega) (by (try simp only [List.length_append, List.length_cons, List.length_nil, Int.toNat_zero]); omega))])
    cases h2 : ((((F16_L (a0.1, a0.2) a1 a2).1.1 : Int) == (F17_L (a0.1, a0.2) a1 a2).1.1) && ((((F16_L (a0.1, a0.2) a1 a2).1.2 : Int) == (F17_L (a0.1, a0.2) a1 a2).1.2) && true)) with
    | true =>
     let t3 : List (St Tryz.prog) := (t2 ++ [.d h2])
     cases h3 : (((F16_L (a0.1, a0.2) a1 a2).2 : Int) == (F17_L (a0.1, a0.2) a1 a2).2) with
     | true =>
      have q3 := eq_of_beq h3
      have e := Eq.refl (F5_L a0 a1 a2); conv at e => rhs; simp only [F5_L, h0, h1, h2, h3, cond_true, cond_false]
      rw [e]
      exact rt (t3 ++ [.d h3, .c [] (C10)]) [] [] hcx (by kernel_rfl)
     | false =>
      have q3 := ne_of_beq_false h3
      have e := Eq.refl (F5_L a0 a1 a2); conv at e => rhs; simp only [F5_L, h0, h1, h2, h3, cond_true, cond_false]
      rw [e]
      exact rt (t3 ++ [.d h3]) [] [] hcx (by kernel_rfl)
    | false =>
     have e := Eq.refl (F5_L a0 a1 a2); conv at e => rhs; simp only [F5_L, h0, h1, h2, cond_true, cond_false]
     rw [e]
     exact rt (t2 ++ [.d h2]) [] [] hcx (by kernel_rfl)

end Go.Proofs.YthpgabaeefifbaaGreat
