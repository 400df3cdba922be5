/-
  Parts of the proofs of the laws: the executor, what functions of the program compute, and that it is what the statements ask. No premise.
-/
import Derived.Test.YtcnnmgooolnebaaGreatVPto3
import Derived.Deep.Slices
import Derived.ProofKit
import Derived.RowKit
import Derived.Shelf.SlSortCmp.Whole1
import Derived.Shelf.SlSortCmp.WholeK
import Derived.Shelf.SlSortCmp.NoneTotal
namespace Go.Proofs.YtcnnmgooolnebaaGreat
open Go.Proofs Go.Aw Go.RowKit
set_option maxRecDepth 100000
set_option linter.unusedVariables false
set_option linter.unusedSimpArgs false

noncomputable def B20_0 : Code := (loopAtD [1, 1, 0] [] (bodyOf Tryz.f20) []).1
noncomputable def K20_0 : List K := (loopAtD [1, 1, 0] [] (bodyOf Tryz.f20) []).2

def st20_0 (a0 : Int) (a1 : Int) (v1 : Int) : LS := ⟨slN 15 [(0, (iv a0)), (1, (iv a1)), (5, (iv v1))], []⟩

def S20_0 (a0 : Int) (a1 : Int) : Int → (Int) ⊕ (Int)
  | v1 =>
   (bif (decide (((F43 (W (a1 * v1))) : Int) < a0)) then
    (.inl (W (v1 + 1)))
   else
    (.inr v1))

set_option maxHeartbeats 4000000 in
theorem L20_0 (a0 : Int) (a1 : Int) (hq : a0 ≤ 1000000) (hs : 1 ≤ a1 ∧ a1 ≤ 1000) {cx : Cx} (hcx : cx.base = 0) : ∀ (n : Nat) (v1 : Int), (0 ≤ v1) ∧ (v1 ≤ 1000) → Int.toNat (1000 - v1) < n → Aw.Good Tryz.prog none 9 (bodyPost Tryz.prog Tryz.f20 (RR cx (iv (loopF (S20_0 a0 a1) n v1)) [] [])) cx [] (.l B20_0 n :: K20_0) (st20_0 a0 a1 v1) := by
  intro n
  induction n with
  | zero => intro v1 hi hn; exact absurd hn (Nat.not_lt_zero _)
  | succ n ih =>
    intro v1 hi hn
    refine good_round ?_
    have hf := trav_f (t := v1) hs (by omega) hq
    have hw := W_eq (n := v1 + 1) (by omega) (by omega)
    let t0 : List (St Tryz.prog) := [.c [] (C43 (W (a1 * v1)))]
    cases h0 : (decide (((F43 (W (a1 * v1))) : Int) < a0)) with
    | true =>
     have q0 := of_decide_eq_true h0
     have e := Eq.refl (S20_0 a0 a1 v1); conv at e => rhs; simp only [S20_0, h0, cond_true, cond_false]
     rw [loopF_inl e]
     refine ba (t0 ++ [.d h0]) [] [0, 1, 5] [] hcx (m := n) B20_0 (K20_0) (st20_0 a0 a1 (W (v1 + 1))) (by kernel_rfl) ?_
     exact ih (W (v1 + 1)) (by refine ⟨?_, ?_⟩ <;> (try simp only [List.length_append, List.length_cons, List.length_nil, Int.toNat_zero]) <;> first | omega | assumption | simp) (by (try simp only [List.length_append, List.length_cons, List.length_nil, Int.toNat_zero]); omega)
    | false =>
     have q0 := of_decide_eq_false h0
     have e := Eq.refl (S20_0 a0 a1 v1); conv at e => rhs; simp only [S20_0, h0, cond_true, cond_false]
     rw [loopF_s, e]
     exact rt (t0 ++ [.d h0]) [] [] hcx (by kernel_rfl)

def F20 (a0 : Int) (a1 : Int) : Int :=
  (loopF (S20_0 a0 a1) (Int.toNat (1000 - 0) + 1) 0)

theorem C20 (a0 : Int) (a1 : Int) (hq : a0 ≤ 1000000) (hs : 1 ≤ a1 ∧ a1 ≤ 1000) : Con Tryz.prog 20 [(iv a0), (iv a1)] [] (iv (F20 a0 a1)) [] := by
  refine con_s Tryz.func20 (by kernel_rfl) fun cx hcx => ?_
  have e := Eq.refl (F20 a0 a1); conv at e => rhs; simp only [F20]
  rw [e]
  refine en [] [] [0, 1, 5] [] hcx B20_0 (K20_0) (st20_0 a0 a1 0) (Int.toNat (1000 - 0) + 1) (by kernel_rfl) ?_
  exact L20_0 a0 a1 hq hs hcx (Int.toNat (1000 - 0) + 1) 0 (by refine ⟨?_, ?_⟩ <;> (try simp only [List.length_append, List.length_cons, List.length_nil, Int.toNat_zero]) <;> first | omega | assumption | simp) (by (try simp only [List.length_append, List.length_cons, List.length_nil, Int.toNat_zero]); omega)

noncomputable def B60_0 : Code := (loopAtD [1, 1, 0] [] (bodyOf Tryz.f60) []).1
noncomputable def K60_0 : List K := (loopAtD [1, 1, 0] [] (bodyOf Tryz.f60) []).2

def st60_0 (a0 : Int) (a1 : Int) (v1 : Int) : LS := ⟨slN 18 [(0, (iv a0)), (1, (iv a1)), (5, (iv v1))], []⟩

def S60_0 (a0 : Int) (a1 : Int) : Int → (Int) ⊕ (Int)
  | v1 =>
   (bif (decide (((W ((W ((W (a1 * a1)) * v1)) * v1)) : Int) < a0)) then
    (.inl (W (v1 + 1)))
   else
    (.inr v1))

set_option maxHeartbeats 4000000 in
theorem L60_0 (a0 : Int) (a1 : Int) (hq : a0 ≤ 1000000) (hs : 1 ≤ a1 ∧ a1 ≤ 1000) {cx : Cx} (hcx : cx.base = 0) : ∀ (n : Nat) (v1 : Int), (0 ≤ v1) ∧ (v1 ≤ 1000) → Int.toNat (1000 - v1) < n → Aw.Good Tryz.prog none 9 (bodyPost Tryz.prog Tryz.f60 (RR cx (iv (loopF (S60_0 a0 a1) n v1)) [] [])) cx [] (.l B60_0 n :: K60_0) (st60_0 a0 a1 v1) := by
  intro n
  induction n with
  | zero => intro v1 hi hn; exact absurd hn (Nat.not_lt_zero _)
  | succ n ih =>
    intro v1 hi hn
    refine good_round ?_
    have hf := trav_r (t := v1) hs (by omega) hq
    have hw := W_eq (n := v1 + 1) (by omega) (by omega)
    cases h0 : (decide (((W ((W ((W (a1 * a1)) * v1)) * v1)) : Int) < a0)) with
    | true =>
     have q0 := of_decide_eq_true h0
     have e := Eq.refl (S60_0 a0 a1 v1); conv at e => rhs; simp only [S60_0, h0, cond_true, cond_false]
     rw [loopF_inl e]
     refine ba [.d h0] [] [0, 1, 5] [] hcx (m := n) B60_0 (K60_0) (st60_0 a0 a1 (W (v1 + 1))) (by kernel_rfl) ?_
     exact ih (W (v1 + 1)) (by refine ⟨?_, ?_⟩ <;> (try simp only [List.length_append, List.length_cons, List.length_nil, Int.toNat_zero]) <;> first | omega | assumption | simp) (by (try simp only [List.length_append, List.length_cons, List.length_nil, Int.toNat_zero]); omega)
    | false =>
     have q0 := of_decide_eq_false h0
     have e := Eq.refl (S60_0 a0 a1 v1); conv at e => rhs; simp only [S60_0, h0, cond_true, cond_false]
     rw [loopF_s, e]
     exact rt [.d h0] [] [] hcx (by kernel_rfl)

def F60 (a0 : Int) (a1 : Int) : Int :=
  (loopF (S60_0 a0 a1) (Int.toNat (1000 - 0) + 1) 0)

theorem C60 (a0 : Int) (a1 : Int) (hq : a0 ≤ 1000000) (hs : 1 ≤ a1 ∧ a1 ≤ 1000) : Con Tryz.prog 60 [(iv a0), (iv a1)] [] (iv (F60 a0 a1)) [] := by
  refine con_s Tryz.func60 (by kernel_rfl) fun cx hcx => ?_
  have e := Eq.refl (F60 a0 a1); conv at e => rhs; simp only [F60]
  rw [e]
  refine en [] [] [0, 1, 5] [] hcx B60_0 (K60_0) (st60_0 a0 a1 0) (Int.toNat (1000 - 0) + 1) (by kernel_rfl) ?_
  exact L60_0 a0 a1 hq hs hcx (Int.toNat (1000 - 0) + 1) 0 (by refine ⟨?_, ?_⟩ <;> (try simp only [List.length_append, List.length_cons, List.length_nil, Int.toNat_zero]) <;> first | omega | assumption | simp) (by (try simp only [List.length_append, List.length_cons, List.length_nil, Int.toNat_zero]); omega)

def F5 (a0 : Int × Int × Int) (a1 : Int × Int × Int) (a2 : Int) : Int × Int :=
  (bif (!(F18 a0)) then
   (0, 1)
  else
   (bif (!(F18 a1)) then
    (0, 1)
   else
    (bif (!(F19 a2)) then
     (0, 1)
    else
     ((F20 (F21 a0 a1) a2), 0))))

theorem C5 (a0 : Int × Int × Int) (a1 : Int × Int × Int) (a2 : Int) : Con Tryz.prog 5 [(.a (k3 a0)), (.a (k3 a1)), (iv a2)] [] (.t (k2 (F5 a0 a1 a2))) [] := by
  refine con_s Tryz.func5 (by kernel_rfl) fun cx hcx => ?_
  let t0 : List (St Tryz.prog) := [.c [] (C18 a0)]
  cases h0 : (!(F18 a0)) with
  | true =>
   have e := Eq.refl (F5 a0 a1 a2); conv at e => rhs; simp only [F5, h0, cond_true, cond_false]
   rw [e]
   exact rt (t0 ++ [.d h0]) [] [] hcx (by kernel_rfl)
  | false =>
   let t1 : List (St Tryz.prog) := (t0 ++ [.d h0, .c [] (C18 a1)])
   cases h1 : (!(F18 a1)) with
   | true =>
    have e := Eq.refl (F5 a0 a1 a2); conv at e => rhs; simp only [F5, h0, h1, cond_true, cond_false]
    rw [e]
    exact rt (t1 ++ [.d h1]) [] [] hcx (by kernel_rfl)
   | false =>
    let t2 : List (St Tryz.prog) := (t1 ++ [.d h1, .c [] (C19 a2)])
    cases h2 : (!(F19 a2)) with
    | true =>
     have e := Eq.refl (F5 a0 a1 a2); conv at e => rhs; simp only [F5, h0, h1, h2, cond_true, cond_false]
     rw [e]
     exact rt (t2 ++ [.d h2]) [] [] hcx (by kernel_rfl)
    | false =>
     have e := Eq.refl (F5 a0 a1 a2); conv at e => rhs; simp only [F5, h0, h1, h2, cond_true, cond_false]
     rw [e]
     exact rt (t2 ++ [.d h2, .c [] (C21 a0 a1), .c [] (C20 (F21 a0 a1) a2  (tra_f (isp_n h0) (isp_n h1)) (by have := iss_n h2; omega))]) [] [] hcx (by kernel_rfl)

def F49 (a0 : ((Int × Int × Int) × (Int × Int × Int) × Int × Int × Int) × Int × Int) (a1 : Int × Int × Int) (a2 : Int) : Int :=
  (W (a0.2.1 + (F20 (F72 a0.1 a1) a2)))

theorem C49 (a0 : ((Int × Int × Int) × (Int × Int × Int) × Int × Int × Int) × Int × Int) (a1 : Int × Int × Int) (a2 : Int) (hp : POK a0) (hx : bd 256 a1) (hs : 1 ≤ a2 ∧ a2 ≤ 16) : Con Tryz.prog 49 [(.a [(iv a0.1.1.1), (iv a0.1.1.2.1), (iv a0.1.1.2.2), (iv a0.1.2.1.1), (iv a0.1.2.1.2.1), (iv a0.1.2.1.2.2), (iv a0.1.2.2.1), (iv a0.1.2.2.2.1), (iv a0.1.2.2.2.2), (iv a0.2.1), (iv a0.2.2)]), (.a (k3 a1)), (iv a2)] [] (iv (F49 a0 a1 a2)) [] := by
  refine con_s Tryz.func49 (by kernel_rfl) fun cx hcx => ?_
  have e := Eq.refl (F49 a0 a1 a2); conv at e => rhs; simp only [F49]
  rw [e]
  exact rt [.c [] (C72 a0.1 a1), .c [] (C20 (F72 a0.1 a1) a2  (nef6 hp hx) (by omega))] [] [] hcx (by kernel_rfl)

def F36 (a0 : ((Int × Int × Int) × (Int × Int × Int) × Int × Int × Int) × Int × Int) (a1 : Int × Int × Int) (a2 : Int) : Int × Int :=
  (bif (F18 a1) then
   (bif (((F24_1 a0 (F19 a2)) : Int) != 0) then
    (0, (F24_1 a0 (F19 a2)))
   else
    ((F49 a0 a1 a2), 0))
  else
   (bif (((F24_1 a0 false) : Int) != 0) then
    (0, (F24_1 a0 false))
   else
    ((F49 a0 a1 a2), 0)))

theorem C36 (a0 : ((Int × Int × Int) × (Int × Int × Int) × Int × Int × Int) × Int × Int) (a1 : Int × Int × Int) (a2 : Int) : Con Tryz.prog 36 [(.a [(iv a0.1.1.1), (iv a0.1.1.2.1), (iv a0.1.1.2.2), (iv a0.1.2.1.1), (iv a0.1.2.1.2.1), (iv a0.1.2.1.2.2), (iv a0.1.2.2.1), (iv a0.1.2.2.2.1), (iv a0.1.2.2.2.2), (iv a0.2.1), (iv a0.2.2)]), (.a (k3 a1)), (iv a2)] [] (.t (k2 (F36 a0 a1 a2))) [] := by
  refine con_s Tryz.func36 (by kernel_rfl) fun cx hcx => ?_
  let t0 : List (St Tryz.prog) := [.c [] (C18 a1)]
  cases h0 : (F18 a1) with
  | true =>
   let t1 : List (St Tryz.prog) := (t0 ++ [.d h0, .c [] (C19 a2), .c [2] (C24_1 a0 (F19 a2))])
   cases h1 : (((F24_1 a0 (F19 a2)) : Int) != 0) with
   | true =>
    have q1 := bne_iff_ne.1 h1
    have e := Eq.refl (F36 a0 a1 a2); conv at e => rhs; simp only [F36, h0, h1, cond_true, cond_false]
    rw [e]
    exact rt (t1 ++ [.d h1]) [] [] hcx (by kernel_rfl)
   | false =>
    have q1 := bne_eq_false_iff_eq.1 h1
    have e := Eq.refl (F36 a0 a1 a2); conv at e => rhs; simp only [F36, h0, h1, cond_true, cond_false]
    rw [e]
    exact rt (t1 ++ [.d h1, .c [] (C49 a0 a1 a2  (ckb_p h1) (by first | exact isp_p h0 | exact absurd (ckb_b h1) (by decide)) (by first | exact iss_p (ckb_b h1) | exact absurd (ckb_b h1) (by decide)))]) [] [] hcx (by kernel_rfl)
  | false =>
   let t1 : List (St Tryz.prog) := (t0 ++ [.d h0, .c [2] (C24_1 a0 false)])
   cases h1 : (((F24_1 a0 false) : Int) != 0) with
   | true =>
    have q1 := bne_iff_ne.1 h1
    have e := Eq.refl (F36 a0 a1 a2); conv at e => rhs; simp only [F36, h0, h1, cond_true, cond_false]
    rw [e]
    exact rt (t1 ++ [.d h1]) [] [] hcx (by kernel_rfl)
   | false =>
    have q1 := bne_eq_false_iff_eq.1 h1
    have e := Eq.refl (F36 a0 a1 a2); conv at e => rhs; simp only [F36, h0, h1, cond_true, cond_false]
    rw [e]
    exact rt (t1 ++ [.d h1, .c [] (C49 a0 a1 a2  (ckb_p h1) (by first | exact isp_p h0 | exact absurd (ckb_b h1) (by decide)) (by first | exact iss_p (ckb_b h1) | exact absurd (ckb_b h1) (by decide)))]) [] [] hcx (by kernel_rfl)

end Go.Proofs.YtcnnmgooolnebaaGreat

namespace Go.Proofs.YtcnnmgooolnebaaGreat
open Go.Proofs Go.Aw Go.RowKit
set_option maxRecDepth 100000
set_option linter.unusedVariables false
set_option linter.unusedSimpArgs false

def F84 (a0 : Int × Int × Int) (a1 : Int) (a2 : Int) : (Int × Int) × Int :=
  (bif (decide ((a2 : Int) ≤ a0.1)) then
   ((0, 0), 0)
  else
   (bif (decide ((a1 : Int) > a0.2.1)) then
    ((0, 0), 0)
   else
    (bif (decide ((a1 : Int) > a0.1)) then
     (bif (((if (a1 : Int) < a0.1 then a0.1 else a1) : Int) == 0) then
      ((0, 0), 10)
     else
      (bif (((F53 (if (a1 : Int) < a0.1 then a0.1 else a1) a0.2.2).2 : Int) != 0) then
       ((0, (F53 (if (a1 : Int) < a0.1 then a0.1 else a1) a0.2.2).1.2), (F53 (if (a1 : Int) < a0.1 then a0.1 else a1) a0.2.2).2)
      else
       (bif (!(decide ((a2 : Int) ≤ a0.2.1))) then
        ((0, (F53 (if (a1 : Int) < a0.1 then a0.1 else a1) a0.2.2).1.2), (F53 (if (a1 : Int) < a0.1 then a0.1 else a1) a0.2.2).2)
       else
        (((F53 a2 a0.2.2).1.1, (F53 (if (a1 : Int) < a0.1 then a0.1 else a1) a0.2.2).1.2), (F53 a2 a0.2.2).2))))
    else
     (bif (((if (a1 : Int) < a0.1 then a0.1 else a1) : Int) == 0) then
      ((0, 0), 10)
     else
      (bif (((F53 (if (a1 : Int) < a0.1 then a0.1 else a1) a0.2.2).2 : Int) != 0) then
       ((0, (F53 (if (a1 : Int) < a0.1 then a0.1 else a1) a0.2.2).1.2), (F53 (if (a1 : Int) < a0.1 then a0.1 else a1) a0.2.2).2)
      else
       ((0, (F53 (if (a1 : Int) < a0.1 then a0.1 else a1) a0.2.2).1.2), (F53 (if (a1 : Int) < a0.1 then a0.1 else a1) a0.2.2).2))))))

noncomputable def oC84_0 (a0 : Int × Int × Int) (a1 : Int) : Ob := .eq (((if (a1 : Int) < a0.1 then a0.1 else a1) : Int) == 0) false
theorem C84 (a0 : Int × Int × Int) (a1 : Int) (a2 : Int) : Con Tryz.prog 84 [(.a (k3 a0)), (iv a1), (iv a2)] [] (.t [(.a (k2 (F84 a0 a1 a2).1)), (iv (F84 a0 a1 a2).2)]) [] := by
  cases h0 : (decide ((a2 : Int) ≤ a0.1)) with
  | true =>
    have q0 := of_decide_eq_true h0
    have e : (F84 a0 a1 a2) = ((0, 0), 0) := by simp only [F84, h0, cond_true, cond_false]
    rw [e]
    refine con_of (n := 9) Tryz.func84 rfl (ent Tryz.func84 (by kernel_rfl) rfl) (by show 3 ≤ Tryz.f84.ntmps; decide) (by kernel_rfl) trivial (fun cx hcx => ?_)
    exact ret_of (T := T0) hT hm (f := 5000) (orc := [.d true]) [] [] [] hcx
      (obs := [.eq (decide ((a2 : Int) ≤ a0.1)) true]) (by kernel_rfl) ⟨h0, trivial⟩
  | false =>
    cases h1 : (decide ((a1 : Int) > a0.2.1)) with
    | true =>
      have q0 := of_decide_eq_false h0
      have q1 := of_decide_eq_true h1
      have e : (F84 a0 a1 a2) = ((0, 0), 0) := by simp only [F84, h0, h1, cond_true, cond_false]
      rw [e]
      refine con_of (n := 9) Tryz.func84 rfl (ent Tryz.func84 (by kernel_rfl) rfl) (by show 3 ≤ Tryz.f84.ntmps; decide) (by kernel_rfl) trivial (fun cx hcx => ?_)
      exact ret_of (T := T0) hT hm (f := 5000) (orc := [.d false, .d true]) [] [] [] hcx
        (obs := [.eq (decide ((a2 : Int) ≤ a0.1)) false, .eq (decide ((a1 : Int) > a0.2.1)) true]) (by kernel_rfl) ⟨h0, h1, trivial⟩
    | false =>
      cases h2 : (decide ((a1 : Int) > a0.1)) with
      | true =>
        cases h3 : (((if (a1 : Int) < a0.1 then a0.1 else a1) : Int) == 0) with
        | true =>
          have q0 := of_decide_eq_false h0
          have q1 := of_decide_eq_false h1
          have q2 := of_decide_eq_true h2
          have q3 := eq_of_beq h3
          have e : (F84 a0 a1 a2) = ((0, 0), 10) := by simp only [F84, h0, h1, h2, h3, cond_true, cond_false]
          rw [e]
          refine con_of (n := 9) Tryz.func84 rfl (ent Tryz.func84 (by kernel_rfl) rfl) (by show 3 ≤ Tryz.f84.ntmps; decide) (by kernel_rfl) trivial (fun cx hcx => ?_)
          exact ret_of (T := T0) hT hm (f := 5000) (orc := [.d false, .d false, .d true, .d true]) [] [] [] hcx
            (obs := [.eq (decide ((a2 : Int) ≤ a0.1)) false, .eq (decide ((a1 : Int) > a0.2.1)) false, .eq (decide ((a1 : Int) > a0.1)) true, .eq (((if (a1 : Int) < a0.1 then a0.1 else a1) : Int) == 0) true]) (by kernel_rfl) ⟨h0, h1, h2, h3, trivial⟩
        | false =>
          cases h4 : (((F53 (if (a1 : Int) < a0.1 then a0.1 else a1) a0.2.2).2 : Int) != 0) with
          | true =>
            have q0 := of_decide_eq_false h0
            have q1 := of_decide_eq_false h1
            have q2 := of_decide_eq_true h2
            have q3 := ne_of_beq_false h3
            have q4 := bne_iff_ne.1 h4
            obtain ⟨u0, hu0⟩ : ∃ u, u = (F53 (if (a1 : Int) < a0.1 then a0.1 else a1) a0.2.2) := ⟨_, rfl⟩
            have e : (F84 a0 a1 a2) = ((0, u0.1.2), u0.2) := by subst hu0; simp only [F84, h0, h1, h2, h3, h4, cond_true, cond_false]
            rw [e]
            refine con_of (n := 9) Tryz.func84 rfl (ent Tryz.func84 (by kernel_rfl) rfl) (by show 3 ≤ Tryz.f84.ntmps; decide) (by kernel_rfl) trivial (fun cx hcx => ?_)
            exact ret_of (T := T0) hT hm (f := 5000) (orc := [.d false, .d false, .d true, .d false, .call [] (.t [(.a [(iv u0.1.1), (iv u0.1.2)]), (iv u0.2)]) [], .d true]) [] [] [] hcx
              (obs := [.eq (decide ((a2 : Int) ≤ a0.1)) false, .eq (decide ((a1 : Int) > a0.2.1)) false, .eq (decide ((a1 : Int) > a0.1)) true, (oC84_0 a0 a1), .call 53 [(iv (if (a1 : Int) < a0.1 then a0.1 else a1)), (iv a0.2.2)] [] (.t [(.a [(iv u0.1.1), (iv u0.1.2)]), (iv u0.2)]) [], .eq ((u0.2 : Int) != 0) true]) (by kernel_rfl) (by subst hu0; exact ⟨h0, h1, h2, h3, (C53 (if (a1 : Int) < a0.1 then a0.1 else a1) a0.2.2), h4, trivial⟩)
          | false =>
            cases h5 : (!(decide ((a2 : Int) ≤ a0.2.1))) with
            | true =>
              have q0 := of_decide_eq_false h0
              have q1 := of_decide_eq_false h1
              have q2 := of_decide_eq_true h2
              have q3 := ne_of_beq_false h3
              have q4 := bne_eq_false_iff_eq.1 h4
              obtain ⟨u0, hu0⟩ : ∃ u, u = (F53 (if (a1 : Int) < a0.1 then a0.1 else a1) a0.2.2) := ⟨_, rfl⟩
              have e : (F84 a0 a1 a2) = ((0, u0.1.2), u0.2) := by subst hu0; simp only [F84, h0, h1, h2, h3, h4, h5, cond_true, cond_false]
              rw [e]
              refine con_of (n := 9) Tryz.func84 rfl (ent Tryz.func84 (by kernel_rfl) rfl) (by show 3 ≤ Tryz.f84.ntmps; decide) (by kernel_rfl) trivial (fun cx hcx => ?_)
              exact ret_of (T := T0) hT hm (f := 5000) (orc := [.d false, .d false, .d true, .d false, .call [] (.t [(.a [(iv u0.1.1), (iv u0.1.2)]), (iv u0.2)]) [], .d false, .d true]) [] [] [] hcx
                (obs := [.eq (decide ((a2 : Int) ≤ a0.1)) false, .eq (decide ((a1 : Int) > a0.2.1)) false, .eq (decide ((a1 : Int) > a0.1)) true, (oC84_0 a0 a1), .call 53 [(iv (if (a1 : Int) < a0.1 then a0.1 else a1)), (iv a0.2.2)] [] (.t [(.a [(iv u0.1.1), (iv u0.1.2)]), (iv u0.2)]) [], .eq ((u0.2 : Int) != 0) false, .eq (!(decide ((a2 : Int) ≤ a0.2.1))) true]) (by kernel_rfl) (by subst hu0; exact ⟨h0, h1, h2, h3, (C53 (if (a1 : Int) < a0.1 then a0.1 else a1) a0.2.2), h4, h5, trivial⟩)
            | false =>
              have q0 := of_decide_eq_false h0
              have q1 := of_decide_eq_false h1
              have q2 := of_decide_eq_true h2
              have q3 := ne_of_beq_false h3
              have q4 := bne_eq_false_iff_eq.1 h4
              obtain ⟨u0, hu0⟩ : ∃ u, u = (F53 (if (a1 : Int) < a0.1 then a0.1 else a1) a0.2.2) := ⟨_, rfl⟩
              obtain ⟨u1, hu1⟩ : ∃ u, u = (F53 a2 a0.2.2) := ⟨_, rfl⟩
              have e : (F84 a0 a1 a2) = ((u1.1.1, u0.1.2), u1.2) := by subst hu1; subst hu0; simp only [F84, h0, h1, h2, h3, h4, h5, cond_true, cond_false]
              rw [e]
              refine con_of (n := 9) Tryz.func84 rfl (ent Tryz.func84 (by kernel_rfl) rfl) (by show 3 ≤ Tryz.f84.ntmps; decide) (by kernel_rfl) trivial (fun cx hcx => ?_)
              exact ret_of (T := T0) hT hm (f := 5000) (orc := [.d false, .d false, .d true, .d false, .call [] (.t [(.a [(iv u0.1.1), (iv u0.1.2)]), (iv u0.2)]) [], .d false, .d false, .call [] (.t [(.a [(iv u1.1.1), (iv u1.1.2)]), (iv u1.2)]) []]) [] [] [] hcx
                (obs := [.eq (decide ((a2 : Int) ≤ a0.1)) false, .eq (decide ((a1 : Int) > a0.2.1)) false, .eq (decide ((a1 : Int) > a0.1)) true, (oC84_0 a0 a1), .call 53 [(iv (if (a1 : Int) < a0.1 then a0.1 else a1)), (iv a0.2.2)] [] (.t [(.a [(iv u0.1.1), (iv u0.1.2)]), (iv u0.2)]) [], .eq ((u0.2 : Int) != 0) false, .eq (!(decide ((a2 : Int) ≤ a0.2.1))) false, .call 53 [(iv a2), (iv a0.2.2)] [] (.t [(.a [(iv u1.1.1), (iv u1.1.2)]), (iv u1.2)]) []]) (by kernel_rfl) (by subst hu1; subst hu0; exact ⟨h0, h1, h2, h3, (C53 (if (a1 : Int) < a0.1 then a0.1 else a1) a0.2.2), h4, h5, (C53 a2 a0.2.2), trivial⟩)
      | false =>
        cases h3 : (((if (a1 : Int) < a0.1 then a0.1 else a1) : Int) == 0) with
        | true =>
          have q0 := of_decide_eq_false h0
          have q1 := of_decide_eq_false h1
          have q2 := of_decide_eq_false h2
          have q3 := eq_of_beq h3
          have e : (F84 a0 a1 a2) = ((0, 0), 10) := by simp only [F84, h0, h1, h2, h3, cond_true, cond_false]
          rw [e]
          refine con_of (n := 9) Tryz.func84 rfl (ent Tryz.func84 (by kernel_rfl) rfl) (by show 3 ≤ Tryz.f84.ntmps; decide) (by kernel_rfl) trivial (fun cx hcx => ?_)
          exact ret_of (T := T0) hT hm (f := 5000) (orc := [.d false, .d false, .d false, .d true]) [] [] [] hcx
            (obs := [.eq (decide ((a2 : Int) ≤ a0.1)) false, .eq (decide ((a1 : Int) > a0.2.1)) false, .eq (decide ((a1 : Int) > a0.1)) false, .eq (((if (a1 : Int) < a0.1 then a0.1 else a1) : Int) == 0) true]) (by kernel_rfl) ⟨h0, h1, h2, h3, trivial⟩
        | false =>
          cases h4 : (((F53 (if (a1 : Int) < a0.1 then a0.1 else a1) a0.2.2).2 : Int) != 0) with
          | true =>
            have q0 := of_decide_eq_false h0
            have q1 := of_decide_eq_false h1
            have q2 := of_decide_eq_false h2
            have q3 := ne_of_beq_false h3
            have q4 := bne_iff_ne.1 h4
            obtain ⟨u0, hu0⟩ : ∃ u, u = (F53 (if (a1 : Int) < a0.1 then a0.1 else a1) a0.2.2) := ⟨_, rfl⟩
            have e : (F84 a0 a1 a2) = ((0, u0.1.2), u0.2) := by subst hu0; simp only [F84, h0, h1, h2, h3, h4, cond_true, cond_false]
            rw [e]
            refine con_of (n := 9) Tryz.func84 rfl (ent Tryz.func84 (by kernel_rfl) rfl) (by show 3 ≤ Tryz.f84.ntmps; decide) (by kernel_rfl) trivial (fun cx hcx => ?_)
            exact ret_of (T := T0) hT hm (f := 5000) (orc := [.d false, .d false, .d false, .d false, .call [] (.t [(.a [(iv u0.1.1), (iv u0.1.2)]), (iv u0.2)]) [], .d true]) [] [] [] hcx
              (obs := [.eq (decide ((a2 : Int) ≤ a0.1)) false, .eq (decide ((a1 : Int) > a0.2.1)) false, .eq (decide ((a1 : Int) > a0.1)) false, (oC84_0 a0 a1), .call 53 [(iv (if (a1 : Int) < a0.1 then a0.1 else a1)), (iv a0.2.2)] [] (.t [(.a [(iv u0.1.1), (iv u0.1.2)]), (iv u0.2)]) [], .eq ((u0.2 : Int) != 0) true]) (by kernel_rfl) (by subst hu0; exact ⟨h0, h1, h2, h3, (C53 (if (a1 : Int) < a0.1 then a0.1 else a1) a0.2.2), h4, trivial⟩)
          | false =>
            have q0 := of_decide_eq_false h0
            have q1 := of_decide_eq_false h1
            have q2 := of_decide_eq_false h2
            have q3 := ne_of_beq_false h3
            have q4 := bne_eq_false_iff_eq.1 h4
            obtain ⟨u0, hu0⟩ : ∃ u, u = (F53 (if (a1 : Int) < a0.1 then a0.1 else a1) a0.2.2) := ⟨_, rfl⟩
            have e : (F84 a0 a1 a2) = ((0, u0.1.2), u0.2) := by subst hu0; simp only [F84, h0, h1, h2, h3, h4, cond_true, cond_false]
            rw [e]
            refine con_of (n := 9) Tryz.func84 rfl (ent Tryz.func84 (by kernel_rfl) rfl) (by show 3 ≤ Tryz.f84.ntmps; decide) (by kernel_rfl) trivial (fun cx hcx => ?_)
            exact ret_of (T := T0) hT hm (f := 5000) (orc := [.d false, .d false, .d false, .d false, .call [] (.t [(.a [(iv u0.1.1), (iv u0.1.2)]), (iv u0.2)]) [], .d false]) [] [] [] hcx
              (obs := [.eq (decide ((a2 : Int) ≤ a0.1)) false, .eq (decide ((a1 : Int) > a0.2.1)) false, .eq (decide ((a1 : Int) > a0.1)) false, (oC84_0 a0 a1), .call 53 [(iv (if (a1 : Int) < a0.1 then a0.1 else a1)), (iv a0.2.2)] [] (.t [(.a [(iv u0.1.1), (iv u0.1.2)]), (iv u0.2)]) [], .eq ((u0.2 : Int) != 0) false]) (by kernel_rfl) (by subst hu0; exact ⟨h0, h1, h2, h3, (C53 (if (a1 : Int) < a0.1 then a0.1 else a1) a0.2.2), h4, trivial⟩)

end Go.Proofs.YtcnnmgooolnebaaGreat

namespace Go.Proofs.YtcnnmgooolnebaaGreat
open Go.Proofs Go.Aw Go.RowKit
set_option maxRecDepth 100000
set_option linter.unusedVariables false
set_option linter.unusedSimpArgs false

theorem ist_p {n : Int} (h : F30 n = true) : 0 ≤ n ∧ n ≤ 2000 := by
  unfold F30 at h; rw [sfrom_eq] at h; simpa using h
theorem isd_p {n : Int} (h : F26 n = true) : 0 ≤ n ∧ n ≤ 3 := by
  unfold F26 at h; rw [sfrom_eq] at h; simpa using h
theorem sp_len (p : PN) (d : Int) : (F83 p d).1.length ≤ 64 := by
  rw [parts_f]
  split
  · split
    · rename_i h
      simp only [cutL_len]
      have : Int.toNat d = 0 ∨ Int.toNat d = 1 ∨ Int.toNat d = 2 ∨ Int.toNat d = 3 := by omega
      rcases this with e | e | e | e <;> rw [e] <;> decide
    · simp
  · simp
noncomputable def B55_0 : Code := (loopAtD [1, 1, 1, 1, 1, 1, 1, 1, 1, 0, 1] [] (bodyOf Tryz.f55) []).1
noncomputable def K55_0 : List K := (loopAtD [1, 1, 1, 1, 1, 1, 1, 1, 1, 0, 1] [] (bodyOf Tryz.f55) []).2

def st55_0 (a0 : ((Int × Int × Int) × (Int × Int × Int) × Int × Int × Int) × Int × Int) (a1 : Int × Int × Int) (a2 : Int) (a3 : Int) (a4 : Int) (v2c : List SV) (v2n : Nat) (v3 : Int) : LS := ⟨slN 117 [(5, (.p 0 0)), (10, (.p 1 0)), (13, (.s 2 0 (F83 a0.1 a4).1.length 9)), (16, (.p 3 0)), (17, (.p 4 0)), (18, (.s 5 0 v2n 2)), (72, (iv (((F83 a0.1 a4).1.length : Nat) : Int))), (73, (iv v3))], [(.live true false [(iv a0.1.1.1), (iv a0.1.1.2.1), (iv a0.1.1.2.2), (iv a0.1.2.1.1), (iv a0.1.2.1.2.1), (iv a0.1.2.1.2.2), (iv a0.1.2.2.1), (iv a0.1.2.2.2.1), (iv a0.1.2.2.2.2), (iv a0.2.1), (iv a0.2.2)]), (.live true false [(iv 0), (iv 0)]), (.live true true (flat c61 (F83 a0.1 a4).1)), (.live true false [(iv (F43 (W ((W ((W (1 * 2 ^ (min (Int.toNat a4) 64))) * a2)) * (W ((W (a3 - a0.2.1)) - 1)))))), (iv (F43 (W ((W ((W (1 * 2 ^ (min (Int.toNat a4) 64))) * a2)) * (W (a3 - a0.2.1)))))), (iv (W (1 * 2 ^ (min (Int.toNat a4) 64))))]), (.live true false [(iv (W ((W (1 * 2 ^ (min (Int.toNat a4) 64))) * a1.1))), (iv (W ((W (1 * 2 ^ (min (Int.toNat a4) 64))) * a1.2.1))), (iv (W ((W (1 * 2 ^ (min (Int.toNat a4) 64))) * a1.2.2)))]), (.live true true v2c)]⟩

def S55_0 (a0 : ((Int × Int × Int) × (Int × Int × Int) × Int × Int × Int) × Int × Int) (a1 : Int × Int × Int) (a2 : Int) (a3 : Int) (a4 : Int) : (List (Int × Int)) × Int → ((List (Int × Int)) × Int) ⊕ ((Int × Int) × Int)
  | (v2, v3) =>
   (bif (decide ((v3 : Int) < (((F83 a0.1 a4).1.length : Nat) : Int))) then
    (bif (((F84 ((F43 (W ((W ((W (1 * 2 ^ (min (Int.toNat a4) 64))) * a2)) * (W ((W (a3 - a0.2.1)) - 1))))), (F43 (W ((W ((W (1 * 2 ^ (min (Int.toNat a4) 64))) * a2)) * (W (a3 - a0.2.1))))), (W (1 * 2 ^ (min (Int.toNat a4) 64)))) (F72 ((F83 a0.1 a4).1.getD (Int.toNat v3) default) ((W ((W (1 * 2 ^ (min (Int.toNat a4) 64))) * a1.1)), (W ((W (1 * 2 ^ (min (Int.toNat a4) 64))) * a1.2.1)), (W ((W (1 * 2 ^ (min (Int.toNat a4) 64))) * a1.2.2)))) (F73 ((F83 a0.1 a4).1.getD (Int.toNat v3) default) ((W ((W (1 * 2 ^ (min (Int.toNat a4) 64))) * a1.1)), (W ((W (1 * 2 ^ (min (Int.toNat a4) 64))) * a1.2.1)), (W ((W (1 * 2 ^ (min (Int.toNat a4) 64))) * a1.2.2))))).2 : Int) != 0) then
     (.inr ((0, 0), (F84 ((F43 (W ((W ((W (1 * 2 ^ (min (Int.toNat a4) 64))) * a2)) * (W ((W (a3 - a0.2.1)) - 1))))), (F43 (W ((W ((W (1 * 2 ^ (min (Int.toNat a4) 64))) * a2)) * (W (a3 - a0.2.1))))), (W (1 * 2 ^ (min (Int.toNat a4) 64)))) (F72 ((F83 a0.1 a4).1.getD (Int.toNat v3) default) ((W ((W (1 * 2 ^ (min (Int.toNat a4) 64))) * a1.1)), (W ((W (1 * 2 ^ (min (Int.toNat a4) 64))) * a1.2.1)), (W ((W (1 * 2 ^ (min (Int.toNat a4) 64))) * a1.2.2)))) (F73 ((F83 a0.1 a4).1.getD (Int.toNat v3) default) ((W ((W (1 * 2 ^ (min (Int.toNat a4) 64))) * a1.1)), (W ((W (1 * 2 ^ (min (Int.toNat a4) 64))) * a1.2.1)), (W ((W (1 * 2 ^ (min (Int.toNat a4) 64))) * a1.2.2))))).2))
    else
     (.inl ((v2 ++ [(F84 ((F43 (W ((W ((W (1 * 2 ^ (min (Int.toNat a4) 64))) * a2)) * (W ((W (a3 - a0.2.1)) - 1))))), (F43 (W ((W ((W (1 * 2 ^ (min (Int.toNat a4) 64))) * a2)) * (W (a3 - a0.2.1))))), (W (1 * 2 ^ (min (Int.toNat a4) 64)))) (F72 ((F83 a0.1 a4).1.getD (Int.toNat v3) default) ((W ((W (1 * 2 ^ (min (Int.toNat a4) 64))) * a1.1)), (W ((W (1 * 2 ^ (min (Int.toNat a4) 64))) * a1.2.1)), (W ((W (1 * 2 ^ (min (Int.toNat a4) 64))) * a1.2.2)))) (F73 ((F83 a0.1 a4).1.getD (Int.toNat v3) default) ((W ((W (1 * 2 ^ (min (Int.toNat a4) 64))) * a1.1)), (W ((W (1 * 2 ^ (min (Int.toNat a4) 64))) * a1.2.1)), (W ((W (1 * 2 ^ (min (Int.toNat a4) 64))) * a1.2.2))))).1]), (v3 + 1))))
   else
    (bif (((F85_L v2).2 : Int) != 0) then
     (.inr ((0, 0), (F85_L v2).2))
    else
     (.inr ((F23 (F85_L v2).1 a0.2.2).1, (F23 (F85_L v2).1 a0.2.2).2))))

set_option maxHeartbeats 4000000 in
theorem L55_0 (a0 : ((Int × Int × Int) × (Int × Int × Int) × Int × Int × Int) × Int × Int) (a1 : Int × Int × Int) (a2 : Int) (a3 : Int) (a4 : Int) (hp : POK a0) (hx : bd 256 a1) (hs : 1 ≤ a2 ∧ a2 ≤ 16) (ht : 0 ≤ a3 ∧ a3 ≤ 2000) (hd : 0 ≤ a4 ∧ a4 ≤ 3) {cx : Cx} (hcx : cx.base = 0) : ∀ (n : Nat) (v2 : List (Int × Int)) (v3 : Int), (0 ≤ v3) ∧ (v2.length = Int.toNat v3) ∧ (v3 ≤ (F83 a0.1 a4).1.length) → Int.toNat ((((F83 a0.1 a4).1.length : Nat) : Int) - v3) < n → Aw.Good Tryz.prog none 9 (bodyPost Tryz.prog Tryz.f55 (RR cx (.t [(.a (k2 (loopF (S55_0 a0 a1 a2 a3 a4) n (v2, v3)).1)), (iv (loopF (S55_0 a0 a1 a2 a3 a4) n (v2, v3)).2)]) [] [])) cx [] (.l B55_0 n :: K55_0) (st55_0 a0 a1 a2 a3 a4 (flat c34 v2) v2.length v3) := by
  intro n
  induction n with
  | zero => intro v2 v3 hi hn; exact absurd hn (Nat.not_lt_zero _)
  | succ n ih =>
    intro v2 v3 hi hn
    refine good_round ?_
    have hpl := sp_len a0.1 a4
    cases h0 : (decide ((v3 : Int) < (((F83 a0.1 a4).1.length : Nat) : Int))) with
    | true =>
     have q0 := of_decide_eq_true h0
     let t1 : List (St Tryz.prog) := [.d h0, .i v3 ((F83 a0.1 a4).1.length), .L c61_len (F83 a0.1 a4).1 v3 0 9, .c [] (C72 ((F83 a0.1 a4).1.getD (Int.toNat v3) default) ((W ((W (1 * 2 ^ (min (Int.toNat a4) 64))) * a1.1)), (W ((W (1 * 2 ^ (min (Int.toNat a4) 64))) * a1.2.1)), (W ((W (1 * 2 ^ (min (Int.toNat a4) 64))) * a1.2.2)))), .i v3 ((F83 a0.1 a4).1.length), .L c61_len (F83 a0.1 a4).1 v3 0 9, .c [] (C73 ((F83 a0.1 a4).1.getD (Int.toNat v3) default) ((W ((W (1 * 2 ^ (min (Int.toNat a4) 64))) * a1.1)), (W ((W (1 * 2 ^ (min (Int.toNat a4) 64))) * a1.2.1)), (W ((W (1 * 2 ^ (min (Int.toNat a4) 64))) * a1.2.2)))), .c [] (C84 ((F43 (W ((W ((W (1 * 2 ^ (min (Int.toNat a4) 64))) * a2)) * (W ((W (a3 - a0.2.1)) - 1))))), (F43 (W ((W ((W (1 * 2 ^ (min (Int.toNat a4) 64))) * a2)) * (W (a3 - a0.2.1))))), (W (1 * 2 ^ (min (Int.toNat a4) 64)))) (F72 ((F83 a0.1 a4).1.getD (Int.toNat v3) default) ((W ((W (1 * 2 ^ (min (Int.toNat a4) 64))) * a1.1)), (W ((W (1 * 2 ^ (min (Int.toNat a4) 64))) * a1.2.1)), (W ((W (1 * 2 ^ (min (Int.toNat a4) 64))) * a1.2.2)))) (F73 ((F83 a0.1 a4).1.getD (Int.toNat v3) default) ((W ((W (1 * 2 ^ (min (Int.toNat a4) 64))) * a1.1)), (W ((W (1 * 2 ^ (min (Int.toNat a4) 64))) * a1.2.1)), (W ((W (1 * 2 ^ (min (Int.toNat a4) 64))) * a1.2.2)))))]
     cases h1 : (((F84 ((F43 (W ((W ((W (1 * 2 ^ (min (Int.toNat a4) 64))) * a2)) * (W ((W (a3 - a0.2.1)) - 1))))), (F43 (W ((W ((W (1 * 2 ^ (min (Int.toNat a4) 64))) * a2)) * (W (a3 - a0.2.1))))), (W (1 * 2 ^ (min (Int.toNat a4) 64)))) (F72 ((F83 a0.1 a4).1.getD (Int.toNat v3) default) ((W ((W (1 * 2 ^ (min (Int.toNat a4) 64))) * a1.1)), (W ((W (1 * 2 ^ (min (Int.toNat a4) 64))) * a1.2.1)), (W ((W (1 * 2 ^ (min (Int.toNat a4) 64))) * a1.2.2)))) (F73 ((F83 a0.1 a4).1.getD (Int.toNat v3) default) ((W ((W (1 * 2 ^ (min (Int.toNat a4) 64))) * a1.1)), (W ((W (1 * 2 ^ (min (Int.toNat a4) 64))) * a1.2.1)), (W ((W (1 * 2 ^ (min (Int.toNat a4) 64))) * a1.2.2))))).2 : Int) != 0) with
     | true =>
      have q1 := bne_iff_ne.1 h1
      have e := Eq.refl (S55_0 a0 a1 a2 a3 a4 (v2, v3)); conv at e => rhs; simp only [S55_0, h0, h1, cond_true, cond_false]
      rw [loopF_s, e]
      exact rt (t1 ++ [.d h1]) [] [] hcx (by kernel_rfl)
     | false =>
      have q1 := bne_eq_false_iff_eq.1 h1
      have e := Eq.refl (S55_0 a0 a1 a2 a3 a4 (v2, v3)); conv at e => rhs; simp only [S55_0, h0, h1, cond_true, cond_false]
      rw [loopF_inl e]
      refine ba (t1 ++ [.d h1, .p (show ((flat c34 v2).length = v2.length * 2 ∧ v2.length + 1 ≤ 2 ^ 40 ∧ (v2.length + 1) * 16 ≤ 2 ^ 47) from app_ok c34_len (by omega) (by omega))]) [] [5, 10, 13, 16, 17, 18, 72, 73] [0, 1, 2, 3, 4, 8] hcx (m := n) B55_0 (K55_0) (st55_0 a0 a1 a2 a3 a4 (flat c34 v2 ++ [(iv (F84 ((F43 (W ((W ((W (1 * 2 ^ (min (Int.toNat a4) 64))) * a2)) * (W ((W (a3 - a0.2.1)) - 1))))), (F43 (W ((W ((W (1 * 2 ^ (min (Int.toNat a4) 64))) * a2)) * (W (a3 - a0.2.1))))), (W (1 * 2 ^ (min (Int.toNat a4) 64)))) (F72 ((F83 a0.1 a4).1.getD (Int.toNat v3) default) ((W ((W (1 * 2 ^ (min (Int.toNat a4) 64))) * a1.1)), (W ((W (1 * 2 ^ (min (Int.toNat a4) 64))) * a1.2.1)), (W ((W (1 * 2 ^ (min (Int.toNat a4) 64))) * a1.2.2)))) (F73 ((F83 a0.1 a4).1.getD (Int.toNat v3) default) ((W ((W (1 * 2 ^ (min (Int.toNat a4) 64))) * a1.1)), (W ((W (1 * 2 ^ (min (Int.toNat a4) 64))) * a1.2.1)), (W ((W (1 * 2 ^ (min (Int.toNat a4) 64))) * a1.2.2))))).1.1), (iv (F84 ((F43 (W ((W ((W (1 * 2 ^ (min (Int.toNat a4) 64))) * a2)) * (W ((W (a3 - a0.2.1)) - 1))))), (F43 (W ((W ((W (1 * 2 ^ (min (Int.toNat a4) 64))) * a2)) * (W (a3 - a0.2.1))))), (W (1 * 2 ^ (min (Int.toNat a4) 64)))) (F72 ((F83 a0.1 a4).1.getD (Int.toNat v3) default) ((W ((W (1 * 2 ^ (min (Int.toNat a4) 64))) * a1.1)), (W ((W (1 * 2 ^ (min (Int.toNat a4) 64))) * a1.2.1)), (W ((W (1 * 2 ^ (min (Int.toNat a4) 64))) * a1.2.2)))) (F73 ((F83 a0.1 a4).1.getD (Int.toNat v3) default) ((W ((W (1 * 2 ^ (min (Int.toNat a4) 64))) * a1.1)), (W ((W (1 * 2 ^ (min (Int.toNat a4) 64))) * a1.2.1)), (W ((W (1 * 2 ^ (min (Int.toNat a4) 64))) * a1.2.2))))).1.2)]) (v2.length + 1) (W (v3 + 1))) (by kernel_rfl) ?_
      have z0 : (W (v3 + 1)) = (v3 + 1) := W_eq (by omega) (by omega)
      have z1 : (flat c34 v2 ++ [(iv (F84 ((F43 (W ((W ((W (1 * 2 ^ (min (Int.toNat a4) 64))) * a2)) * (W ((W (a3 - a0.2.1)) - 1))))), (F43 (W ((W ((W (1 * 2 ^ (min (Int.toNat a4) 64))) * a2)) * (W (a3 - a0.2.1))))), (W (1 * 2 ^ (min (Int.toNat a4) 64)))) (F72 ((F83 a0.1 a4).1.getD (Int.toNat v3) default) ((W ((W (1 * 2 ^ (min (Int.toNat a4) 64))) * a1.1)), (W ((W (1 * 2 ^ (min (Int.toNat a4) 64))) * a1.2.1)), (W ((W (1 * 2 ^ (min (Int.toNat a4) 64))) * a1.2.2)))) (F73 ((F83 a0.1 a4).1.getD (Int.toNat v3) default) ((W ((W (1 * 2 ^ (min (Int.toNat a4) 64))) * a1.1)), (W ((W (1 * 2 ^ (min (Int.toNat a4) 64))) * a1.2.1)), (W ((W (1 * 2 ^ (min (Int.toNat a4) 64))) * a1.2.2))))).1.1), (iv (F84 ((F43 (W ((W ((W (1 * 2 ^ (min (Int.toNat a4) 64))) * a2)) * (W ((W (a3 - a0.2.1)) - 1))))), (F43 (W ((W ((W (1 * 2 ^ (min (Int.toNat a4) 64))) * a2)) * (W (a3 - a0.2.1))))), (W (1 * 2 ^ (min (Int.toNat a4) 64)))) (F72 ((F83 a0.1 a4).1.getD (Int.toNat v3) default) ((W ((W (1 * 2 ^ (min (Int.toNat a4) 64))) * a1.1)), (W ((W (1 * 2 ^ (min (Int.toNat a4) 64))) * a1.2.1)), (W ((W (1 * 2 ^ (min (Int.toNat a4) 64))) * a1.2.2)))) (F73 ((F83 a0.1 a4).1.getD (Int.toNat v3) default) ((W ((W (1 * 2 ^ (min (Int.toNat a4) 64))) * a1.1)), (W ((W (1 * 2 ^ (min (Int.toNat a4) 64))) * a1.2.1)), (W ((W (1 * 2 ^ (min (Int.toNat a4) 64))) * a1.2.2))))).1.2)]) = (flat c34 (v2 ++ [(F84 ((F43 (W ((W ((W (1 * 2 ^ (min (Int.toNat a4) 64))) * a2)) * (W ((W (a3 - a0.2.1)) - 1))))), (F43 (W ((W ((W (1 * 2 ^ (min (Int.toNat a4) 64))) * a2)) * (W (a3 - a0.2.1))))), (W (1 * 2 ^ (min (Int.toNat a4) 64)))) (F72 ((F83 a0.1 a4).1.getD (Int.toNat v3) default) ((W ((W (1 * 2 ^ (min (Int.toNat a4) 64))) * a1.1)), (W ((W (1 * 2 ^ (min (Int.toNat a4) 64))) * a1.2.1)), (W ((W (1 * 2 ^ (min (Int.toNat a4) 64))) * a1.2.2)))) (F73 ((F83 a0.1 a4).1.getD (Int.toNat v3) default) ((W ((W (1 * 2 ^ (min (Int.toNat a4) 64))) * a1.1)), (W ((W (1 * 2 ^ (min (Int.toNat a4) 64))) * a1.2.1)), (W ((W (1 * 2 ^ (min (Int.toNat a4) 64))) * a1.2.2))))).1])) := (flat_append (c := c34) (l := v2) (m := [(F84 ((F43 (W ((W ((W (1 * 2 ^ (min (Int.toNat a4) 64))) * a2)) * (W ((W (a3 - a0.2.1)) - 1))))), (F43 (W ((W ((W (1 * 2 ^ (min (Int.toNat a4) 64))) * a2)) * (W (a3 - a0.2.1))))), (W (1 * 2 ^ (min (Int.toNat a4) 64)))) (F72 ((F83 a0.1 a4).1.getD (Int.toNat v3) default) ((W ((W (1 * 2 ^ (min (Int.toNat a4) 64))) * a1.1)), (W ((W (1 * 2 ^ (min (Int.toNat a4) 64))) * a1.2.1)), (W ((W (1 * 2 ^ (min (Int.toNat a4) 64))) * a1.2.2)))) (F73 ((F83 a0.1 a4).1.getD (Int.toNat v3) default) ((W ((W (1 * 2 ^ (min (Int.toNat a4) 64))) * a1.1)), (W ((W (1 * 2 ^ (min (Int.toNat a4) 64))) * a1.2.1)), (W ((W (1 * 2 ^ (min (Int.toNat a4) 64))) * a1.2.2))))).1])).symm
      have z2 : (v2.length + 1) = (v2 ++ [(F84 ((F43 (W ((W ((W (1 * 2 ^ (min (Int.toNat a4) 64))) * a2)) * (W ((W (a3 - a0.2.1)) - 1))))), (F43 (W ((W ((W (1 * 2 ^ (min (Int.toNat a4) 64))) * a2)) * (W (a3 - a0.2.1))))), (W (1 * 2 ^ (min (Int.toNat a4) 64)))) (F72 ((F83 a0.1 a4).1.getD (Int.toNat v3) default) ((W ((W (1 * 2 ^ (min (Int.toNat a4) 64))) * a1.1)), (W ((W (1 * 2 ^ (min (Int.toNat a4) 64))) * a1.2.1)), (W ((W (1 * 2 ^ (min (Int.toNat a4) 64))) * a1.2.2)))) (F73 ((F83 a0.1 a4).1.getD (Int.toNat v3) default) ((W ((W (1 * 2 ^ (min (Int.toNat a4) 64))) * a1.1)), (W ((W (1 * 2 ^ (min (Int.toNat a4) 64))) * a1.2.1)), (W ((W (1 * 2 ^ (min (Int.toNat a4) 64))) * a1.2.2))))).1]).length := len_app v2 [(F84 ((F43 (W ((W ((W (1 * 2 ^ (min (Int.toNat a4) 64))) * a2)) * (W ((W (a3 - a0.2.1)) - 1))))), (F43 (W ((W ((W (1 * 2 ^ (min (Int.toNat a4) 64))) * a2)) * (W (a3 - a0.2.1))))), (W (1 * 2 ^ (min (Int.toNat a4) 64)))) (F72 ((F83 a0.1 a4).1.getD (Int.toNat v3) default) ((W ((W (1 * 2 ^ (min (Int.toNat a4) 64))) * a1.1)), (W ((W (1 * 2 ^ (min (Int.toNat a4) 64))) * a1.2.1)), (W ((W (1 * 2 ^ (min (Int.toNat a4) 64))) * a1.2.2)))) (F73 ((F83 a0.1 a4).1.getD (Int.toNat v3) default) ((W ((W (1 * 2 ^ (min (Int.toNat a4) 64))) * a1.1)), (W ((W (1 * 2 ^ (min (Int.toNat a4) 64))) * a1.2.1)), (W ((W (1 * 2 ^ (min (Int.toNat a4) 64))) * a1.2.2))))).1] rfl
      rw [z0, z1, z2]
      exact ih (v2 ++ [(F84 ((F43 (W ((W ((W (1 * 2 ^ (min (Int.toNat a4) 64))) * a2)) * (W ((W (a3 - a0.2.1)) - 1))))), (F43 (W ((W ((W (1 * 2 ^ (min (Int.toNat a4) 64))) * a2)) * (W (a3 - a0.2.1))))), (W (1 * 2 ^ (min (Int.toNat a4) 64)))) (F72 ((F83 a0.1 a4).1.getD (Int.toNat v3) default) ((W ((W (1 * 2 ^ (min (Int.toNat a4) 64))) * a1.1)), (W ((W (1 * 2 ^ (min (Int.toNat a4) 64))) * a1.2.1)), (W ((W (1 * 2 ^ (min (Int.toNat a4) 64))) * a1.2.2)))) (F73 ((F83 a0.1 a4).1.getD (Int.toNat v3) default) ((W ((W (1 * 2 ^ (min (Int.toNat a4) 64))) * a1.1)), (W ((W (1 * 2 ^ (min (Int.toNat a4) 64))) * a1.2.1)), (W ((W (1 * 2 ^ (min (Int.toNat a4) 64))) * a1.2.2))))).1]) (v3 + 1) (by refine ⟨?_, ?_, ?_⟩ <;> (try simp only [List.length_append, List.length_cons, List.length_nil, Int.toNat_zero]) <;> first | omega | assumption | simp) (by (try simp only [List.length_append, List.length_cons, List.length_nil, Int.toNat_zero]); omega)
    | false =>
     have q0 := of_decide_eq_false h0
     let t1 : List (St Tryz.prog) := [.d h0, .c [5] (C85_L v2 (by (try simp only [List.length_append, List.length_cons, List.length_nil, Int.toNat_zero]); omega))]
     cases h1 : (((F85_L v2).2 : Int) != 0) with
     | true =>
      have q1 := bne_iff_ne.1 h1
      have e := Eq.refl (S55_0 a0 a1 a2 a3 a4 (v2, v3)); conv at e => rhs; simp only [S55_0, h0, h1, cond_true, cond_false]
      rw [loopF_s, e]
      exact rt (t1 ++ [.d h1]) [] [] hcx (by kernel_rfl)
     | false =>
      have q1 := bne_eq_false_iff_eq.1 h1
      have e := Eq.refl (S55_0 a0 a1 a2 a3 a4 (v2, v3)); conv at e => rhs; simp only [S55_0, h0, h1, cond_true, cond_false]
      rw [loopF_s, e]
      exact rt (t1 ++ [.d h1, .c [] (C23 (F85_L v2).1 a0.2.2)]) [] [] hcx (by kernel_rfl)

def F55 (a0 : ((Int × Int × Int) × (Int × Int × Int) × Int × Int × Int) × Int × Int) (a1 : Int × Int × Int) (a2 : Int) (a3 : Int) (a4 : Int) : (Int × Int) × Int :=
  (bif (decide (((W (a3 - a0.2.1)) : Int) < 1)) then
   ((0, 0), 0)
  else
   (bif (((F83 a0.1 a4).2 : Int) != 0) then
    ((0, 0), (F83 a0.1 a4).2)
   else
    (loopF (S55_0 a0 a1 a2 a3 a4) (Int.toNat ((((F83 a0.1 a4).1.length : Nat) : Int) - 0) + 1) (([] : List (Int × Int)), 0))))

theorem C55 (a0 : ((Int × Int × Int) × (Int × Int × Int) × Int × Int × Int) × Int × Int) (a1 : Int × Int × Int) (a2 : Int) (a3 : Int) (a4 : Int) (hp : POK a0) (hx : bd 256 a1) (hs : 1 ≤ a2 ∧ a2 ≤ 16) (ht : 0 ≤ a3 ∧ a3 ≤ 2000) (hd : 0 ≤ a4 ∧ a4 ≤ 3) : Con Tryz.prog 55 [(.a [(iv a0.1.1.1), (iv a0.1.1.2.1), (iv a0.1.1.2.2), (iv a0.1.2.1.1), (iv a0.1.2.1.2.1), (iv a0.1.2.1.2.2), (iv a0.1.2.2.1), (iv a0.1.2.2.2.1), (iv a0.1.2.2.2.2), (iv a0.2.1), (iv a0.2.2)]), (.a (k3 a1)), (iv a2), (iv a3), (iv a4)] [] (.t [(.a (k2 (F55 a0 a1 a2 a3 a4).1)), (iv (F55 a0 a1 a2 a3 a4).2)]) [] := by
  refine con_s Tryz.func55 (by kernel_rfl) fun cx hcx => ?_
  cases h0 : (decide (((W (a3 - a0.2.1)) : Int) < 1)) with
  | true =>
   have q0 := of_decide_eq_true h0
   have e := Eq.refl (F55 a0 a1 a2 a3 a4); conv at e => rhs; simp only [F55, h0, cond_true, cond_false]
   rw [e]
   exact rt [.d h0] [] [] hcx (by kernel_rfl)
  | false =>
   have q0 := of_decide_eq_false h0
   let t1 : List (St Tryz.prog) := [.d h0, .c [] (C83 a0.1 a4)]
   cases h1 : (((F83 a0.1 a4).2 : Int) != 0) with
   | true =>
    have q1 := bne_iff_ne.1 h1
    have e := Eq.refl (F55 a0 a1 a2 a3 a4); conv at e => rhs; simp only [F55, h0, h1, cond_true, cond_false]
    rw [e]
    exact rt (t1 ++ [.d h1]) [] [] hcx (by kernel_rfl)
   | false =>
    have q1 := bne_eq_false_iff_eq.1 h1
    have e := Eq.refl (F55 a0 a1 a2 a3 a4); conv at e => rhs; simp only [F55, h0, h1, cond_true, cond_false]
    rw [e]
    refine en (t1 ++ [.d h1, .p (show 0 ≤ (a4 : Int) from by first | omega | (rw [W_eq] <;> omega) | exact u64_nn _), .c [] (C43 (W ((W ((W (1 * 2 ^ (min (Int.toNat a4) 64))) * a2)) * (W ((W (a3 - a0.2.1)) - 1))))), .c [] (C43 (W ((W ((W (1 * 2 ^ (min (Int.toNat a4) 64))) * a2)) * (W (a3 - a0.2.1)))))]) [.slot 18 2] [5, 10, 13, 16, 17, 18, 72, 73] [0, 2, 3, 4, 5, 6] hcx B55_0 (K55_0) (st55_0 a0 a1 a2 a3 a4 (flat c34 ([] : List (Int × Int))) 0 0) (Int.toNat ((((F83 a0.1 a4).1.length : Nat) : Int) - 0) + 1) (by kernel_rfl) ?_
    exact L55_0 a0 a1 a2 a3 a4 hp hx hs ht hd hcx (Int.toNat ((((F83 a0.1 a4).1.length : Nat) : Int) - 0) + 1) ([] : List (Int × Int)) 0 (by refine ⟨?_, ?_, ?_⟩ <;> (try simp only [List.length_append, List.length_cons, List.length_nil, Int.toNat_zero]) <;> first | omega | assumption | simp) (by (try simp only [List.length_append, List.length_cons, List.length_nil, Int.toNat_zero]); omega)

def F37 (a0 : ((Int × Int × Int) × (Int × Int × Int) × Int × Int × Int) × Int × Int) (a1 : Int × Int × Int) (a2 : Int) (a3 : Int) (a4 : Int) : (Int × Int) × Int :=
  (bif (F18 a1) then
   (bif (F19 a2) then
    (bif (F30 a3) then
     (bif (((F24_1 a0 (F26 a4)) : Int) != 0) then
      ((0, 0), (F24_1 a0 (F26 a4)))
     else
      ((F55 a0 a1 a2 a3 a4).1, (F55 a0 a1 a2 a3 a4).2))
    else
     (bif (((F24_1 a0 false) : Int) != 0) then
      ((0, 0), (F24_1 a0 false))
     else
      ((F55 a0 a1 a2 a3 a4).1, (F55 a0 a1 a2 a3 a4).2)))
   else
    (bif (((F24_1 a0 false) : Int) != 0) then
     ((0, 0), (F24_1 a0 false))
    else
     ((F55 a0 a1 a2 a3 a4).1, (F55 a0 a1 a2 a3 a4).2)))
  else
   (bif (((F24_1 a0 false) : Int) != 0) then
    ((0, 0), (F24_1 a0 false))
   else
    ((F55 a0 a1 a2 a3 a4).1, (F55 a0 a1 a2 a3 a4).2)))

theorem C37 (a0 : ((Int × Int × Int) × (Int × Int × Int) × Int × Int × Int) × Int × Int) (a1 : Int × Int × Int) (a2 : Int) (a3 : Int) (a4 : Int) : Con Tryz.prog 37 [(.a [(iv a0.1.1.1), (iv a0.1.1.2.1), (iv a0.1.1.2.2), (iv a0.1.2.1.1), (iv a0.1.2.1.2.1), (iv a0.1.2.1.2.2), (iv a0.1.2.2.1), (iv a0.1.2.2.2.1), (iv a0.1.2.2.2.2), (iv a0.2.1), (iv a0.2.2)]), (.a (k3 a1)), (iv a2), (iv a3), (iv a4)] [] (.t [(.a (k2 (F37 a0 a1 a2 a3 a4).1)), (iv (F37 a0 a1 a2 a3 a4).2)]) [] := by
  refine con_s Tryz.func37 (by kernel_rfl) fun cx hcx => ?_
  let t0 : List (St Tryz.prog) := [.c [] (C18 a1)]
  cases h0 : (F18 a1) with
  | true =>
   let t1 : List (St Tryz.prog) := (t0 ++ [.d h0, .c [] (C19 a2)])
   cases h1 : (F19 a2) with
   | true =>
    let t2 : List (St Tryz.prog) := (t1 ++ [.d h1, .c [] (C30 a3)])
    cases h2 : (F30 a3) with
    | true =>
     let t3 : List (St Tryz.prog) := (t2 ++ [.d h2, .c [] (C26 a4), .c [3] (C24_1 a0 (F26 a4))])
     cases h3 : (((F24_1 a0 (F26 a4)) : Int) != 0) with
     | true =>
      have q3 := bne_iff_ne.1 h3
      have e := Eq.refl (F37 a0 a1 a2 a3 a4); conv at e => rhs; simp only [F37, h0, h1, h2, h3, cond_true, cond_false]
      rw [e]
      exact rt (t3 ++ [.d h3]) [] [] hcx (by kernel_rfl)
     | false =>
      have q3 := bne_eq_false_iff_eq.1 h3
      have e := Eq.refl (F37 a0 a1 a2 a3 a4); conv at e => rhs; simp only [F37, h0, h1, h2, h3, cond_true, cond_false]
      rw [e]
      exact rt (t3 ++ [.d h3, .c [] (C55 a0 a1 a2 a3 a4  (by first | exact ckb_p h1 | exact ckb_p h2 | exact ckb_p h3) (by first | exact isp_p h0 | exact absurd (ckb_b h1) (by decide) | exact absurd (ckb_b h2) (by decide) | exact absurd (ckb_b h3) (by decide)) (by first | exact iss_p h1 | exact absurd (ckb_b h1) (by decide) | exact absurd (ckb_b h2) (by decide) | exact absurd (ckb_b h3) (by decide)) (by first | exact ist_p h2 | exact absurd (ckb_b h1) (by decide) | exact absurd (ckb_b h2) (by decide) | exact absurd (ckb_b h3) (by decide)) (by first | exact isd_p (ckb_b h3) | exact absurd (ckb_b h1) (by decide) | exact absurd (ckb_b h2) (by decide) | exact absurd (ckb_b h3) (by decide)))]) [] [] hcx (by kernel_rfl)
    | false =>
     let t3 : List (St Tryz.prog) := (t2 ++ [.d h2, .c [3] (C24_1 a0 false)])
     cases h3 : (((F24_1 a0 false) : Int) != 0) with
     | true =>
      have q3 := bne_iff_ne.1 h3
      have e := Eq.refl (F37 a0 a1 a2 a3 a4); conv at e => rhs; simp only [F37, h0, h1, h2, h3, cond_true, cond_false]
      rw [e]
      exact rt (t3 ++ [.d h3]) [] [] hcx (by kernel_rfl)
     | false =>
      have q3 := bne_eq_false_iff_eq.1 h3
      have e := Eq.refl (F37 a0 a1 a2 a3 a4); conv at e => rhs; simp only [F37, h0, h1, h2, h3, cond_true, cond_false]
      rw [e]
      exact rt (t3 ++ [.d h3, .c [] (C55 a0 a1 a2 a3 a4  (by first | exact ckb_p h1 | exact ckb_p h2 | exact ckb_p h3) (by first | exact isp_p h0 | exact absurd (ckb_b h1) (by decide) | exact absurd (ckb_b h2) (by decide) | exact absurd (ckb_b h3) (by decide)) (by first | exact iss_p h1 | exact absurd (ckb_b h1) (by decide) | exact absurd (ckb_b h2) (by decide) | exact absurd (ckb_b h3) (by decide)) (by first | exact ist_p h2 | exact absurd (ckb_b h1) (by decide) | exact absurd (ckb_b h2) (by decide) | exact absurd (ckb_b h3) (by decide)) (by first | exact isd_p (ckb_b h3) | exact absurd (ckb_b h1) (by decide) | exact absurd (ckb_b h2) (by decide) | exact absurd (ckb_b h3) (by decide)))]) [] [] hcx (by kernel_rfl)
   | false =>
    let t2 : List (St Tryz.prog) := (t1 ++ [.d h1, .c [3] (C24_1 a0 false)])
    cases h2 : (((F24_1 a0 false) : Int) != 0) with
    | true =>
     have q2 := bne_iff_ne.1 h2
     have e := Eq.refl (F37 a0 a1 a2 a3 a4); conv at e => rhs; simp only [F37, h0, h1, h2, cond_true, cond_false]
     rw [e]
     exact rt (t2 ++ [.d h2]) [] [] hcx (by kernel_rfl)
    | false =>
     have q2 := bne_eq_false_iff_eq.1 h2
     have e := Eq.refl (F37 a0 a1 a2 a3 a4); conv at e => rhs; simp only [F37, h0, h1, h2, cond_true, cond_false]
     rw [e]
     exact rt (t2 ++ [.d h2, .c [] (C55 a0 a1 a2 a3 a4  (by first | exact ckb_p h1 | exact ckb_p h2 | exact ckb_p h3) (by first | exact isp_p h0 | exact absurd (ckb_b h1) (by decide) | exact absurd (ckb_b h2) (by decide) | exact absurd (ckb_b h3) (by decide)) (by first | exact iss_p h1 | exact absurd (ckb_b h1) (by decide) | exact absurd (ckb_b h2) (by decide) | exact absurd (ckb_b h3) (by decide)) (by first | exact ist_p h2 | exact absurd (ckb_b h1) (by decide) | exact absurd (ckb_b h2) (by decide) | exact absurd (ckb_b h3) (by decide)) (by first | exact isd_p (ckb_b h3) | exact absurd (ckb_b h1) (by decide) | exact absurd (ckb_b h2) (by decide) | exact absurd (ckb_b h3) (by decide)))]) [] [] hcx (by kernel_rfl)
  | false =>
   let t1 : List (St Tryz.prog) := (t0 ++ [.d h0, .c [3] (C24_1 a0 false)])
   cases h1 : (((F24_1 a0 false) : Int) != 0) with
   | true =>
    have q1 := bne_iff_ne.1 h1
    have e := Eq.refl (F37 a0 a1 a2 a3 a4); conv at e => rhs; simp only [F37, h0, h1, cond_true, cond_false]
    rw [e]
    exact rt (t1 ++ [.d h1]) [] [] hcx (by kernel_rfl)
   | false =>
    have q1 := bne_eq_false_iff_eq.1 h1
    have e := Eq.refl (F37 a0 a1 a2 a3 a4); conv at e => rhs; simp only [F37, h0, h1, cond_true, cond_false]
    rw [e]
    exact rt (t1 ++ [.d h1, .c [] (C55 a0 a1 a2 a3 a4  (by first | exact ckb_p h1 | exact ckb_p h2 | exact ckb_p h3) (by first | exact isp_p h0 | exact absurd (ckb_b h1) (by decide) | exact absurd (ckb_b h2) (by decide) | exact absurd (ckb_b h3) (by decide)) (by first | exact iss_p h1 | exact absurd (ckb_b h1) (by decide) | exact absurd (ckb_b h2) (by decide) | exact absurd (ckb_b h3) (by decide)) (by first | exact ist_p h2 | exact absurd (ckb_b h1) (by decide) | exact absurd (ckb_b h2) (by decide) | exact absurd (ckb_b h3) (by decide)) (by first | exact isd_p (ckb_b h3) | exact absurd (ckb_b h1) (by decide) | exact absurd (ckb_b h2) (by decide) | exact absurd (ckb_b h3) (by decide)))]) [] [] hcx (by kernel_rfl)

def F12 : Bool :=
  (bif (((F5 (0, 0, 0) (3, 4, 0) 2).2 : Int) == 0) then
   (bif (((F5 (0, 0, 0) (3, 4, 0) 2).1 : Int) == 3) then
    (bif (((F36 (((10, 0, 0), (12, 0, 0), (10, 2, 0)), 7, 3) (0, 0, 0) 2).2 : Int) == 0) then
     (bif (((F36 (((10, 0, 0), (12, 0, 0), (10, 2, 0)), 7, 3) (0, 0, 0) 2).1 : Int) == 12) then
      (bif (((F37 (((10, 0, 0), (12, 0, 0), (10, 2, 0)), 7, 3) (0, 0, 0) 2 7 1).2 : Int) == 0) then
       (bif ((((F37 (((10, 0, 0), (12, 0, 0), (10, 2, 0)), 7, 3) (0, 0, 0) 2 7 1).1.1 : Int) == 0) && ((((F37 (((10, 0, 0), (12, 0, 0), (10, 2, 0)), 7, 3) (0, 0, 0) 2 7 1).1.2 : Int) == 0) && true)) then
        (bif (((F37 (((10, 0, 0), (12, 0, 0), (10, 2, 0)), 7, 3) (0, 0, 0) 2 13 1).2 : Int) == 0) then
         (decide (((F37 (((10, 0, 0), (12, 0, 0), (10, 2, 0)), 7, 3) (0, 0, 0) 2 13 1).1.2 : Int) > 0))
        else
         false)
       else
        false)
      else
       false)
     else
      false)
    else
     false)
   else
    false)
  else
   false)

theorem C12 : Con Tryz.prog 12 [] [] (.v (.bool F12)) [] := by
  refine con_s Tryz.func12 (by kernel_rfl) fun cx hcx => ?_
  let t0 : List (St Tryz.prog) := [.c [] (C5 (0, 0, 0) (3, 4, 0) 2), .c [] (C36 (((10, 0, 0), (12, 0, 0), (10, 2, 0)), 7, 3) (0, 0, 0) 2), .c [] (C37 (((10, 0, 0), (12, 0, 0), (10, 2, 0)), 7, 3) (0, 0, 0) 2 7 1), .c [] (C37 (((10, 0, 0), (12, 0, 0), (10, 2, 0)), 7, 3) (0, 0, 0) 2 13 1)]
  cases h0 : (((F5 (0, 0, 0) (3, 4, 0) 2).2 : Int) == 0) with
  | true =>
   have q0 := eq_of_beq h0
   let t1 : List (St Tryz.prog) := (t0 ++ [.d h0])
   cases h1 : (((F5 (0, 0, 0) (3, 4, 0) 2).1 : Int) == 3) with
   | true =>
    have q1 := eq_of_beq h1
    let t2 : List (St Tryz.prog) := (t1 ++ [.d h1])
    cases h2 : (((F36 (((10, 0, 0), (12, 0, 0), (10, 2, 0)), 7, 3) (0, 0, 0) 2).2 : Int) == 0) with
    | true =>
     have q2 := eq_of_beq h2
     let t3 : List (St Tryz.prog) := (t2 ++ [.d h2])
     cases h3 : (((F36 (((10, 0, 0), (12, 0, 0), (10, 2, 0)), 7, 3) (0, 0, 0) 2).1 : Int) == 12) with
     | true =>
      have q3 := eq_of_beq h3
      let t4 : List (St Tryz.prog) := (t3 ++ [.d h3])
      cases h4 : (((F37 (((10, 0, 0), (12, 0, 0), (10, 2, 0)), 7, 3) (0, 0, 0) 2 7 1).2 : Int) == 0) with
      | true =>
       have q4 := eq_of_beq h4
       let t5 : List (St Tryz.prog) := (t4 ++ [.d h4])
       cases h5 : ((((F37 (((10, 0, 0), (12, 0, 0), (10, 2, 0)), 7, 3) (0, 0, 0) 2 7 1).1.1 : Int) == 0) && ((((F37 (((10, 0, 0), (12, 0, 0), (10, 2, 0)), 7, 3) (0, 0, 0) 2 7 1).1.2 : Int) == 0) && true)) with
       | true =>
        let t6 : List (St Tryz.prog) := (t5 ++ [.d h5])
        cases h6 : (((F37 (((10, 0, 0), (12, 0, 0), (10, 2, 0)), 7, 3) (0, 0, 0) 2 13 1).2 : Int) == 0) with
        | true =>
         have q6 := eq_of_beq h6
         have e := Eq.refl F12; conv at e => rhs; simp only [F12, h0, h1, h2, h3, h4, h5, h6, cond_true, cond_false]
         rw [e]
         exact rt (t6 ++ [.d h6]) [] [] hcx (by kernel_rfl)
        | false =>
         have q6 := ne_of_beq_false h6
         have e := Eq.refl F12; conv at e => rhs; simp only [F12, h0, h1, h2, h3, h4, h5, h6, cond_true, cond_false]
         rw [e]
         exact rt (t6 ++ [.d h6]) [] [] hcx (by kernel_rfl)
       | false =>
        have e := Eq.refl F12; conv at e => rhs; simp only [F12, h0, h1, h2, h3, h4, h5, cond_true, cond_false]
        rw [e]
        exact rt (t5 ++ [.d h5]) [] [] hcx (by kernel_rfl)
      | false =>
       have q4 := ne_of_beq_false h4
       have e := Eq.refl F12; conv at e => rhs; simp only [F12, h0, h1, h2, h3, h4, cond_true, cond_false]
       rw [e]
       exact rt (t4 ++ [.d h4]) [] [] hcx (by kernel_rfl)
     | false =>
      have q3 := ne_of_beq_false h3
      have e := Eq.refl F12; conv at e => rhs; simp only [F12, h0, h1, h2, h3, cond_true, cond_false]
      rw [e]
      exact rt (t3 ++ [.d h3]) [] [] hcx (by kernel_rfl)
    | false =>
     have q2 := ne_of_beq_false h2
     have e := Eq.refl F12; conv at e => rhs; simp only [F12, h0, h1, h2, cond_true, cond_false]
     rw [e]
     exact rt (t2 ++ [.d h2]) [] [] hcx (by kernel_rfl)
   | false =>
    have q1 := ne_of_beq_false h1
    have e := Eq.refl F12; conv at e => rhs; simp only [F12, h0, h1, cond_true, cond_false]
    rw [e]
    exact rt (t1 ++ [.d h1]) [] [] hcx (by kernel_rfl)
  | false =>
   have q0 := ne_of_beq_false h0
   have e := Eq.refl F12; conv at e => rhs; simp only [F12, h0, cond_true, cond_false]
   rw [e]
   exact rt (t0 ++ [.d h0]) [] [] hcx (by kernel_rfl)

end Go.Proofs.YtcnnmgooolnebaaGreat

namespace Go.Proofs.YtcnnmgooolnebaaGreat
open Go.Proofs Go.Aw Go.RowKit
set_option maxRecDepth 100000
set_option linter.unusedVariables false
set_option linter.unusedSimpArgs false

theorem sane_t : F12 = true := by kernel_rfl
/-! ### Travels -/
section
variable {n s t : Int}
theorem trav_step (hq : n ≤ 1000000) (hs : 1 ≤ s ∧ s ≤ 1000) (ht : 0 ≤ t ∧ t ≤ 1000) : S60_0 n s t = S20_0 n s t := by
  simp only [S60_0, S20_0]; rw [trav_sq hs ht, trav_sqr hs ht]
theorem trav_next {u : Int} (hq : n ≤ 1000000) (hs : 1 ≤ s ∧ s ≤ 1000) (ht : 0 ≤ t ∧ t ≤ 1000) (e : S20_0 n s t = .inl u) : s * t * (s * t) < n ∧ u = t + 1 ∧ t < 1000 := by
  simp only [S20_0] at e
  rw [trav_sq hs ht] at e
  by_cases h : s * t * (s * t) < n
  · have h1 := trav_lt hs ht hq h
    rw [decide_eq_true h, cond_true, W_eq (by omega) (by omega)] at e
    cases e; exact ⟨h, rfl, h1⟩
  · rw [decide_eq_false h] at e; cases e
theorem trav_eqF (hq : n ≤ 1000000) (hs : 1 ≤ s ∧ s ≤ 1000) : ∀ (f : Nat) (t : Int), 0 ≤ t ∧ t ≤ 1000 → loopF (S60_0 n s) f t = loopF (S20_0 n s) f t
  | 0, t, _ => rfl
  | f + 1, t, ht => by
    rw [show loopF (S60_0 n s) (f + 1) t = thenF (S60_0 n s) f (S60_0 n s t) from rfl, show loopF (S20_0 n s) (f + 1) t = thenF (S20_0 n s) f (S20_0 n s t) from rfl, trav_step hq hs ht]
    cases e : S20_0 n s t with
    | inr r => rfl
    | inl u =>
      have h := trav_next hq hs ht e
      exact trav_eqF hq hs f u (by omega)
theorem trav_eq (hq : n ≤ 1000000) (hs : 1 ≤ s ∧ s ≤ 1000) : F60 n s = F20 n s := trav_eqF hq hs _ _ (by omega)
end
/-! ### From when to when -/
end Go.Proofs.YtcnnmgooolnebaaGreat

namespace Go.Proofs.YtcnnmgooolnebaaGreat
open Go.Proofs Go.Aw Go.RowKit
set_option maxRecDepth 100000
set_option linter.unusedVariables false
set_option linter.unusedSimpArgs false

/-! ### What is heard of a pulse -/
theorem inv1_f {s n : Int} (hs : s = 1 ∨ s = 2 ∨ s = 4 ∨ s = 8) (h1 : 1 ≤ n) (hn : n ≤ 1000000000) : F53 n s = (of1 s n, 0) := by
  obtain ⟨e1, e2⟩ := lt8f hs
  unfold F53 of1
  have e : W ((W (s * s)) * 2 ^ (min (Int.toNat 40) 64)) = NN s := by rcases hs with rfl | rfl | rfl | rfl <;> kernel_rfl
  rw [decide_eq_false (show ¬ n < 1 by omega), cond_false, decide_eq_false (show ¬ n > 1099511627776 by omega), cond_false, e1, cond_false, e2, cond_false, if_neg (show ¬ n < 1 by omega), e, inv_f (NN_bd hs) (by omega)]
noncomputable def gv (a b s n f : Int) : (Int × Int) × Int :=
  if f ≤ a ∨ b < n then ((0, 0), 0) else if mx n a = 0 then ((0, 0), 10) else if a < n ∧ f ≤ b then (((of1 s f).1, (of1 s (mx n a)).2), 0) else ((0, (of1 s (mx n a)).2), 0)
theorem mx_eq (n a : Int) : (if n < a then a else n) = mx n a := rfl
theorem gives_f {a b s n f : Int} (hs : s = 1 ∨ s = 2 ∨ s = 4 ∨ s = 8) (ha : 0 ≤ a) (hn : 0 ≤ n) (hnf : n ≤ f) (hf : f ≤ 1000000000) : F84 (a, b, s) n f = gv a b s n f := by
  unfold F84 gv
  simp only [mx_eq]
  by_cases h1 : f ≤ a
  · simp [h1]
  · by_cases h2 : b < n
    · simp [h1, h2]
    · have hm := le_mx1 n a
      have hm2 : mx n a ≤ 1000000000 := mx_le (by omega) (by omega)
      rw [decide_eq_false h1, cond_false, decide_eq_false h2, cond_false, if_neg (by omega)]
      by_cases h3 : mx n a = 0
      · rw [h3]; cases decide (n > a) <;> rfl
      · rw [if_neg h3, inv1_f hs (by omega) hm2, inv1_f hs (by omega) hf, beq_eq_false_iff_ne.2 h3, cond_false, cond_false]
        by_cases h4 : a < n
        · by_cases h5 : f ≤ b
          · rw [if_pos ⟨h4, h5⟩]; simp [h4, h5]
          · rw [if_neg (by omega)]; simp [h4, h5]
        · rw [if_neg (by omega)]; simp [h4]
theorem gv_ok {a b s n f : Int} (hs : s = 1 ∨ s = 2 ∨ s = 4 ∨ s = 8) (hn : 0 ≤ n) (hnf : n ≤ f) : okE (gv a b s n f).1 := by
  have ho := of1_ok hs
  have hm := le_mx1 n a
  unfold gv okE
  split
  · simp
  · split
    · simp
    · rename_i h1 h2
      have hmf : mx n a ≤ f := mx_le hnf (by omega)
      have q1 := ho.lo f; have q2 := ho.mono (mx n a) f (by omega) hmf; have q3 := ho.le (mx n a); have q4 := ho.hi (mx n a); have q5 := ho.lo (mx n a)
      split <;> simp only <;> omega
/-! a list that is filled, or left at the first error -/
def shs {α β : Type} (g : α → β × Int) : List α → List β → List β ⊕ Int
  | [], l => .inl l
  | c :: m, l => if (g c).2 = 0 then shs g m (l ++ [(g c).1]) else .inr (g c).2
def out8 {β R : Type} (G : List β → R) (E : Int → R) : List β ⊕ Int → R
  | .inl m => G m
  | .inr e => E e
theorem shs_loopF {α β R : Type} [Inhabited R] {g : α → β × Int} {S : List β × Int → (List β × Int) ⊕ R} {G : List β → R} {E : Int → R} {L : List α}
    (hS : ∀ (i : Nat) (c : α), L[i]? = some c → ∀ l : List β, S (l, (i : Int)) = bif ((g c).2 != 0) then .inr (E (g c).2) else .inl (l ++ [(g c).1], ((i + 1 : Nat) : Int)))
    (hE : ∀ l : List β, S (l, (L.length : Int)) = .inr (G l)) :
    ∀ (k : List α) (i n : Nat) (l : List β), L.drop i = k → i ≤ L.length → k.length < n → loopF S n (l, (i : Int)) = out8 G E (shs g k l)
  | [], i, n, l, hd, hi', hn => by
    have : i = L.length := by have := List.drop_eq_nil_iff.1 hd; omega
    obtain ⟨n, rfl⟩ : ∃ m, n = m + 1 := ⟨n - 1, by simp only [List.length_nil] at hn; omega⟩
    subst this
    rw [loopF_inr (hE _)]; rfl
  | c :: k, i, n, l, hd, hi', hn => by
    have hc : L[i]? = some c := by
      have : (L.drop i)[0]? = some c := by rw [hd]; rfl
      simpa using this
    obtain ⟨hlt, hce⟩ := List.getElem?_eq_some_iff.1 hc
    obtain ⟨n, rfl⟩ : ∃ m, n = m + 1 := ⟨n - 1, by omega⟩
    have h1 := hS i c hc l
    unfold shs
    by_cases h : (g c).2 = 0
    · rw [h] at h1
      rw [loopF_inl h1, if_pos h]
      exact shs_loopF hS hE k (i + 1) n _ (by rw [← List.drop_drop, hd]; rfl) (by omega) (by simp only [List.length_cons] at hn; omega)
    · rw [bne_iff_ne.2 h, cond_true] at h1
      rw [loopF_inr h1, if_neg h]; rfl
theorem shs_inl {α β : Type} {g : α → β × Int} : ∀ {k : List α} {l m : List β}, shs g k l = .inl m → m = l ++ k.map (fun c => (g c).1) ∧ ∀ c ∈ k, (g c).2 = 0
  | [], l, m, h => by simp only [shs] at h; cases h; simp
  | c :: k, l, m, h => by
    unfold shs at h
    split at h
    · rename_i h0
      obtain ⟨h1, h2⟩ := shs_inl h
      refine ⟨by rw [h1]; simp, fun x hx => ?_⟩
      rcases List.mem_cons.1 hx with rfl | hx
      · exact h0
      · exact h2 x hx
    · cases h
theorem out8_ok {α β R : Type} {g : α → β × Int} {k : List α} {G G' : List β → R} {E : Int → R} (h : (∀ c ∈ k, (g c).2 = 0) → G (k.map (fun c => (g c).1)) = G' (k.map (fun c => (g c).1))) : out8 G E (shs g k []) = out8 G' E (shs g k []) := by
  cases e : shs g k [] with
  | inr r => rfl
  | inl m =>
    obtain ⟨h1, h2⟩ := shs_inl e
    subst h1
    exact h h2
/-! a pulse in a tick -/
def shA (s d q : Int) : Int := sc d * s * q * (sc d * s * q)
noncomputable def shG (p : PU) (x : P3) (s t d : Int) (c : PN) : (Int × Int) × Int := gv (shA s d (t - p.2.1 - 1)) (shA s d (t - p.2.1)) (sc d) (ne c (tm (sc d) x)) (fa c (tm (sc d) x))
noncomputable def hrE (l : List (Int × Int)) (d w : Int) : (Int × Int) × Int := F34 (scl (avg (sums l (0, 0)) (sc d * sc d)) w).1 (scl (avg (sums l (0, 0)) (sc d * sc d)) w).2
noncomputable def hrS (p : PU) (x : P3) (s t d : Int) : (Int × Int) × Int :=
  if t - p.2.1 < 1 then ((0, 0), 0) else out8 (fun l => hrE l d p.2.2) (fun e => ((0, 0), e)) (shs (shG p x s t d) (cutL d.toNat p.1) [])
theorem shA_bd {s d q : Int} (hs : 1 ≤ s ∧ s ≤ 16) (hq : 0 ≤ q ∧ q ≤ 2000) : 0 ≤ sc d * s ∧ sc d * s ≤ 128 ∧ 0 ≤ sc d * s * q ∧ sc d * s * q ≤ 256000 ∧ 0 ≤ shA s d q ∧ shA s d q ≤ 65536000000 := by
  have h0 := sc_bd d
  have h1 : 0 ≤ sc d * s := Int.mul_nonneg (by omega) (by omega)
  have h2 : sc d * s ≤ 8 * 16 := Int.mul_le_mul (by omega) (by omega) (by omega) (by omega)
  have h3 : 0 ≤ sc d * s * q := Int.mul_nonneg (by omega) (by omega)
  have h4 : sc d * s * q ≤ 128 * 2000 := Int.mul_le_mul (by omega) (by omega) (by omega) (by omega)
  have h5 : shA s d q ≤ 256000 * 256000 := Int.mul_le_mul (by omega) (by omega) (by omega) (by omega)
  have h6 : 0 ≤ shA s d q := Int.mul_nonneg h3 h3
  exact ⟨h1, by omega, h3, by omega, h6, by omega⟩
theorem shW {s d q : Int} (hs : 1 ≤ s ∧ s ≤ 16) (hq : 0 ≤ q ∧ q ≤ 2000) : W ((W (sc d * s)) * q) = sc d * s * q := by
  have h := shA_bd (d := d) hs hq
  rw [W_eq (n := sc d * s) (by omega) (by omega), W_eq (by omega) (by omega)]
theorem hr_end_f {l : List (Int × Int)} {d w : Int} (hd : 0 ≤ d ∧ d ≤ 3) (hl : ∀ a ∈ l, okE a) (hk : ((l.length : Nat) : Int) = sc d * sc d) (hw : -100 ≤ w ∧ w ≤ 100) :
    (bif (((F85_L l).2 : Int) != 0) then ((0, 0), (F85_L l).2) else ((F23 (F85_L l).1 w).1, (F23 (F85_L l).1 w).2)) = hrE l d w := by
  have hc := cnt_in d
  have h64 : l.length ≤ 64 := by omega
  rw [meanL_f hl hc hk]
  rw [Scale_f (avg_vs hc (sums_ok hl (okv_len h64))) (by omega)]; rfl
theorem shG_ok (p : PU) (x : P3) (s t d : Int) (c : PN) : okE (shG p x s t d c).1 := gv_ok (sc_in d) (ne_le _ _).1 (ne_le _ _).2
theorem sp_eq {p : PN} {d : Int} (hp : vp p = 0) (hd : 0 ≤ d ∧ d ≤ 3) : F83 p d = (cutL d.toNat p, 0) := by rw [parts_f, if_pos hp, if_pos hd]
theorem heard_f {p : PU} {x : P3} {s t d : Int} (hp : POK p) (hx : bd 256 x) (hs : 1 ≤ s ∧ s ≤ 16) (ht : 0 ≤ t ∧ t ≤ 2000) (hd : 0 ≤ d ∧ d ≤ 3) : F55 p x s t d = hrS p x s t d := by
  have hb := pok_bd hp
  have hsc := sc_bd d
  have hx' : bd 5000 (tm (sc d) x) := (bd_tm hsc (by omega) hx).mono (by omega)
  have hpt := hp.2.1
  unfold F55 hrS
  rw [W_eq (n := t - p.2.1) (by omega) (by omega)]
  by_cases h0 : t - p.2.1 < 1
  · rw [decide_eq_true h0, if_pos h0]; rfl
  have hA := shA_bd (d := d) (q := t - p.2.1 - 1) hs (by omega)
  have hB := shA_bd (d := d) (q := t - p.2.1) hs (by omega)
  rw [decide_eq_false h0, if_neg h0, cond_false, sp_eq hp.1 hd]
  show loopF (S55_0 p x s t d) _ (([] : List (Int × Int)), ((0 : Nat) : Int)) = _
  have key := shs_loopF (g := shG p x s t d) (S := S55_0 p x s t d) (E := fun e => ((0, 0), e)) (L := cutL d.toNat p.1)
    (G := fun l => (bif (((F85_L l).2 : Int) != 0) then ((0, 0), (F85_L l).2) else ((F23 (F85_L l).1 p.2.2).1, (F23 (F85_L l).1 p.2.2).2)))
    (fun i c hi l => ?_) (fun l => ?_) (cutL d.toNat p.1) 0 (Int.toNat ((((cutL d.toNat p.1).length : Nat) : Int) - 0) + 1) [] rfl (Nat.zero_le _) (by omega)
  · rw [key]
    refine out8_ok (fun _ => hr_end_f hd ?_ ?_ hp.2.2)
    · intro a ha
      obtain ⟨c, _, rfl⟩ := List.mem_map.1 ha
      exact shG_ok _ _ _ _ _ _
    · rw [List.length_map]; exact cnt_len hd p.1
  · obtain ⟨hlt, hce⟩ := List.getElem?_eq_some_iff.1 hi
    have hg : (cutL d.toNat p.1).getD i default = c := by rw [List.getD_eq_getElem?_getD, hi]; rfl
    have hc : bdP 5000 c := (cutL_in hb hd (hce ▸ List.getElem_mem hlt)).mono (by omega)
    have e : F84 ((F43 (W ((W (sc d * s)) * (W (t - p.2.1 - 1))))), (F43 (W ((W (sc d * s)) * (t - p.2.1)))), sc d) (F72 c (tm (sc d) x)) (F73 c (tm (sc d) x)) = shG p x s t d c := by
      rw [W_eq (n := t - p.2.1 - 1) (by omega) (by omega), shW hs (by omega), shW hs (by omega), square_f (by omega), square_f (by omega), sne_f hc hx', sfa_f hc hx']
      exact gives_f (sc_in d) hA.2.2.2.2.1 (ne_le _ _).1 (ne_le _ _).2 (by have := (fa_bd hc hx').2; omega)
    simp only [S55_0]
    rw [sp_eq hp.1 hd, decide_eq_true (show ((i : Nat) : Int) < ((cutL d.toNat p.1).length : Nat) by omega), cond_true, Int.toNat_natCast, hg, sc_f hd, tm_W hsc (hx.mono (by omega)), W_eq (n := t - p.2.1) (by omega) (by omega), e]; rfl
  · simp only [S55_0]
    rw [sp_eq hp.1 hd, decide_eq_false (Int.lt_irrefl _), cond_false]
    cases (((F85_L l).2 : Int) != 0) <;> rfl
open Classical in
theorem isT_f (n : Int) : F30 n = decide (0 ≤ n ∧ n ≤ 2000) := by unfold F30; exact sfrom_eq _ _ _
theorem isD_f (n : Int) : F26 n = decide (0 ≤ n ∧ n ≤ 3) := by unfold F26; exact sfrom_eq _ _ _
end Go.Proofs.YtcnnmgooolnebaaGreat

namespace Go.Proofs.YtcnnmgooolnebaaGreat
open Go.Proofs Go.Aw Go.RowKit
set_option maxRecDepth 100000
set_option linter.unusedVariables false
set_option linter.unusedSimpArgs false

/-! ### Slices of flat elements as arguments -/
open Go.ChangeShapes Go.WideShapes Go.ChangeAt
section
variable {H : Type} {enc : TypeId × Value → H} {P : Program} {w : World}
def SliceOf (w : World) (es : Nat) (v : Value) (nss : List (List Int)) : Prop :=
  (∀ ns ∈ nss, ns.length = es) ∧ nss.length ≤ 9223372036854775807 ∧
  ((v = .slice none 0 0 ∧ nss = []) ∨ ∃ b o cap, v = .slice (some ⟨b, o, none⟩) nss.length cap ∧ nss.length ≤ cap ∧ ∀ (i : Nat) (x : Value), ((nss.flatten).map (Value.int .i64))[i]? = some x → w.cell? ⟨b, o + i, none⟩ = some x)
theorem flat_cells {es b : Nat} : ∀ (nss : List (List Int)) (o : Nat), (∀ (j : Nat) (ns : List Int), nss[j]? = some ns → ns.length = es ∧ ∀ (q : Nat) (x : Value), (ns.map (Value.int .i64))[q]? = some x → w.cell? ⟨b, o + j * es + q, none⟩ = some x) →
    ∀ (i : Nat) (x : Value), ((nss.flatten).map (Value.int .i64))[i]? = some x → w.cell? ⟨b, o + i, none⟩ = some x
  | [], o, _, i, x, hi => by simp at hi
  | ns :: l, o, h, i, x, hi => by
    obtain ⟨h1, h2⟩ := h 0 ns rfl
    rw [List.flatten_cons, List.map_append] at hi
    by_cases hlt : i < ns.length
    · rw [List.getElem?_append_left (by simpa using hlt)] at hi
      have := h2 i x hi
      simpa using this
    · rw [List.getElem?_append_right (by simpa using hlt)] at hi
      have := flat_cells l (o + es) (fun j ms hj => ⟨(h (j + 1) ms hj).1, fun q y hq => by
        have := (h (j + 1) ms hj).2 q y hq
        rw [show o + es + j * es + q = o + (j + 1) * es + q by rw [Nat.add_mul]; omega]; exact this⟩) (i - es) x (by simpa [h1] using hi)
      rw [show o + es + (i - es) = o + i by omega] at this; exact this
theorem open_list {r : Reach} {b0 : Nat} {t e : TypeId} {es : Nat} {v : Value} {d : DataW H} {ps : List MemPlace} (ht : P.underlying t = some (.slice e)) (hf : flatB P 6 e = true) (hes : P.cellsOf e = es)
    (hval : Value.okWide P w r b0 t v) (hd : DataW.Trod enc P w 0 (fun _ => true) true t v d ps) : (∃ nss, SliceOf w es v nss) ∧ ∀ x ∈ ps, x.block < w.heap.size := by
  obtain ⟨fuel, hx⟩ := hd
  refine ⟨?_, DataW.trod_lt fuel t _ _ hx⟩
  obtain ⟨a, len, cap, rfl⟩ := okWide_slice ht hval
  rcases Go.Deep.open_slice ht hx with ⟨hc, _⟩ | ⟨a', len', cap', m, n, D, Pl, hc, hb, hl, hm, hmm, _, hall⟩
  · simp only [Value.cells, List.cons.injEq, and_true] at hc
    exact ⟨[], fun ns h => by simp at h, by simp, .inl ⟨hc, rfl⟩⟩
  · simp only [Value.cells, List.cons.injEq, and_true, Value.slice.injEq] at hc
    obtain ⟨rfl, rfl, rfl⟩ := hc
    simp only [Value.okWide, ht, Cell.okWide, Cell.ok, World.has] at hval
    have hsp : a'.spot = none := hval.2.2.2.1
    obtain ⟨b, o, sp⟩ := a'
    simp only at hsp
    subst hsp
    simp only [if_true] at hmm
    obtain ⟨N, hN⟩ := Go.Deep.choose_lt (α := List Int) (p := fun i ns => ns.length = es ∧ ∀ (q : Nat) (x : Value), (ns.map (Value.int .i64))[q]? = some x → w.cell? ⟨b, o + i * es + q, none⟩ = some x) (n := len) (fun i hi => by
      obtain ⟨cs', h1, h2⟩ := hall i (by omega)
      obtain ⟨_, ns, rfl⟩ := flat_trod 6 e n cs' _ hf h2
      obtain ⟨_, hlen, hcell⟩ := World.cells?_some h1
      rw [hes] at hlen hcell
      refine ⟨ns, by simpa using hlen, fun q x hq => ?_⟩
      have hq' := (List.getElem?_eq_some_iff.1 hq).1
      have := hcell q (by omega)
      rw [Go.Aw.add_eq, Go.Aw.add_eq] at this
      rw [this, hq])
    refine ⟨(List.range len).map N, fun ns h => ?_, ?_, .inr ⟨b, o, cap, ?_, ?_, ?_⟩⟩
    · obtain ⟨i, hi, rfl⟩ := List.mem_map.1 h
      exact (hN i (by simpa using hi)).1
    · have : maxLen = 9223372036854775807 := rfl
      simp; omega
    · simp
    · simpa using hl
    · refine flat_cells (es := es) _ o (fun j ns hj => ?_)
      have hjl := (List.getElem?_eq_some_iff.1 hj).1
      simp only [List.length_map, List.length_range] at hjl
      have : N j = ns := by simpa [hjl] using hj
      subst this
      exact hN j hjl
def rho (es : Nat) : Value → Option (Nat × Nat × Nat)
  | .slice (some a) _ cap => some (a.block, a.off, cap * es)
  | _ => none
theorem slice_rel {es : Nat} {v : Value} {nss : List (List Int)} {ρ : Env} {k : Nat} (h : SliceOf w es v nss) (hk : ρ k = rho es v) : Rel ρ (.s k 0 nss.length es) v := by
  obtain ⟨h1, h2, ⟨rfl, rfl⟩ | ⟨b, o, cap, rfl, h3, h4⟩⟩ := h
  · simp only [Rel]; exact .inl ⟨hk, rfl, trivial⟩
  · simp only [Rel]; exact .inr ⟨b, o, cap * es, cap, 0, hk, rfl, h3, by omega, fun _ => rfl⟩
theorem flatten_len {es : Nat} : ∀ {nss : List (List Int)}, (∀ ns ∈ nss, ns.length = es) → nss.flatten.length = nss.length * es
  | [], _ => by simp
  | ns :: l, h => by
    rw [List.flatten_cons, List.length_append, flatten_len (fun m hm => h m (List.mem_cons_of_mem _ hm)), h ns List.mem_cons_self, List.length_cons, Nat.add_mul]; omega
theorem slice_brep {es : Nat} {v : Value} {nss : List (List Int)} {ρ : Env} {k : Nat} {M : Nat → Prop} (h : SliceOf w es v nss) (hk : ρ k = rho es v) (hM : ∀ b, M b → w.heap.size ≤ b) : BRep ρ M w k (.live false true ((nss.flatten).map iv)) := by
  obtain ⟨h1, h2, ⟨rfl, rfl⟩ | ⟨b, o, cap, rfl, h3, h4⟩⟩ := h
  · exact .inl ⟨hk, rfl⟩
  · have hlen := flatten_len h1
    refine .inr ⟨b, o, cap * es, (nss.flatten).map (Value.int .i64), hk, ⟨?_, fun hne hm => ?_⟩, rels_iv _, h4⟩
    · rw [List.length_map, hlen]; exact Nat.mul_le_mul_right _ h3
    · have hb := hM b hm
      obtain ⟨x, hx⟩ := List.exists_mem_of_ne_nil _ hne
      obtain ⟨i, hi⟩ := List.getElem?_of_mem hx
      have := World.block_lt_of_cell? w ⟨b, o + i, none⟩ (h4 i x hi)
      exact absurd this (Nat.not_lt_of_le hb)
theorem flat_mk {α : Type} {c : α → List SV} {f : List Int → α} {es : Nat} (hc : ∀ ns : List Int, ns.length = es → c (f ns) = ns.map iv) : ∀ {nss : List (List Int)}, (∀ ns ∈ nss, ns.length = es) → flat c (nss.map f) = (nss.flatten).map iv
  | [], _ => rfl
  | ns :: l, h => by
    have := flat_mk hc (nss := l) (fun m hm => h m (List.mem_cons_of_mem _ hm))
    unfold flat at *
    rw [List.map_cons, List.flatMap_cons, this, hc ns (h ns List.mem_cons_self), List.flatten_cons, List.map_append]
end
theorem plain_ivs : ∀ ns : List Int, Plain (ns.map iv)
  | [] => fun k hk => by simp [SV.hasl] at hk
  | n :: l => fun k hk => by
    simp only [List.map_cons, SV.hasl] at hk
    rcases hk with hk | hk
    · simp [iv, SV.has] at hk
    · exact plain_ivs l k hk
theorem law_callsL {P : Program} {f : Nat} {args : List SV} {vs : List Value} {x : Value} {bs : List BK} (hc : Con P f args bs (.v x) []) (ρ : Env) {W : World} (hr : Rels ρ args vs) (hown : ∀ i, ¬ (bs.getD i .un).own)
    (hb : (∀ b, (callCx ρ W bs).mine b → W.heap.size ≤ b) → ∀ i, BRep ρ (callCx ρ W bs).mine W i (bs.getD i .un)) (hpl : ∀ i, (bs.getD i .un).pl) (hnf : ∀ b, ρ.fz b = none) :
    Calls P f vs.toArray W fun e W' => e = .returned x ∧ Below W.heap.size W W' := by
  have hM : ∀ b, (callCx ρ W bs).mine b → W.heap.size ≤ b := by
    rintro b (h | ⟨i, n, hi, _⟩)
    · exact h
    · exact absurd hi (hown i)
  refine (hc.2 ρ W vs hr (hb hM) hpl (fun i j b n b' n' _ h => absurd h (hown i)) (fun b o h => by rw [hnf b] at h; cases h)).mono fun e W' h => ?_
  obtain ⟨ρ', v, rfl, _, hv, hk, _⟩ := h
  refine ⟨by rw [show v = x from hv], hk.os, hk.tape, hk.output, hk.size, fun k hk' => hk.block k hk' ?_⟩
  rintro ⟨i, n, hi, _⟩
  exact hown i hi
def rho1 (e : Nat) (v : Value) : Env := ⟨fun k => if k = 0 then rho e v else none, fun _ => none⟩
theorem law_calls1 {P : Program} {f es0 : Nat} {args : List SV} {vs : List Value} {x v0 : Value} {nss0 : List (List Int)} {W : World} (hc : Con P f args [.live false true ((nss0.flatten).map iv)] (.v x) [])
    (s0 : SliceOf W es0 v0 nss0) (hr : Rels (rho1 es0 v0) args vs) : Calls P f vs.toArray W fun e W' => e = .returned x ∧ Below W.heap.size W W' := by
  refine law_callsL hc _ hr (fun i => ?_) (fun hM i => ?_) (fun i => ?_) (fun _ => rfl)
  · rcases i with _ | i <;> simp [BK.own]
  · rcases i with _ | i
    · exact slice_brep s0 rfl hM
    · simp [BRep]
  · rcases i with _ | i
    · exact plain_ivs _
    · simp [BK.pl]
end Go.Proofs.YtcnnmgooolnebaaGreat

namespace Go.Proofs.YtcnnmgooolnebaaGreat
open Go.Proofs Go.Aw Go.RowKit
set_option maxRecDepth 100000
set_option linter.unusedVariables false
set_option linter.unusedSimpArgs false

/-! ### Sums of lists of spans -/
theorem flat_one {α : Type} {c : α → List SV} (hc : ∀ x, (c x).all SV.one = true) {l : List α} : (flat c l).all SV.one = true := by
  rw [List.all_eq_true]
  intro x hx
  obtain ⟨a, _, ha⟩ := List.mem_flatMap.1 hx
  exact List.all_eq_true.1 (hc a) x ha
theorem flat_lenc {α : Type} {c : α → List SV} {es : Nat} (hc : ∀ x, (c x).length = es) (l : List α) : (flat c l).length = l.length * es := flat_length hc l
def okw (v : Int × Int) (n : Nat) : Prop := (-4611686018427387904 + 1099511627776 * n ≤ v.1 ∧ v.1 + 1099511627776 * n ≤ 4611686018427387904) ∧ (-4611686018427387904 + 1099511627776 * n ≤ v.2 ∧ v.2 + 1099511627776 * n ≤ 4611686018427387904)
theorem okw_next {v a : Int × Int} {n : Nat} (h : okw v (n + 1)) (ha : vs a) : okw (v.1 + a.1, v.2 + a.2) n := by unfold okw vs at *; simp only; omega
theorem okw_W {v : Int × Int} {n : Nat} (h : okw v n) : W v.1 = v.1 ∧ W v.2 = v.2 := by unfold okw at h; exact ⟨W_eq (by omega) (by omega), W_eq (by omega) (by omega)⟩
theorem okw_0 {n : Nat} (h : n ≤ 10000) : okw (0, 0) n := by unfold okw; simp only; omega
theorem sumw_loopF {R : Type} [Inhabited R] {S : Int × Int × Int → (Int × Int × Int) ⊕ R} {G : Int × Int → R} {L : List (Int × Int)} (hl : ∀ a ∈ L, vs a)
    (hS : ∀ (i : Nat) (a : Int × Int), L[i]? = some a → ∀ v1 v2 : Int, S (v1, v2, (i : Int)) = .inl (W (v1 + a.1), W (v2 + a.2), ((i + 1 : Nat) : Int)))
    (hE : ∀ v1 v2 : Int, S (v1, v2, (L.length : Int)) = .inr (G (v1, v2))) :
    ∀ (l : List (Int × Int)) (i n : Nat) (v : Int × Int), L.drop i = l → i ≤ L.length → l.length < n → okw v l.length → loopF S n (v.1, v.2, (i : Int)) = G (sums l v) := by
  intro l
  induction l with
  | nil =>
    intro i n v hd hi' hn h
    have : i = L.length := by have := List.drop_eq_nil_iff.1 hd; omega
    obtain ⟨n, rfl⟩ : ∃ m, n = m + 1 := ⟨n - 1, by simp only [List.length_nil] at hn; omega⟩
    subst this
    rw [loopF_inr (hE _ _)]; rfl
  | cons c l ih =>
    intro i n v hd hi' hn h
    have hc : L[i]? = some c := by
      have : (L.drop i)[0]? = some c := by rw [hd]; rfl
      simpa using this
    obtain ⟨hlt, hce⟩ := List.getElem?_eq_some_iff.1 hc
    obtain ⟨n, rfl⟩ : ∃ m, n = m + 1 := ⟨n - 1, by omega⟩
    have h1 : okw (v.1 + c.1, v.2 + c.2) l.length := okw_next h (hl c (hce ▸ List.getElem_mem hlt))
    have hw := okw_W h1
    simp only at hw
    rw [loopF_inl (hS i c hc v.1 v.2), hw.1, hw.2]
    exact ih (i + 1) n (v.1 + c.1, v.2 + c.2) (by rw [← List.drop_drop, hd]; rfl) (by omega) (by simp only [List.length_cons] at hn; omega) h1
section
variable {l : List (Int × Int)}
theorem vs_val {a : Int × Int} (h : vs a) : F56 a = true := val_f (a := a.1) (b := a.2) h.1 h.2.1 h.2.2
theorem chkW (hl : ∀ a ∈ l, vs a) : F45_L l = 0 := by
  have key : ∀ (m : List (Int × Int)) (i n : Nat), l.drop i = m → i ≤ l.length → m.length < n → loopF (S45_L_0 l) n (i : Int) = 0 := by
    intro m
    induction m with
    | nil =>
      intro i n hd hi hn
      have : i = l.length := by have := List.drop_eq_nil_iff.1 hd; omega
      obtain ⟨n, rfl⟩ : ∃ m, n = m + 1 := ⟨n - 1, by simp only [List.length_nil] at hn; omega⟩
      subst this
      refine loopF_inr ?_
      simp only [S45_L_0]
      rw [decide_eq_false (Int.lt_irrefl _), cond_false]
    | cons c m ih =>
      intro i n hd hi hn
      have hc : l[i]? = some c := by
        have : (l.drop i)[0]? = some c := by rw [hd]; rfl
        simpa using this
      obtain ⟨hlt, hce⟩ := List.getElem?_eq_some_iff.1 hc
      obtain ⟨n, rfl⟩ : ∃ m, n = m + 1 := ⟨n - 1, by omega⟩
      have hg : l.getD i default = c := by rw [List.getD_eq_getElem?_getD, hc]; rfl
      have e : S45_L_0 l (i : Int) = .inl ((i + 1 : Nat) : Int) := by
        simp only [S45_L_0]
        rw [decide_eq_true (show ((i : Nat) : Int) < (l.length : Nat) by omega), cond_true, Int.toNat_natCast, hg, vs_val (hl c (hce ▸ List.getElem_mem hlt))]; rfl
      rw [loopF_inl e]
      exact ih (i + 1) n (by rw [← List.drop_drop, hd]; rfl) (by omega) (by simp only [List.length_cons] at hn; omega)
  unfold F45_L
  exact key l 0 _ rfl (Nat.zero_le _) (by omega)
theorem totw_f (hl : ∀ a ∈ l, vs a) (hn : l.length ≤ 10000) : F33_L l = ((sums l (0, 0)).1, (sums l (0, 0)).2, 0) := by
  unfold F33_L
  rw [decide_eq_false (by omega), cond_false, chkW hl]
  show loopF _ _ (((0, 0) : Int × Int).1, ((0, 0) : Int × Int).2, ((0 : Nat) : Int)) = _
  refine sumw_loopF (G := fun v => (v.1, v.2, 0)) hl (fun i a hi v1 v2 => ?_) (fun v1 v2 => ?_) l 0 _ (0, 0) rfl (Nat.zero_le _) (by omega) (okw_0 hn)
  · obtain ⟨hlt, hce⟩ := List.getElem?_eq_some_iff.1 hi
    have hg : l.getD i default = a := by rw [List.getD_eq_getElem?_getD, hi]; rfl
    simp only [S33_L_0]
    rw [decide_eq_true (show ((i : Nat) : Int) < (l.length : Nat) by omega), cond_true, Int.toNat_natCast, hg]; rfl
  · simp only [S33_L_0]
    rw [decide_eq_false (Int.lt_irrefl _), cond_false]
noncomputable def sumV (l : List (Int × Int)) : (Int × Int) × Int := F34 (sums l (0, 0)).1 (sums l (0, 0)).2
theorem Sum_f (hl : ∀ a ∈ l, vs a) (hn : l.length ≤ 10000) : F10_L l = sumV l := by
  unfold F10_L
  rw [totw_f hl hn]; rfl
end
theorem sumV_0 {l : List (Int × Int)} (h : (sumV l).2 = 0) : sumV l = (sums l (0, 0), 0) ∧ vs (sums l (0, 0)) := by
  unfold sumV at *
  rcases res_cases (sums l (0, 0)).1 (sums l (0, 0)).2 with ⟨h1, h2⟩ | h1
  · exact ⟨h1, h2⟩
  · rw [h1] at h; exact absurd h (by decide)
theorem sums_app (l m : List (Int × Int)) : sums (l ++ m) (0, 0) = ((sums l (0, 0)).1 + (sums m (0, 0)).1, (sums l (0, 0)).2 + (sums m (0, 0)).2) := by
  simp only [sums_eq, List.map_append, List.sum_append, Int.zero_add]
theorem shs_inr {α β : Type} {g : α → β × Int} : ∀ {k : List α} {l : List β} {e : Int}, shs g k l = .inr e → e ≠ 0
  | [], l, e, h => by simp only [shs] at h; cases h
  | c :: k, l, e, h => by
    unfold shs at h
    split at h
    · exact shs_inr h
    · rename_i h0; cases h; exact h0

end Go.Proofs.YtcnnmgooolnebaaGreat

namespace Go.Proofs.YtcnnmgooolnebaaGreat
open Go.Proofs Go.Aw Go.RowKit
set_option maxRecDepth 100000
set_option linter.unusedVariables false
set_option linter.unusedSimpArgs false

theorem flat_set {α : Type} {c : α → List SV} {es : Nat} (hc : ∀ x, (c x).length = es) {L : List α} {i o : Nat} {xs : List SV} {d y : α} (hi : i < L.length) (ho : o + xs.length ≤ es) (hy : c y = splice (c (L.getD i d)) o xs) :
    splice (flat c L) (0 + i * es + o) xs = flat c (L.set i y) := by
  induction L generalizing i with
  | nil => simp at hi
  | cons x L ih =>
    cases i with
    | zero =>
      have hy' : c y = splice (c x) o xs := hy
      have hx := hc x
      simp only [flat, List.flatMap_cons, List.set_cons_zero, hy']
      unfold splice
      simp only [Nat.zero_mul, Nat.zero_add]
      rw [List.take_append_of_le_length (by omega), List.drop_append_of_le_length (by omega)]
      simp [List.append_assoc]
    | succ i =>
      have h := ih (i := i) (by simpa using hi) hy
      have hx := hc x
      simp only [flat, List.flatMap_cons, List.set_cons_succ] at h ⊢
      rw [← h]
      unfold splice
      have e1 : 0 + (i + 1) * es + o = (c x).length + (0 + i * es + o) := by rw [hx, Nat.add_mul]; omega
      rw [e1, List.take_length_add_append, show (c x).length + (0 + i * es + o) + xs.length = (c x).length + (0 + i * es + o + xs.length) by omega, List.drop_length_add_append]
      simp [List.append_assoc]
theorem flat_setl {α : Type} {c : α → List SV} {es : Nat} (hc : ∀ x, (c x).length = es) {L : List α} {i o n : Nat} (hi : i < L.length) (ho : o + n ≤ es) : 0 + i * es + o + n ≤ (flat c L).length := by
  rw [flat_length hc]
  have := Nat.mul_le_mul_right es (show i + 1 ≤ L.length by omega)
  rw [Nat.add_mul] at this
  omega

end Go.Proofs.YtcnnmgooolnebaaGreat

namespace Go.Proofs.YtcnnmgooolnebaaGreat
open Go.Proofs Go.Aw Go.RowKit
set_option maxRecDepth 100000
set_option linter.unusedVariables false
set_option linter.unusedSimpArgs false

def c63 (x : ((Int × Int × Int) × (Int × Int × Int) × Int × Int × Int) × Int × Int) : List SV := [(iv x.1.1.1), (iv x.1.1.2.1), (iv x.1.1.2.2), (iv x.1.2.1.1), (iv x.1.2.1.2.1), (iv x.1.2.1.2.2), (iv x.1.2.2.1), (iv x.1.2.2.2.1), (iv x.1.2.2.2.2), (iv x.2.1), (iv x.2.2)]
theorem c63_len (x : ((Int × Int × Int) × (Int × Int × Int) × Int × Int × Int) × Int × Int) : (c63 x).length = 11 := rfl

noncomputable def B48_L_0 : Code := (loopAtD [1, 1, 0, 1] [] (bodyOf Tryz.f48) []).1
noncomputable def K48_L_0 : List K := (loopAtD [1, 1, 0, 1] [] (bodyOf Tryz.f48) []).2

def st48_L_0 (a0 : List (((Int × Int × Int) × (Int × Int × Int) × Int × Int × Int) × Int × Int)) (v1 : Int) : LS := ⟨slN 32 [(9, (.s 0 0 a0.length 11)), (10, (iv ((a0.length : Nat) : Int))), (11, (iv v1))], [(.live false true (flat c63 a0))]⟩

def S48_L_0 (a0 : List (((Int × Int × Int) × (Int × Int × Int) × Int × Int × Int) × Int × Int)) : Int → (Int) ⊕ (Int)
  | v1 =>
   (bif (decide ((v1 : Int) < ((a0.length : Nat) : Int))) then
    (bif (((F71 (a0.getD (Int.toNat v1) default).1) : Int) != 0) then
     (.inr (F71 (a0.getD (Int.toNat v1) default).1))
    else
     (bif (!(F31 (a0.getD (Int.toNat v1) default).2.1 0 1000)) then
      (.inr 1)
     else
      (bif (!(F31 (a0.getD (Int.toNat v1) default).2.2 (-100) 100)) then
       (.inr 1)
      else
       (.inl (v1 + 1)))))
   else
    (.inr 0))

set_option maxHeartbeats 4000000 in
theorem L48_L_0 (a0 : List (((Int × Int × Int) × (Int × Int × Int) × Int × Int × Int) × Int × Int)) (l0 : a0.length ≤ 9223372036854775807) {cx : Cx} (hcx : cx.base = 1) : ∀ (n : Nat) (v1 : Int), 0 ≤ v1 → Int.toNat (((a0.length : Nat) : Int) - v1) < n → Aw.Good Tryz.prog none 9 (bodyPost Tryz.prog Tryz.f48 (RR cx (iv (loopF (S48_L_0 a0) n v1)) [] [])) cx [] (.l B48_L_0 n :: K48_L_0) (st48_L_0 a0 v1) := by
  intro n
  induction n with
  | zero => intro v1 hi hn; exact absurd hn (Nat.not_lt_zero _)
  | succ n ih =>
    intro v1 hi hn
    refine good_round ?_
    cases h0 : (decide ((v1 : Int) < ((a0.length : Nat) : Int))) with
    | true =>
     have q0 := of_decide_eq_true h0
     let t1 : List (St Tryz.prog) := [.d h0, .i v1 (a0.length), .L c63_len a0 v1 0 11, .c [] (C71 (a0.getD (Int.toNat v1) default).1)]
     cases h1 : (((F71 (a0.getD (Int.toNat v1) default).1) : Int) != 0) with
     | true =>
      have q1 := bne_iff_ne.1 h1
      have e := Eq.refl (S48_L_0 a0 v1); conv at e => rhs; simp only [S48_L_0, h0, h1, cond_true, cond_false]
      rw [loopF_s, e]
      exact rt (t1 ++ [.d h1]) [] [] hcx (by kernel_rfl)
     | false =>
      have q1 := bne_eq_false_iff_eq.1 h1
      let t2 : List (St Tryz.prog) := (t1 ++ [.d h1, .c [] (C31 (a0.getD (Int.toNat v1) default).2.1 0 1000)])
      cases h2 : (!(F31 (a0.getD (Int.toNat v1) default).2.1 0 1000)) with
      | true =>
       have e := Eq.refl (S48_L_0 a0 v1); conv at e => rhs; simp only [S48_L_0, h0, h1, h2, cond_true, cond_false]
       rw [loopF_s, e]
       exact rt (t2 ++ [.d h2]) [] [] hcx (by kernel_rfl)
      | false =>
       let t3 : List (St Tryz.prog) := (t2 ++ [.d h2, .c [] (C31 (a0.getD (Int.toNat v1) default).2.2 (-100) 100)])
       cases h3 : (!(F31 (a0.getD (Int.toNat v1) default).2.2 (-100) 100)) with
       | true =>
        have e := Eq.refl (S48_L_0 a0 v1); conv at e => rhs; simp only [S48_L_0, h0, h1, h2, h3, cond_true, cond_false]
        rw [loopF_s, e]
        exact rt (t3 ++ [.d h3]) [] [] hcx (by kernel_rfl)
       | false =>
        have e := Eq.refl (S48_L_0 a0 v1); conv at e => rhs; simp only [S48_L_0, h0, h1, h2, h3, cond_true, cond_false]
        rw [loopF_inl e]
        refine ba (t3 ++ [.d h3]) [] [9, 10, 11] [] hcx (m := n) B48_L_0 (K48_L_0) (st48_L_0 a0 (W (v1 + 1))) (by kernel_rfl) ?_
        have z0 : (W (v1 + 1)) = (v1 + 1) := W_eq (by omega) (by omega)
        rw [z0]
        exact ih (v1 + 1) (by (try simp only [List.length_append, List.length_cons, List.length_nil, Int.toNat_zero]); omega) (by (try simp only [List.length_append, List.length_cons, List.length_nil, Int.toNat_zero]); omega)
    | false =>
     have q0 := of_decide_eq_false h0
     have e := Eq.refl (S48_L_0 a0 v1); conv at e => rhs; simp only [S48_L_0, h0, cond_true, cond_false]
     rw [loopF_s, e]
     exact rt [.d h0] [] [] hcx (by kernel_rfl)

def F48_L (a0 : List (((Int × Int × Int) × (Int × Int × Int) × Int × Int × Int) × Int × Int)) : Int :=
  (bif (decide ((((a0.length : Nat) : Int) : Int) > 16)) then
   4
  else
   (loopF (S48_L_0 a0) (Int.toNat (((a0.length : Nat) : Int) - 0) + 1) 0))

theorem C48_L (a0 : List (((Int × Int × Int) × (Int × Int × Int) × Int × Int × Int) × Int × Int)) (l0 : a0.length ≤ 9223372036854775807) : Con Tryz.prog 48 [(.s 0 0 a0.length 11)] [(.live false true (flat c63 a0))] (iv (F48_L a0)) [] := by
  refine con_s Tryz.func48 (by kernel_rfl) fun cx hcx => ?_
  cases h0 : (decide ((((a0.length : Nat) : Int) : Int) > 16)) with
  | true =>
   have q0 := of_decide_eq_true h0
   have e := Eq.refl (F48_L a0); conv at e => rhs; simp only [F48_L, h0, cond_true, cond_false]
   rw [e]
   exact rt [.d h0] [] [] hcx (by kernel_rfl)
  | false =>
   have q0 := of_decide_eq_false h0
   have e := Eq.refl (F48_L a0); conv at e => rhs; simp only [F48_L, h0, cond_true, cond_false]
   rw [e]
   refine en [.d h0] [] [9, 10, 11] [] hcx B48_L_0 (K48_L_0) (st48_L_0 a0 0) (Int.toNat (((a0.length : Nat) : Int) - 0) + 1) (by kernel_rfl) ?_
   exact L48_L_0 a0 l0 hcx (Int.toNat (((a0.length : Nat) : Int) - 0) + 1) 0 (by (try simp only [List.length_append, List.length_cons, List.length_nil, Int.toNat_zero]); omega) (by (try simp only [List.length_append, List.length_cons, List.length_nil, Int.toNat_zero]); omega)

def F24_L (a0 : List (((Int × Int × Int) × (Int × Int × Int) × Int × Int × Int) × Int × Int)) (a1 : Bool) : Int :=
  (bif (((F48_L a0) : Int) != 0) then
   (F48_L a0)
  else
   (bif (!a1) then
    1
   else
    0))

theorem C24_L (a0 : List (((Int × Int × Int) × (Int × Int × Int) × Int × Int × Int) × Int × Int)) (a1 : Bool) (l0 : a0.length ≤ 9223372036854775807) : Con Tryz.prog 24 [(.s 0 0 a0.length 11), (.v (.bool a1))] [(.live false true (flat c63 a0))] (iv (F24_L a0 a1)) [] := by
  refine con_s Tryz.func24 (by kernel_rfl) fun cx hcx => ?_
  let t0 : List (St Tryz.prog) := [.c [0] (C48_L a0 (by (try simp only [List.length_append, List.length_cons, List.length_nil, Int.toNat_zero]); omega))]
  cases h0 : (((F48_L a0) : Int) != 0) with
  | true =>
   have q0 := bne_iff_ne.1 h0
   have e := Eq.refl (F24_L a0 a1); conv at e => rhs; simp only [F24_L, h0, cond_true, cond_false]
   rw [e]
   exact rt (t0 ++ [.d h0]) [] [] hcx (by kernel_rfl)
  | false =>
   have q0 := bne_eq_false_iff_eq.1 h0
   let t1 : List (St Tryz.prog) := (t0 ++ [.d h0])
   cases h1 : (!a1) with
   | true =>
    have e := Eq.refl (F24_L a0 a1); conv at e => rhs; simp only [F24_L, h0, h1, cond_true, cond_false]
    rw [e]
    exact rt (t1 ++ [.d h1]) [] [] hcx (by kernel_rfl)
   | false =>
    have e := Eq.refl (F24_L a0 a1); conv at e => rhs; simp only [F24_L, h0, h1, cond_true, cond_false]
    rw [e]
    exact rt (t1 ++ [.d h1]) [] [] hcx (by kernel_rfl)

noncomputable def B38_L_0 : Code := (loopAtD [1, 1, 0, 1] [] (bodyOf Tryz.f38) []).1
noncomputable def K38_L_0 : List K := (loopAtD [1, 1, 0, 1] [] (bodyOf Tryz.f38) []).2

def st38_L_0 (a0 : List (((Int × Int × Int) × (Int × Int × Int) × Int × Int × Int) × Int × Int)) (v1 : Int) : LS := ⟨slN 22 [(0, (.s 0 0 a0.length 11)), (3, (iv v1))], [(.live false true (flat c63 a0))]⟩

def S38_L_0 (a0 : List (((Int × Int × Int) × (Int × Int × Int) × Int × Int × Int) × Int × Int)) : Int → (Int) ⊕ (Int)
  | v1 =>
   (bif (decide ((v1 : Int) < ((a0.length : Nat) : Int))) then
    (bif (((F57 (a0.getD (Int.toNat v1) default)) : Int) != 0) then
     (.inr (F57 (a0.getD (Int.toNat v1) default)))
    else
     (.inl (v1 + 1)))
   else
    (.inr 0))

set_option maxHeartbeats 4000000 in
theorem L38_L_0 (a0 : List (((Int × Int × Int) × (Int × Int × Int) × Int × Int × Int) × Int × Int)) (l0 : a0.length ≤ 9223372036854775807) {cx : Cx} (hcx : cx.base = 1) : ∀ (n : Nat) (v1 : Int), 0 ≤ v1 → Int.toNat (((a0.length : Nat) : Int) - v1) < n → Aw.Good Tryz.prog none 9 (bodyPost Tryz.prog Tryz.f38 (RR cx (iv (loopF (S38_L_0 a0) n v1)) [] [])) cx [] (.l B38_L_0 n :: K38_L_0) (st38_L_0 a0 v1) := by
  intro n
  induction n with
  | zero => intro v1 hi hn; exact absurd hn (Nat.not_lt_zero _)
  | succ n ih =>
    intro v1 hi hn
    refine good_round ?_
    cases h0 : (decide ((v1 : Int) < ((a0.length : Nat) : Int))) with
    | true =>
     have q0 := of_decide_eq_true h0
     let t1 : List (St Tryz.prog) := [.d h0, .i v1 (a0.length), .L c63_len a0 v1 0 11, .c [] (C57 (a0.getD (Int.toNat v1) default))]
     cases h1 : (((F57 (a0.getD (Int.toNat v1) default)) : Int) != 0) with
     | true =>
      have q1 := bne_iff_ne.1 h1
      have e := Eq.refl (S38_L_0 a0 v1); conv at e => rhs; simp only [S38_L_0, h0, h1, cond_true, cond_false]
      rw [loopF_s, e]
      exact rt (t1 ++ [.d h1]) [] [] hcx (by kernel_rfl)
     | false =>
      have q1 := bne_eq_false_iff_eq.1 h1
      have e := Eq.refl (S38_L_0 a0 v1); conv at e => rhs; simp only [S38_L_0, h0, h1, cond_true, cond_false]
      rw [loopF_inl e]
      refine ba (t1 ++ [.d h1]) [] [0, 3] [] hcx (m := n) B38_L_0 (K38_L_0) (st38_L_0 a0 (W (v1 + 1))) (by kernel_rfl) ?_
      have z0 : (W (v1 + 1)) = (v1 + 1) := W_eq (by omega) (by omega)
      rw [z0]
      exact ih (v1 + 1) (by (try simp only [List.length_append, List.length_cons, List.length_nil, Int.toNat_zero]); omega) (by (try simp only [List.length_append, List.length_cons, List.length_nil, Int.toNat_zero]); omega)
    | false =>
     have q0 := of_decide_eq_false h0
     have e := Eq.refl (S38_L_0 a0 v1); conv at e => rhs; simp only [S38_L_0, h0, cond_true, cond_false]
     rw [loopF_s, e]
     exact rt [.d h0] [] [] hcx (by kernel_rfl)

def F38_L (a0 : List (((Int × Int × Int) × (Int × Int × Int) × Int × Int × Int) × Int × Int)) : Int :=
  (bif (decide ((((a0.length : Nat) : Int) : Int) > 16)) then
   4
  else
   (loopF (S38_L_0 a0) (Int.toNat (((a0.length : Nat) : Int) - 0) + 1) 0))

theorem C38_L (a0 : List (((Int × Int × Int) × (Int × Int × Int) × Int × Int × Int) × Int × Int)) (l0 : a0.length ≤ 9223372036854775807) : Con Tryz.prog 38 [(.s 0 0 a0.length 11)] [(.live false true (flat c63 a0))] (iv (F38_L a0)) [] := by
  refine con_s Tryz.func38 (by kernel_rfl) fun cx hcx => ?_
  cases h0 : (decide ((((a0.length : Nat) : Int) : Int) > 16)) with
  | true =>
   have q0 := of_decide_eq_true h0
   have e := Eq.refl (F38_L a0); conv at e => rhs; simp only [F38_L, h0, cond_true, cond_false]
   rw [e]
   exact rt [.d h0] [] [] hcx (by kernel_rfl)
  | false =>
   have q0 := of_decide_eq_false h0
   have e := Eq.refl (F38_L a0); conv at e => rhs; simp only [F38_L, h0, cond_true, cond_false]
   rw [e]
   refine en [.d h0] [] [0, 3] [] hcx B38_L_0 (K38_L_0) (st38_L_0 a0 0) (Int.toNat (((a0.length : Nat) : Int) - 0) + 1) (by kernel_rfl) ?_
   exact L38_L_0 a0 l0 hcx (Int.toNat (((a0.length : Nat) : Int) - 0) + 1) 0 (by (try simp only [List.length_append, List.length_cons, List.length_nil, Int.toNat_zero]); omega) (by (try simp only [List.length_append, List.length_cons, List.length_nil, Int.toNat_zero]); omega)

theorem vpl_len {l : List PU} (h : F48_L l = 0) : l.length ≤ 16 := by
  rcases Nat.lt_or_ge 16 l.length with h' | h'
  · exfalso
    unfold F48_L at h
    rw [decide_eq_true (by omega), cond_true] at h
    exact absurd h (by decide)
  · exact h'
theorem chkL_0 {l : List PU} {b : Bool} (h : ((F24_L l b : Int) != 0) = false) : F48_L l = 0 ∧ b = true := by
  have h := bne_eq_false_iff_eq.1 h
  unfold F24_L at h
  cases h1 : ((F48_L l : Int) != 0) with
  | true => rw [h1, cond_true] at h; exact absurd h (bne_iff_ne.1 h1)
  | false =>
    rw [h1, cond_false] at h
    refine ⟨bne_eq_false_iff_eq.1 h1, ?_⟩
    cases b with
    | true => rfl
    | false => exact absurd h (by decide)
theorem chkL_len {l : List PU} {b : Bool} (h : ((F24_L l b : Int) != 0) = false) : l.length ≤ 16 := vpl_len (chkL_0 h).1

def F69_L (a0 : List (((Int × Int × Int) × (Int × Int × Int) × Int × Int × Int) × Int × Int)) : List (((Int × Int × Int) × (Int × Int × Int) × Int × Int × Int) × Int × Int) :=
  (([] : List (((Int × Int × Int) × (Int × Int × Int) × Int × Int × Int) × Int × Int)) ++ a0)

theorem C69_L (a0 : List (((Int × Int × Int) × (Int × Int × Int) × Int × Int × Int) × Int × Int)) (l0 : a0.length ≤ 9223372036854775807) (hne : a0.length ≠ 0) (h40 : a0.length ≤ 1048576) : Con Tryz.prog 69 [(.s 0 0 a0.length 11)] [(.live false true (flat c63 a0))] (.s 1 0 (F69_L a0).length 11) [(.live true true (flat c63 (F69_L a0)))] := by
  refine con_s Tryz.func69 (by kernel_rfl) fun cx hcx => ?_
  have e := Eq.refl (F69_L a0); conv at e => rhs; simp only [F69_L]
  rw [e]
  rw [show flat c63 (([] : List (((Int × Int × Int) × (Int × Int × Int) × Int × Int × Int) × Int × Int)) ++ a0) = (([] : List SV) ++ (flat c63 a0)) from Eq.symm (by simp [flat])]
  rw [show (([] : List (((Int × Int × Int) × (Int × Int × Int) × Int × Int × Int) × Int × Int)) ++ a0).length = (0 + a0.length) from by simp]
  exact rt [.p (show (a0.length : Nat) ≠ 0 from by first | omega | (rw [W_eq] <;> omega) | exact u64_nn _), .F, .p (show (([] : List SV).length = 0 * 11 ∧ (flat c63 a0).length = a0.length * 11 ∧ (flat c63 a0).all SV.one = true ∧ 0 + a0.length ≤ 2 ^ 40 ∧ (0 + a0.length) * 88 ≤ 2 ^ 47) from by refine ⟨?_, ?_, ?_, ?_, ?_⟩ <;> first | omega | exact flat_one (fun _ => rfl) | (simp [flat_lenc c63_len]; done) | (simp [flat_lenc c63_len]; omega))] [] [2] hcx (by kernel_rfl)

def F69_n : List (((Int × Int × Int) × (Int × Int × Int) × Int × Int × Int) × Int × Int) :=
  ([] : List (((Int × Int × Int) × (Int × Int × Int) × Int × Int × Int) × Int × Int))

theorem C69_n : Con Tryz.prog 69 [(.v (.slice none 0 0))] [] (.s 0 0 F69_n.length 11) [(.live true true (flat c63 F69_n))] := by
  refine con_s Tryz.func69 (by kernel_rfl) fun cx hcx => ?_
  have e := Eq.refl F69_n; conv at e => rhs; simp only [F69_n]
  rw [e]
  exact rt [.T] [.slot 2 11] [0] hcx (by kernel_rfl)

/-! ### slices.Clone -/
theorem clone_e (a : Addr) (c : Nat) : Con Tryz.prog 69 [.v (.slice (some a) 0 c)] [] (.s 0 0 0 11) [.live true true []] := by
  refine con_of (n := 9) Tryz.func69 rfl (ent Tryz.func69 (by kernel_rfl) rfl) (by show 1 ≤ Tryz.f69.ntmps; decide) (by kernel_rfl) trivial (fun cx hcx => ?_)
  exact ret_of (T := T0) hT hm (f := 5000) (orc := [.d false]) [.sym 0 true] [] [0] hcx
    (obs := [.eq false false]) (by kernel_rfl) ⟨rfl, trivial⟩
theorem clone_con (l : List PU) (l0 : l.length ≤ 9223372036854775807) (h : l.length ≤ 1048576) : Con Tryz.prog 69 [.s 0 0 l.length 11] [.live false true (flat c63 l)] (.s 1 0 (F69_L l).length 11) [.live true true (flat c63 (F69_L l))] := by
  by_cases hne : l.length ≠ 0
  · exact C69_L l l0 hne h
  have hl : l = [] := List.eq_nil_of_length_eq_zero (by omega)
  subst hl
  refine ⟨(clone_e ⟨0, 0, none⟩ 0).1, fun ρ W vs hr hb hpl hap hfz => ?_⟩
  cases vs with
  | nil => simp [Rels] at hr
  | cons v vs =>
  cases vs with
  | cons _ _ => simp [Rels] at hr
  | nil =>
  have hv : v = .slice none 0 0 ∨ ∃ a c, v = .slice (some a) 0 c := by
    have := hr.1
    simp only [Rel] at this
    rcases this with ⟨_, _, h⟩ | ⟨b, o, n, cap, off', _, h, _⟩
    · exact .inl h
    · exact .inr ⟨_, _, h⟩
  have key : ∀ a0 : SV, Con Tryz.prog 69 [a0] [] (.s 0 0 0 11) [.live true true []] → Rel ρ.bare a0 v →
      Calls Tryz.prog 69 [v].toArray W (RR (callCx ρ W [.live false true (flat c63 [])]) (.s 1 0 (F69_L []).length 11) [.live true true (flat c63 (F69_L []))] []) := by
    intro a0 hc hrel
    refine (hc.2 ρ.bare W [v] ⟨hrel, trivial⟩ (fun i => by simp [BRep]) (fun i => by simp [BK.pl]) (fun i j b n b' n' _ h => by simp [BK.own] at h) (fun b o ho => ⟨(hfz b o ho).1, fun i n h => by simp [BK.own] at h⟩)).mono fun e W' hh => ?_
    obtain ⟨ρ', u, he, _, hu, hk, hB, hP, hA, hL, hF⟩ := hh
    refine ⟨⟨fun j => if j = 0 then ρ 0 else if j = 1 then ρ' 0 else none, ρ'.fz⟩, u, he, fun i hi => ?_, ?_, ?_, fun j => ?_, fun j => ?_, fun i j b n b' n' hij hi hj => ?_, fun b o ho => hL b o ho, fun b o ho => ?_⟩
    · have : i = 0 := by simp only [callCx, List.length_cons, List.length_nil] at hi; omega
      subst this; rfl
    · show Rel _ (.s 1 0 0 11) u
      simp only [Rel] at hu ⊢
      exact hu
    · exact ⟨hk.os, hk.tape, hk.output, hk.size, fun k hk' _ => hk.block k hk' (by rintro ⟨i, n, hi, _⟩; simp [BK.own] at hi), hk.drawn⟩
    · rcases j with _ | _ | j
      · simp [postB, callCx, BRep]
      · have h0 := hB 0
        rcases h0 with h0 | ⟨b, vs, rest, ty, g1, g2, g3, g4⟩
        · exact .inl ⟨h0.1, rfl⟩
        · refine .inr ⟨b, vs, rest, ty, g1, ?_, ?_, g4⟩
          · rcases g2 with g2 | ⟨i, n, hi, _⟩
            · exact .inl g2
            · simp [BK.own] at hi
          · have : vs = [] := by
              cases vs with
              | nil => rfl
              | cons _ _ => simp [Rels] at g3
            subst this; trivial
      · simp [postB, callCx, BRep]
    · rcases j with _ | _ | j
      · simp [postB, callCx, BK.pl]
      · exact fun k hk => by simp [flat, F69_L, SV.hasl, postB, callCx] at hk
      · simp [postB, callCx, BK.pl]
    · have hi1 : i = 1 := by
        rcases i with _ | _ | i
        · simp [postB, callCx, BK.own] at hi
        · rfl
        · simp [postB, callCx, BK.own] at hi
      have hj1 : j = 1 := by
        rcases j with _ | _ | j
        · simp [postB, callCx, BK.own] at hj
        · rfl
        · simp [postB, callCx, BK.own] at hj
      omega
    · obtain ⟨f1, f2, f3⟩ := hF b o ho
      refine ⟨f1, fun j n hj e1 => ?_, ?_⟩
      · rcases j with _ | _ | j
        · simp [postB, callCx, BK.own] at hj
        · exact f2 0 n trivial e1
        · simp [postB, callCx, BK.own] at hj
      · rcases f3 with f3 | f3 | ⟨i, n, hi, _⟩
        · exact .inl f3
        · exact .inr (.inl f3)
        · simp [BK.own] at hi
  rcases hv with rfl | ⟨a, c, rfl⟩
  · exact key _ C69_n rfl
  · exact key _ (clone_e a c) rfl
theorem clone_len (l : List PU) : (F69_L l).length = l.length := rfl

end Go.Proofs.YtcnnmgooolnebaaGreat

namespace Go.Proofs.YtcnnmgooolnebaaGreat
open Go.Proofs Go.Aw Go.RowKit
set_option maxRecDepth 100000
set_option linter.unusedVariables false
set_option linter.unusedSimpArgs false

/-! ### Lists of pulses: which are valid, the delayed ones -/
def fe {α : Type} (g : α → Int) : List α → Int
  | [] => 0
  | c :: l => if g c = 0 then fe g l else g c
theorem fe_0 {α : Type} {g : α → Int} : ∀ {l : List α}, fe g l = 0 ↔ ∀ c ∈ l, g c = 0
  | [] => by simp [fe]
  | c :: l => by
    unfold fe
    by_cases h : g c = 0
    · rw [if_pos h, fe_0]; simp [h]
    · rw [if_neg h]; simp [h]
theorem fe_loopF {α R : Type} [Inhabited R] {g : α → Int} {S : Int → Int ⊕ R} {L : List α} {E : Int → R} {G : R}
    (hS : ∀ (i : Nat) (c : α), L[i]? = some c → S (i : Int) = if g c = 0 then .inl ((i + 1 : Nat) : Int) else .inr (E (g c)))
    (hE : S (L.length : Int) = .inr G) : ∀ (k : List α) (i n : Nat), L.drop i = k → i ≤ L.length → k.length < n → loopF S n (i : Int) = if fe g k = 0 then G else E (fe g k)
  | [], i, n, hd, hi', hn => by
    have : i = L.length := by have := List.drop_eq_nil_iff.1 hd; omega
    obtain ⟨n, rfl⟩ : ∃ m, n = m + 1 := ⟨n - 1, by simp only [List.length_nil] at hn; omega⟩
    subst this
    rw [loopF_inr hE]; rfl
  | c :: k, i, n, hd, hi', hn => by
    have hc : L[i]? = some c := by
      have : (L.drop i)[0]? = some c := by rw [hd]; rfl
      simpa using this
    obtain ⟨hlt, hce⟩ := List.getElem?_eq_some_iff.1 hc
    obtain ⟨n, rfl⟩ : ∃ m, n = m + 1 := ⟨n - 1, by omega⟩
    have h1 := hS i c hc
    unfold fe
    by_cases h : g c = 0
    · rw [if_pos h] at h1
      rw [loopF_inl h1, if_pos h]
      exact fe_loopF hS hE k (i + 1) n (by rw [← List.drop_drop, hd]; rfl) (by omega) (by simp only [List.length_cons] at hn; omega)
    · rw [if_neg h] at h1
      rw [loopF_inr h1, if_neg h, if_neg h]
theorem getD_some {α : Type} [Inhabited α] {l : List α} {i : Nat} {c : α} (h : l[i]? = some c) : l.getD i default = c ∧ i < l.length := by
  obtain ⟨hlt, _⟩ := List.getElem?_eq_some_iff.1 h
  exact ⟨by rw [List.getD_eq_getElem?_getD, h]; rfl, hlt⟩
noncomputable def vpL (l : List PU) : Int := if 16 < l.length then 4 else fe pv l
theorem pv_step {R : Type} (p : PU) (a : R) (E : Int → R) : (bif ((vp p.1 : Int) != 0) then E (vp p.1) else (bif (!(decide (0 ≤ p.2.1 ∧ p.2.1 ≤ 1000))) then E 1 else (bif (!(decide (-100 ≤ p.2.2 ∧ p.2.2 ≤ 100))) then E 1 else a))) = if pv p = 0 then a else E (pv p) := by
  unfold pv
  by_cases h : vp p.1 = 0
  · rw [h]
    by_cases h1 : 0 ≤ p.2.1 ∧ p.2.1 ≤ 1000 <;> by_cases h2 : -100 ≤ p.2.2 ∧ p.2.2 ≤ 100 <;> simp [h1, h2]
  · rw [if_neg h, if_neg h, bne_iff_ne.2 h]; rfl
theorem vpl_f (l : List PU) : F48_L l = vpL l := by
  unfold F48_L vpL
  by_cases h : 16 < l.length
  · rw [decide_eq_true (by omega), if_pos h]; rfl
  · rw [decide_eq_false (by omega), if_neg h, cond_false]
    have key := fe_loopF (g := pv) (S := S48_L_0 l) (L := l) (E := id) (G := 0) (fun i c hi => ?_) ?_ l 0 (Int.toNat (((l.length : Nat) : Int) - 0) + 1) rfl (Nat.zero_le _) (by omega)
    · refine Eq.trans key ?_
      split
      · rename_i h0; exact h0.symm
      · rfl
    · obtain ⟨hg, hlt⟩ := getD_some hi
      simp only [S48_L_0]
      rw [decide_eq_true (show ((i : Nat) : Int) < (l.length : Nat) by omega), cond_true, Int.toNat_natCast, hg, vp_s, sfrom_eq, sfrom_eq]
      exact pv_step c _ (fun e => Sum.inr (id e))
    · simp only [S48_L_0]
      rw [decide_eq_false (Int.lt_irrefl _), cond_false]
theorem vpl_r (l : List PU) : F38_L l = vpL l := by
  unfold F38_L vpL
  by_cases h : 16 < l.length
  · rw [decide_eq_true (by omega), if_pos h]; rfl
  · rw [decide_eq_false (by omega), if_neg h, cond_false]
    have key := fe_loopF (g := pv) (S := S38_L_0 l) (L := l) (E := id) (G := 0) (fun i c hi => ?_) ?_ l 0 (Int.toNat (((l.length : Nat) : Int) - 0) + 1) rfl (Nat.zero_le _) (by omega)
    · refine Eq.trans key ?_
      split
      · rename_i h0; exact h0.symm
      · rfl
    · obtain ⟨hg, hlt⟩ := getD_some hi
      simp only [S38_L_0]
      rw [decide_eq_true (show ((i : Nat) : Int) < (l.length : Nat) by omega), cond_true, Int.toNat_natCast, hg, one_e]
      by_cases h0 : pv c = 0
      · rw [if_pos h0, h0]; rfl
      · rw [if_neg h0, bne_iff_ne.2 h0]; rfl
    · simp only [S38_L_0]
      rw [decide_eq_false (Int.lt_irrefl _), cond_false]
theorem chkL_f (l : List PU) (b : Bool) : F24_L l b = if vpL l = 0 then (if b = true then 0 else 1) else vpL l := by
  unfold F24_L
  rw [vpl_f]
  by_cases h : vpL l = 0
  · rw [h]; cases b <;> simp
  · rw [bne_iff_ne.2 h, if_neg h]; rfl
theorem vpL_ok {l : List PU} (h : vpL l = 0) : l.length ≤ 16 ∧ ∀ p ∈ l, POK p := by
  unfold vpL at h
  split at h
  · exact absurd h (by decide)
  · exact ⟨by omega, fun p hp => pv_ok.1 (fe_0.1 h p hp)⟩
/-! equal lists -/
/-! later pulses -/
end Go.Proofs.YtcnnmgooolnebaaGreat

namespace Go.Proofs.YtcnnmgooolnebaaGreat
open Go.Proofs Go.Aw Go.RowKit
set_option maxRecDepth 100000
set_option linter.unusedVariables false
set_option linter.unusedSimpArgs false

def F68 (a0 : ((Int × Int × Int) × (Int × Int × Int) × Int × Int × Int) × Int × Int) : Bool :=
  (decide (((if (a0.1.2.2.2.2 : Int) < (if (a0.1.2.1.2.2 : Int) < a0.1.1.2.2 then a0.1.2.1.2.2 else a0.1.1.2.2) then a0.1.2.2.2.2 else (if (a0.1.2.1.2.2 : Int) < a0.1.1.2.2 then a0.1.2.1.2.2 else a0.1.1.2.2)) : Int) < 0))

theorem C68 (a0 : ((Int × Int × Int) × (Int × Int × Int) × Int × Int × Int) × Int × Int) : Con Tryz.prog 68 [(.a [(iv a0.1.1.1), (iv a0.1.1.2.1), (iv a0.1.1.2.2), (iv a0.1.2.1.1), (iv a0.1.2.1.2.1), (iv a0.1.2.1.2.2), (iv a0.1.2.2.1), (iv a0.1.2.2.2.1), (iv a0.1.2.2.2.2), (iv a0.2.1), (iv a0.2.2)])] [] (.v (.bool (F68 a0))) [] := by
  refine con_s Tryz.func68 (by kernel_rfl) fun cx hcx => ?_
  have e := Eq.refl (F68 a0); conv at e => rhs; simp only [F68]
  rw [e]
  exact rt [] [] [] hcx (by kernel_rfl)

noncomputable def B102_L_f68_0 : Code := (loopAtD [1, 0, 1] [] (bodyOf Tryz.f102) []).1
noncomputable def K102_L_f68_0 : List K := (loopAtD [1, 0, 1] [] (bodyOf Tryz.f102) []).2

def st102_L_f68_0 (a0 : List (((Int × Int × Int) × (Int × Int × Int) × Int × Int × Int) × Int × Int)) (v1 : Int) : LS := ⟨slN 19 [(0, (.s 0 0 a0.length 11)), (1, (.v (.func (.func 68) #[] #[]))), (7, (iv ((a0.length : Nat) : Int))), (8, (iv v1))], [(.live false true (flat c63 a0))]⟩

def S102_L_f68_0 (a0 : List (((Int × Int × Int) × (Int × Int × Int) × Int × Int × Int) × Int × Int)) : Int → (Int) ⊕ (Int)
  | v1 =>
   (bif (decide ((v1 : Int) < ((a0.length : Nat) : Int))) then
    (bif (F68 (a0.getD (Int.toNat v1) default)) then
     (.inr v1)
    else
     (.inl (v1 + 1)))
   else
    (.inr (-1)))

set_option maxHeartbeats 4000000 in
theorem L102_L_f68_0 (a0 : List (((Int × Int × Int) × (Int × Int × Int) × Int × Int × Int) × Int × Int)) (l0 : a0.length ≤ 9223372036854775807) {cx : Cx} (hcx : cx.base = 1) : ∀ (n : Nat) (v1 : Int), 0 ≤ v1 → Int.toNat (((a0.length : Nat) : Int) - v1) < n → Aw.Good Tryz.prog none 9 (bodyPost Tryz.prog Tryz.f102 (RR cx (iv (loopF (S102_L_f68_0 a0) n v1)) [] [])) cx [] (.l B102_L_f68_0 n :: K102_L_f68_0) (st102_L_f68_0 a0 v1) := by
  intro n
  induction n with
  | zero => intro v1 hi hn; exact absurd hn (Nat.not_lt_zero _)
  | succ n ih =>
    intro v1 hi hn
    refine good_round ?_
    cases h0 : (decide ((v1 : Int) < ((a0.length : Nat) : Int))) with
    | true =>
     have q0 := of_decide_eq_true h0
     let t1 : List (St Tryz.prog) := [.d h0, .i v1 (a0.length), .L c63_len a0 v1 0 11, .c [] (C68 (a0.getD (Int.toNat v1) default))]
     cases h1 : (F68 (a0.getD (Int.toNat v1) default)) with
     | true =>
      have e := Eq.refl (S102_L_f68_0 a0 v1); conv at e => rhs; simp only [S102_L_f68_0, h0, h1, cond_true, cond_false]
      rw [loopF_s, e]
      exact rt (t1 ++ [.d h1]) [] [] hcx (by kernel_rfl)
     | false =>
      have e := Eq.refl (S102_L_f68_0 a0 v1); conv at e => rhs; simp only [S102_L_f68_0, h0, h1, cond_true, cond_false]
      rw [loopF_inl e]
      refine ba (t1 ++ [.d h1]) [] [0, 1, 7, 8] [] hcx (m := n) B102_L_f68_0 (K102_L_f68_0) (st102_L_f68_0 a0 (W (v1 + 1))) (by kernel_rfl) ?_
      have z0 : (W (v1 + 1)) = (v1 + 1) := W_eq (by omega) (by omega)
      rw [z0]
      exact ih (v1 + 1) (by (try simp only [List.length_append, List.length_cons, List.length_nil, Int.toNat_zero]); omega) (by (try simp only [List.length_append, List.length_cons, List.length_nil, Int.toNat_zero]); omega)
    | false =>
     have q0 := of_decide_eq_false h0
     have e := Eq.refl (S102_L_f68_0 a0 v1); conv at e => rhs; simp only [S102_L_f68_0, h0, cond_true, cond_false]
     rw [loopF_s, e]
     exact rt [.d h0] [] [] hcx (by kernel_rfl)

def F102_L_f68 (a0 : List (((Int × Int × Int) × (Int × Int × Int) × Int × Int × Int) × Int × Int)) : Int :=
  (loopF (S102_L_f68_0 a0) (Int.toNat (((a0.length : Nat) : Int) - 0) + 1) 0)

theorem C102_L_f68 (a0 : List (((Int × Int × Int) × (Int × Int × Int) × Int × Int × Int) × Int × Int)) (l0 : a0.length ≤ 9223372036854775807) : Con Tryz.prog 102 [(.s 0 0 a0.length 11), (.v (.func (.func 68) #[] #[]))] [(.live false true (flat c63 a0))] (iv (F102_L_f68 a0)) [] := by
  refine con_s Tryz.func102 (by kernel_rfl) fun cx hcx => ?_
  have e := Eq.refl (F102_L_f68 a0); conv at e => rhs; simp only [F102_L_f68]
  rw [e]
  refine en [] [] [0, 1, 7, 8] [] hcx B102_L_f68_0 (K102_L_f68_0) (st102_L_f68_0 a0 0) (Int.toNat (((a0.length : Nat) : Int) - 0) + 1) (by kernel_rfl) ?_
  exact L102_L_f68_0 a0 l0 hcx (Int.toNat (((a0.length : Nat) : Int) - 0) + 1) 0 (by (try simp only [List.length_append, List.length_cons, List.length_nil, Int.toNat_zero]); omega) (by (try simp only [List.length_append, List.length_cons, List.length_nil, Int.toNat_zero]); omega)

def F67_L_f68 (a0 : List (((Int × Int × Int) × (Int × Int × Int) × Int × Int × Int) × Int × Int)) : Bool :=
  (decide (((F102_L_f68 a0) : Int) ≥ 0))

theorem C67_L_f68 (a0 : List (((Int × Int × Int) × (Int × Int × Int) × Int × Int × Int) × Int × Int)) (l0 : a0.length ≤ 9223372036854775807) : Con Tryz.prog 67 [(.s 0 0 a0.length 11), (.v (.func (.func 68) #[] #[]))] [(.live false true (flat c63 a0))] (.v (.bool (F67_L_f68 a0))) [] := by
  refine con_s Tryz.func67 (by kernel_rfl) fun cx hcx => ?_
  have e := Eq.refl (F67_L_f68 a0); conv at e => rhs; simp only [F67_L_f68]
  rw [e]
  exact rt [.c [0] (C102_L_f68 a0 (by (try simp only [List.length_append, List.length_cons, List.length_nil, Int.toNat_zero]); omega))] [] [] hcx (by kernel_rfl)

def F70 (a0 : Int × Int × Int) : Int × Int × Int :=
  (a0.1, a0.2.1, (W (0 - a0.2.2)))

theorem C70 (a0 : Int × Int × Int) : Con Tryz.prog 70 [(.a (k3 a0))] [] (.a (k3 (F70 a0))) [] := by
  refine con_s Tryz.func70 (by kernel_rfl) fun cx hcx => ?_
  have e := Eq.refl (F70 a0); conv at e => rhs; simp only [F70]
  rw [e]
  exact rt [] [] [] hcx (by kernel_rfl)

noncomputable def B44_L_0 : Code := (loopAtD [1, 1, 1, 1, 1, 0, 1] [] (bodyOf Tryz.f44) []).1
noncomputable def K44_L_0 : List K := (loopAtD [1, 1, 1, 1, 1, 0, 1] [] (bodyOf Tryz.f44) []).2

def st44_L_0 (a0 : List (((Int × Int × Int) × (Int × Int × Int) × Int × Int × Int) × Int × Int)) (a1 : Bool) (v1c : List SV) (v1n : Nat) (v2 : Int) : LS := ⟨slN 57 [(1, (.v (.bool a1))), (8, (.s 1 0 v1n 11)), (26, (.s 0 0 a0.length 11)), (27, (iv ((a0.length : Nat) : Int))), (28, (iv v2))], [(.live false true (flat c63 a0)), (.live true true v1c)]⟩

def S44_L_0 (a0 : List (((Int × Int × Int) × (Int × Int × Int) × Int × Int × Int) × Int × Int)) (a1 : Bool) : (List (((Int × Int × Int) × (Int × Int × Int) × Int × Int × Int) × Int × Int)) × Int → ((List (((Int × Int × Int) × (Int × Int × Int) × Int × Int × Int) × Int × Int)) × Int) ⊕ ((List (((Int × Int × Int) × (Int × Int × Int) × Int × Int × Int) × Int × Int)) × Int)
  | (v1, v2) =>
   (bif (decide ((v2 : Int) < ((a0.length : Nat) : Int))) then
    (bif a1 then
     (.inl ((v1 ++ [(((F70 (a0.getD (Int.toNat v2) default).1.1), (F70 (a0.getD (Int.toNat v2) default).1.2.1), (F70 (a0.getD (Int.toNat v2) default).1.2.2)), (a0.getD (Int.toNat v2) default).2.1, (W (0 - (a0.getD (Int.toNat v2) default).2.2)))]), (v2 + 1)))
    else
     (.inl ((v1 ++ [(((F70 (a0.getD (Int.toNat v2) default).1.1), (F70 (a0.getD (Int.toNat v2) default).1.2.1), (F70 (a0.getD (Int.toNat v2) default).1.2.2)), (a0.getD (Int.toNat v2) default).2.1, (a0.getD (Int.toNat v2) default).2.2)]), (v2 + 1))))
   else
    (.inr (v1, 0)))

set_option maxHeartbeats 4000000 in
theorem L44_L_0 (a0 : List (((Int × Int × Int) × (Int × Int × Int) × Int × Int × Int) × Int × Int)) (a1 : Bool) (l0 : a0.length ≤ 9223372036854775807) {cx : Cx} (hcx : cx.base = 1) : ∀ (n : Nat) (v1 : List (((Int × Int × Int) × (Int × Int × Int) × Int × Int × Int) × Int × Int)) (v2 : Int), (0 ≤ v2) ∧ (v1.length = (F69_L a0).length + Int.toNat v2) ∧ (v2 ≤ a0.length) ∧ (a0.length ≤ 16) → Int.toNat (((a0.length : Nat) : Int) - v2) < n → Aw.Good Tryz.prog none 9 (bodyPost Tryz.prog Tryz.f44 (RR cx (.t [(.s 1 0 (loopF (S44_L_0 a0 a1) n (v1, v2)).1.length 11), (iv (loopF (S44_L_0 a0 a1) n (v1, v2)).2)]) [(.live true true (flat c63 (loopF (S44_L_0 a0 a1) n (v1, v2)).1))] [])) cx [] (.l B44_L_0 n :: K44_L_0) (st44_L_0 a0 a1 (flat c63 v1) v1.length v2) := by
  intro n
  induction n with
  | zero => intro v1 v2 hi hn; exact absurd hn (Nat.not_lt_zero _)
  | succ n ih =>
    intro v1 v2 hi hn
    refine good_round ?_
    have hcl := clone_len a0
    cases h0 : (decide ((v2 : Int) < ((a0.length : Nat) : Int))) with
    | true =>
     have q0 := of_decide_eq_true h0
     let t1 : List (St Tryz.prog) := [.d h0, .i v2 (a0.length), .L c63_len a0 v2 0 11, .c [] (C70 (a0.getD (Int.toNat v2) default).1.1), .c [] (C70 (a0.getD (Int.toNat v2) default).1.2.1), .c [] (C70 (a0.getD (Int.toNat v2) default).1.2.2)]
     rcases bool_tf a1 with h1 | h1
     · skip
       have e := Eq.refl (S44_L_0 a0 a1 (v1, v2)); conv at e => rhs; simp only [S44_L_0, h0, h1, cond_true, cond_false]
       rw [loopF_inl e]
       refine ba (t1 ++ [.d h1, .p (show ((flat c63 v1).length = v1.length * 11 ∧ v1.length + 1 ≤ 2 ^ 40 ∧ (v1.length + 1) * 88 ≤ 2 ^ 47) from app_ok c63_len (by omega) (by omega))]) [] [1, 8, 26, 27, 28] [4] hcx (m := n) B44_L_0 (K44_L_0) (st44_L_0 a0 a1 (flat c63 v1 ++ [(iv (F70 (a0.getD (Int.toNat v2) default).1.1).1), (iv (F70 (a0.getD (Int.toNat v2) default).1.1).2.1), (iv (F70 (a0.getD (Int.toNat v2) default).1.1).2.2), (iv (F70 (a0.getD (Int.toNat v2) default).1.2.1).1), (iv (F70 (a0.getD (Int.toNat v2) default).1.2.1).2.1), (iv (F70 (a0.getD (Int.toNat v2) default).1.2.1).2.2), (iv (F70 (a0.getD (Int.toNat v2) default).1.2.2).1), (iv (F70 (a0.getD (Int.toNat v2) default).1.2.2).2.1), (iv (F70 (a0.getD (Int.toNat v2) default).1.2.2).2.2), (iv (a0.getD (Int.toNat v2) default).2.1), (iv (W (0 - (a0.getD (Int.toNat v2) default).2.2)))]) (v1.length + 1) (W (v2 + 1))) (by kernel_rfl) ?_
       have z0 : (W (v2 + 1)) = (v2 + 1) := W_eq (by omega) (by omega)
       have z1 : (flat c63 v1 ++ [(iv (F70 (a0.getD (Int.toNat v2) default).1.1).1), (iv (F70 (a0.getD (Int.toNat v2) default).1.1).2.1), (iv (F70 (a0.getD (Int.toNat v2) default).1.1).2.2), (iv (F70 (a0.getD (Int.toNat v2) default).1.2.1).1), (iv (F70 (a0.getD (Int.toNat v2) default).1.2.1).2.1), (iv (F70 (a0.getD (Int.toNat v2) default).1.2.1).2.2), (iv (F70 (a0.getD (Int.toNat v2) default).1.2.2).1), (iv (F70 (a0.getD (Int.toNat v2) default).1.2.2).2.1), (iv (F70 (a0.getD (Int.toNat v2) default).1.2.2).2.2), (iv (a0.getD (Int.toNat v2) default).2.1), (iv (W (0 - (a0.getD (Int.toNat v2) default).2.2)))]) = (flat c63 (v1 ++ [(((F70 (a0.getD (Int.toNat v2) default).1.1), (F70 (a0.getD (Int.toNat v2) default).1.2.1), (F70 (a0.getD (Int.toNat v2) default).1.2.2)), (a0.getD (Int.toNat v2) default).2.1, (W (0 - (a0.getD (Int.toNat v2) default).2.2)))])) := (flat_append (c := c63) (l := v1) (m := [(((F70 (a0.getD (Int.toNat v2) default).1.1), (F70 (a0.getD (Int.toNat v2) default).1.2.1), (F70 (a0.getD (Int.toNat v2) default).1.2.2)), (a0.getD (Int.toNat v2) default).2.1, (W (0 - (a0.getD (Int.toNat v2) default).2.2)))])).symm
       have z2 : (v1.length + 1) = (v1 ++ [(((F70 (a0.getD (Int.toNat v2) default).1.1), (F70 (a0.getD (Int.toNat v2) default).1.2.1), (F70 (a0.getD (Int.toNat v2) default).1.2.2)), (a0.getD (Int.toNat v2) default).2.1, (W (0 - (a0.getD (Int.toNat v2) default).2.2)))]).length := len_app v1 [(((F70 (a0.getD (Int.toNat v2) default).1.1), (F70 (a0.getD (Int.toNat v2) default).1.2.1), (F70 (a0.getD (Int.toNat v2) default).1.2.2)), (a0.getD (Int.toNat v2) default).2.1, (W (0 - (a0.getD (Int.toNat v2) default).2.2)))] rfl
       rw [z0, z1, z2]
       exact ih (v1 ++ [(((F70 (a0.getD (Int.toNat v2) default).1.1), (F70 (a0.getD (Int.toNat v2) default).1.2.1), (F70 (a0.getD (Int.toNat v2) default).1.2.2)), (a0.getD (Int.toNat v2) default).2.1, (W (0 - (a0.getD (Int.toNat v2) default).2.2)))]) (v2 + 1) (by refine ⟨?_, ?_, ?_, ?_⟩ <;> (try simp only [List.length_append, List.length_cons, List.length_nil, Int.toNat_zero]) <;> first | omega | assumption | simp) (by (try simp only [List.length_append, List.length_cons, List.length_nil, Int.toNat_zero]); omega)
     · skip
       have e := Eq.refl (S44_L_0 a0 a1 (v1, v2)); conv at e => rhs; simp only [S44_L_0, h0, h1, cond_true, cond_false]
       rw [loopF_inl e]
       refine ba (t1 ++ [.d h1, .p (show ((flat c63 v1).length = v1.length * 11 ∧ v1.length + 1 ≤ 2 ^ 40 ∧ (v1.length + 1) * 88 ≤ 2 ^ 47) from app_ok c63_len (by omega) (by omega))]) [] [1, 8, 26, 27, 28] [4] hcx (m := n) B44_L_0 (K44_L_0) (st44_L_0 a0 a1 (flat c63 v1 ++ [(iv (F70 (a0.getD (Int.toNat v2) default).1.1).1), (iv (F70 (a0.getD (Int.toNat v2) default).1.1).2.1), (iv (F70 (a0.getD (Int.toNat v2) default).1.1).2.2), (iv (F70 (a0.getD (Int.toNat v2) default).1.2.1).1), (iv (F70 (a0.getD (Int.toNat v2) default).1.2.1).2.1), (iv (F70 (a0.getD (Int.toNat v2) default).1.2.1).2.2), (iv (F70 (a0.getD (Int.toNat v2) default).1.2.2).1), (iv (F70 (a0.getD (Int.toNat v2) default).1.2.2).2.1), (iv (F70 (a0.getD (Int.toNat v2) default).1.2.2).2.2), (iv (a0.getD (Int.toNat v2) default).2.1), (iv (a0.getD (Int.toNat v2) default).2.2)]) (v1.length + 1) (W (v2 + 1))) (by kernel_rfl) ?_
       have z0 : (W (v2 + 1)) = (v2 + 1) := W_eq (by omega) (by omega)
       have z1 : (flat c63 v1 ++ [(iv (F70 (a0.getD (Int.toNat v2) default).1.1).1), (iv (F70 (a0.getD (Int.toNat v2) default).1.1).2.1), (iv (F70 (a0.getD (Int.toNat v2) default).1.1).2.2), (iv (F70 (a0.getD (Int.toNat v2) default).1.2.1).1), (iv (F70 (a0.getD (Int.toNat v2) default).1.2.1).2.1), (iv (F70 (a0.getD (Int.toNat v2) default).1.2.1).2.2), (iv (F70 (a0.getD (Int.toNat v2) default).1.2.2).1), (iv (F70 (a0.getD (Int.toNat v2) default).1.2.2).2.1), (iv (F70 (a0.getD (Int.toNat v2) default).1.2.2).2.2), (iv (a0.getD (Int.toNat v2) default).2.1), (iv (a0.getD (Int.toNat v2) default).2.2)]) = (flat c63 (v1 ++ [(((F70 (a0.getD (Int.toNat v2) default).1.1), (F70 (a0.getD (Int.toNat v2) default).1.2.1), (F70 (a0.getD (Int.toNat v2) default).1.2.2)), (a0.getD (Int.toNat v2) default).2.1, (a0.getD (Int.toNat v2) default).2.2)])) := (flat_append (c := c63) (l := v1) (m := [(((F70 (a0.getD (Int.toNat v2) default).1.1), (F70 (a0.getD (Int.toNat v2) default).1.2.1), (F70 (a0.getD (Int.toNat v2) default).1.2.2)), (a0.getD (Int.toNat v2) default).2.1, (a0.getD (Int.toNat v2) default).2.2)])).symm
       have z2 : (v1.length + 1) = (v1 ++ [(((F70 (a0.getD (Int.toNat v2) default).1.1), (F70 (a0.getD (Int.toNat v2) default).1.2.1), (F70 (a0.getD (Int.toNat v2) default).1.2.2)), (a0.getD (Int.toNat v2) default).2.1, (a0.getD (Int.toNat v2) default).2.2)]).length := len_app v1 [(((F70 (a0.getD (Int.toNat v2) default).1.1), (F70 (a0.getD (Int.toNat v2) default).1.2.1), (F70 (a0.getD (Int.toNat v2) default).1.2.2)), (a0.getD (Int.toNat v2) default).2.1, (a0.getD (Int.toNat v2) default).2.2)] rfl
       rw [z0, z1, z2]
       exact ih (v1 ++ [(((F70 (a0.getD (Int.toNat v2) default).1.1), (F70 (a0.getD (Int.toNat v2) default).1.2.1), (F70 (a0.getD (Int.toNat v2) default).1.2.2)), (a0.getD (Int.toNat v2) default).2.1, (a0.getD (Int.toNat v2) default).2.2)]) (v2 + 1) (by refine ⟨?_, ?_, ?_, ?_⟩ <;> (try simp only [List.length_append, List.length_cons, List.length_nil, Int.toNat_zero]) <;> first | omega | assumption | simp) (by (try simp only [List.length_append, List.length_cons, List.length_nil, Int.toNat_zero]); omega)
    | false =>
     have q0 := of_decide_eq_false h0
     have e := Eq.refl (S44_L_0 a0 a1 (v1, v2)); conv at e => rhs; simp only [S44_L_0, h0, cond_true, cond_false]
     rw [loopF_s, e]
     exact rt [.d h0] [] [1] hcx (by kernel_rfl)

def F44_L (a0 : List (((Int × Int × Int) × (Int × Int × Int) × Int × Int × Int) × Int × Int)) (a1 : Bool) : (List (((Int × Int × Int) × (Int × Int × Int) × Int × Int × Int) × Int × Int)) × Int :=
  (bif (((F24_L a0 (!(F67_L_f68 a0))) : Int) != 0) then
   (([] : List (((Int × Int × Int) × (Int × Int × Int) × Int × Int × Int) × Int × Int)), (F24_L a0 (!(F67_L_f68 a0))))
  else
   (bif (decide (((W (2 * ((a0.length : Nat) : Int))) : Int) > 16)) then
    (([] : List (((Int × Int × Int) × (Int × Int × Int) × Int × Int × Int) × Int × Int)), 4)
   else
    (loopF (S44_L_0 a0 a1) (Int.toNat (((a0.length : Nat) : Int) - 0) + 1) ((F69_L a0), 0))))

theorem C44_L (a0 : List (((Int × Int × Int) × (Int × Int × Int) × Int × Int × Int) × Int × Int)) (a1 : Bool) (l0 : a0.length ≤ 9223372036854775807) : Con Tryz.prog 44 [(.s 0 0 a0.length 11), (.v (.bool a1))] [(.live false true (flat c63 a0))] (.t [(.s 1 0 (F44_L a0 a1).1.length 11), (iv (F44_L a0 a1).2)]) [(.live true true (flat c63 (F44_L a0 a1).1))] := by
  refine con_s Tryz.func44 (by kernel_rfl) fun cx hcx => ?_
  try have hl16 := chkL_len h0
  have hcl := clone_len a0
  let t0 : List (St Tryz.prog) := [.c [0] (C67_L_f68 a0 (by (try simp only [List.length_append, List.length_cons, List.length_nil, Int.toNat_zero]); omega)), .c [0] (C24_L a0 (!(F67_L_f68 a0)) (by (try simp only [List.length_append, List.length_cons, List.length_nil, Int.toNat_zero]); omega))]
  cases h0 : (((F24_L a0 (!(F67_L_f68 a0))) : Int) != 0) with
  | true =>
   have q0 := bne_iff_ne.1 h0
   try have hl16 := chkL_len h0
   have e := Eq.refl (F44_L a0 a1); conv at e => rhs; simp only [F44_L, h0, cond_true, cond_false]
   rw [e]
   exact rt (t0 ++ [.d h0]) [.slot 4 11] [1] hcx (by kernel_rfl)
  | false =>
   have q0 := bne_eq_false_iff_eq.1 h0
   try have hl16 := chkL_len h0
   let t1 : List (St Tryz.prog) := (t0 ++ [.d h0])
   cases h1 : (decide (((W (2 * ((a0.length : Nat) : Int))) : Int) > 16)) with
   | true =>
    have q1 := of_decide_eq_true h1
    try have hl16 := chkL_len h0
    have e := Eq.refl (F44_L a0 a1); conv at e => rhs; simp only [F44_L, h0, h1, cond_true, cond_false]
    rw [e]
    exact rt (t1 ++ [.d h1]) [.slot 4 11] [1] hcx (by kernel_rfl)
   | false =>
    have q1 := of_decide_eq_false h1
    try have hl16 := chkL_len h0
    have e := Eq.refl (F44_L a0 a1); conv at e => rhs; simp only [F44_L, h0, h1, cond_true, cond_false]
    rw [e]
    refine en (t1 ++ [.d h1, .c [0] (clone_con a0 (by (try simp only [List.length_append, List.length_cons, List.length_nil, Int.toNat_zero]); omega) (by omega))]) [] [1, 8, 26, 27, 28] [1] hcx B44_L_0 (K44_L_0) (st44_L_0 a0 a1 (flat c63 (F69_L a0)) ((F69_L a0).length) 0) (Int.toNat (((a0.length : Nat) : Int) - 0) + 1) (by kernel_rfl) ?_
    exact L44_L_0 a0 a1 l0 hcx (Int.toNat (((a0.length : Nat) : Int) - 0) + 1) (F69_L a0) 0 (by refine ⟨?_, ?_, ?_, ?_⟩ <;> (try simp only [List.length_append, List.length_cons, List.length_nil, Int.toNat_zero]) <;> first | omega | assumption | simp) (by (try simp only [List.length_append, List.length_cons, List.length_nil, Int.toNat_zero]); omega)

end Go.Proofs.YtcnnmgooolnebaaGreat

namespace Go.Proofs.YtcnnmgooolnebaaGreat
open Go.Proofs Go.Aw Go.RowKit
set_option maxRecDepth 100000
set_option linter.unusedVariables false
set_option linter.unusedSimpArgs false

/-! ### Images behind a wall -/
def bz (p : PU) : Prop := p.1.1.2.2 < 0 ∨ p.1.2.1.2.2 < 0 ∨ p.1.2.2.2.2 < 0
instance (p : PU) : Decidable (bz p) := by unfold bz; exact inferInstance
def gz (p : PU) : Int := if bz p then 1 else 0
theorem neg_f (p : PU) : F68 p = decide (bz p) := by
  unfold F68 bz
  apply decide_eq_decide.2
  (repeat' split) <;> omega
theorem idx_f (l : List PU) : ∀ (k : List PU) (i n : Nat), l.drop i = k → i ≤ l.length → k.length < n → (0 ≤ loopF (S102_L_f68_0 l) n (i : Int) ↔ fe gz k ≠ 0)
  | [], i, n, hd, hi', hn => by
    have : i = l.length := by have := List.drop_eq_nil_iff.1 hd; omega
    obtain ⟨n, rfl⟩ : ∃ m, n = m + 1 := ⟨n - 1, by simp only [List.length_nil] at hn; omega⟩
    subst this
    have e : S102_L_f68_0 l (l.length : Int) = .inr (-1) := by
      simp only [S102_L_f68_0]
      rw [decide_eq_false (Int.lt_irrefl _), cond_false]
    rw [loopF_inr e]; simp [fe]
  | c :: k, i, n, hd, hi', hn => by
    have hc : l[i]? = some c := by
      have : (l.drop i)[0]? = some c := by rw [hd]; rfl
      simpa using this
    obtain ⟨hg, hlt⟩ := getD_some hc
    obtain ⟨n, rfl⟩ : ∃ m, n = m + 1 := ⟨n - 1, by omega⟩
    have e : S102_L_f68_0 l (i : Int) = if bz c then .inr (i : Int) else .inl ((i + 1 : Nat) : Int) := by
      simp only [S102_L_f68_0]
      rw [decide_eq_true (show ((i : Nat) : Int) < (l.length : Nat) by omega), cond_true, Int.toNat_natCast, hg, neg_f]
      by_cases h : bz c <;> simp [h]
    unfold fe gz
    by_cases h : bz c
    · rw [if_pos h] at e
      rw [loopF_inr e, if_pos h]; simp
    · rw [if_neg h] at e
      rw [loopF_inl e, if_neg h, if_pos rfl]
      exact idx_f l k (i + 1) n (by rw [← List.drop_drop, hd]; rfl) (by omega) (by simp only [List.length_cons] at hn; omega)
theorem con_f (l : List PU) : F67_L_f68 l = decide (fe gz l ≠ 0) := by
  unfold F67_L_f68 F102_L_f68
  exact decide_eq_decide.2 (idx_f l l 0 _ rfl (Nat.zero_le _) (by omega))
def im (soft : Bool) (p : PU) : PU := ((F70 p.1.1, F70 p.1.2.1, F70 p.1.2.2), p.2.1, bif soft then W (0 - p.2.2) else p.2.2)
noncomputable def imV (l : List PU) (soft : Bool) : List PU × Int :=
  if vpL l = 0 then (if fe gz l = 0 then (if 16 < 2 * l.length then ([], 4) else (l ++ l.map (im soft), 0)) else ([], 1)) else ([], vpL l)
theorem shs_all {α β : Type} {f : α → β} : ∀ (k : List α) (l : List β), shs (fun c => (f c, 0)) k l = .inl (l ++ k.map f)
  | [], l => by simp [shs]
  | c :: k, l => by
    unfold shs
    rw [if_pos rfl, shs_all k]; simp
theorem Images_f (l : List PU) (soft : Bool) : F44_L l soft = imV l soft := by
  unfold F44_L imV
  rw [chkL_f, con_f]
  by_cases h : vpL l = 0
  · have h16 := (vpL_ok h).1
    rw [if_pos h, if_pos h, W_eq (n := 2 * ((l.length : Nat) : Int)) (by omega) (by omega)]
    by_cases h1 : fe gz l = 0
    · rw [if_pos h1, decide_eq_false (show ¬ fe gz l ≠ 0 from fun h => h h1), if_pos (show (!false) = true from rfl)]
      by_cases h2 : 16 < 2 * l.length
      · rw [if_pos h2, decide_eq_true (show 2 * ((l.length : Nat) : Int) > 16 by omega)]; rfl
      · rw [if_neg h2, decide_eq_false (show ¬ 2 * ((l.length : Nat) : Int) > 16 by omega)]
        have key := shs_loopF (g := fun p => (im soft p, 0)) (S := S44_L_0 l soft) (L := l) (G := fun m => (m, (0 : Int))) (E := fun e => (([] : List PU), e)) (fun i c hi m => ?_) (fun m => ?_) l 0 (Int.toNat (((l.length : Nat) : Int) - 0) + 1) l rfl (Nat.zero_le _) (by omega)
        · rw [shs_all] at key
          exact key
        · obtain ⟨hg, hlt⟩ := getD_some hi
          simp only [S44_L_0]
          rw [decide_eq_true (show ((i : Nat) : Int) < (l.length : Nat) by omega), cond_true, Int.toNat_natCast, hg]
          cases soft <;> rfl
        · simp only [S44_L_0]
          rw [decide_eq_false (Int.lt_irrefl _), cond_false]
    · rw [if_neg h1, decide_eq_true (show fe gz l ≠ 0 from h1)]; rfl
  · rw [if_neg h, if_neg h, bne_iff_ne.2 h]; rfl
theorem imV_len (l : List PU) (soft : Bool) : (imV l soft).1.length ≤ 32 := by
  unfold imV
  split
  · split
    · split
      · simp
      · simp only [List.length_append, List.length_map]; omega
    · simp
  · simp
theorem imf_len (l : List PU) (soft : Bool) : (F44_L l soft).1.length ≤ 32 := by rw [Images_f]; exact imV_len l soft
end Go.Proofs.YtcnnmgooolnebaaGreat

namespace Go.Proofs.YtcnnmgooolnebaaGreat
open Go.Proofs Go.Aw Go.RowKit
set_option maxRecDepth 100000
set_option linter.unusedVariables false
set_option linter.unusedSimpArgs false

theorem vpL_get {l : List PU} (h : vpL l = 0) {i : Nat} (hi : i < l.length) : POK (l.getD i default) := by
  have : l.getD i default = l[i] := by rw [List.getD_eq_getElem?_getD, List.getElem?_eq_getElem hi]; rfl
  rw [this]
  exact (vpL_ok h).2 _ (List.getElem_mem hi)
theorem ckL_v {l : List PU} {b : Bool} (h : ((F24_L l b : Int) != 0) = false) : vpL l = 0 := by
  have := (chkL_0 h).1
  rw [vpl_f] at this; exact this
theorem ckL_b {l : List PU} {b : Bool} (h : ((F24_L l b : Int) != 0) = false) : b = true := (chkL_0 h).2

def F54 (a0 : ((Int × Int × Int) × (Int × Int × Int) × Int × Int × Int) × Int × Int) (a1 : Int × Int × Int) (a2 : Int) (a3 : Int) (a4 : Int) : (Int × Int) × Int :=
  ((F55 a0 a1 a2 a3 a4).1, (F55 a0 a1 a2 a3 a4).2)

theorem C54 (a0 : ((Int × Int × Int) × (Int × Int × Int) × Int × Int × Int) × Int × Int) (a1 : Int × Int × Int) (a2 : Int) (a3 : Int) (a4 : Int) (hp : POK a0) (hx : bd 256 a1) (hs : 1 ≤ a2 ∧ a2 ≤ 16) (ht : 0 ≤ a3 ∧ a3 ≤ 2000) (hd : 0 ≤ a4 ∧ a4 ≤ 3) : Con Tryz.prog 54 [(.a [(iv a0.1.1.1), (iv a0.1.1.2.1), (iv a0.1.1.2.2), (iv a0.1.2.1.1), (iv a0.1.2.1.2.1), (iv a0.1.2.1.2.2), (iv a0.1.2.2.1), (iv a0.1.2.2.2.1), (iv a0.1.2.2.2.2), (iv a0.2.1), (iv a0.2.2)]), (.p 0 0), (.p 1 0), (.p 2 0), (.p 3 0)] [(.live false false (k3 a1)), (.live false false [(iv a2)]), (.live false false [(iv a3)]), (.live false false [(iv a4)])] (.t [(.a (k2 (F54 a0 a1 a2 a3 a4).1)), (iv (F54 a0 a1 a2 a3 a4).2)]) [] := by
  refine con_s Tryz.func54 (by kernel_rfl) fun cx hcx => ?_
  have e := Eq.refl (F54 a0 a1 a2 a3 a4); conv at e => rhs; simp only [F54]
  rw [e]
  exact rt [.c [] (C55 a0 a1 a2 a3 a4  hp hx hs ht hd)] [] [] hcx (by kernel_rfl)

noncomputable def B27_L_c54_0 : Code := (loopAtD [1, 1, 0, 1] [] (bodyOf Tryz.f27) []).1
noncomputable def K27_L_c54_0 : List K := (loopAtD [1, 1, 0, 1] [] (bodyOf Tryz.f27) []).2

def st27_L_c54_0 (a0 : List (((Int × Int × Int) × (Int × Int × Int) × Int × Int × Int) × Int × Int)) (a1_0 : Int × Int × Int) (a1_1 : Int) (a1_2 : Int) (a1_3 : Int) (v2c : List SV) (v2n : Nat) (v3 : Int) : LS := ⟨slN 36 [(1, (.f 54 [(.p 1 0), (.p 2 0), (.p 3 0), (.p 4 0)])), (4, (.p 5 0)), (6, (.s 6 0 v2n 2)), (11, (.s 0 0 a0.length 11)), (12, (iv ((a0.length : Nat) : Int))), (13, (iv v3))], [(.live false true (flat c63 a0)), (.live false false (k3 a1_0)), (.live false false [(iv a1_1)]), (.live false false [(iv a1_2)]), (.live false false [(iv a1_3)]), (.live true false [(iv 0), (iv 0)]), (.live true true v2c)]⟩

def S27_L_c54_0 (a0 : List (((Int × Int × Int) × (Int × Int × Int) × Int × Int × Int) × Int × Int)) (a1_0 : Int × Int × Int) (a1_1 : Int) (a1_2 : Int) (a1_3 : Int) : (List (Int × Int)) × Int → ((List (Int × Int)) × Int) ⊕ ((Int × Int) × Int)
  | (v2, v3) =>
   (bif (decide ((v3 : Int) < ((a0.length : Nat) : Int))) then
    (bif (((F54 (a0.getD (Int.toNat v3) default) a1_0 a1_1 a1_2 a1_3).2 : Int) != 0) then
     (.inr ((0, 0), (F54 (a0.getD (Int.toNat v3) default) a1_0 a1_1 a1_2 a1_3).2))
    else
     (.inl ((v2 ++ [(F54 (a0.getD (Int.toNat v3) default) a1_0 a1_1 a1_2 a1_3).1]), (v3 + 1))))
   else
    (.inr ((F10_L v2).1, (F10_L v2).2)))

set_option maxHeartbeats 4000000 in
theorem L27_L_c54_0 (a0 : List (((Int × Int × Int) × (Int × Int × Int) × Int × Int × Int) × Int × Int)) (a1_0 : Int × Int × Int) (a1_1 : Int) (a1_2 : Int) (a1_3 : Int) (l0 : a0.length ≤ 9223372036854775807) (hv : vpL a0 = 0) (hx : bd 256 a1_0) (hs : 1 ≤ a1_1 ∧ a1_1 ≤ 16) (ht : 0 ≤ a1_2 ∧ a1_2 ≤ 2000) (hd : 0 ≤ a1_3 ∧ a1_3 ≤ 3) {cx : Cx} (hcx : cx.base = 5) : ∀ (n : Nat) (v2 : List (Int × Int)) (v3 : Int), (0 ≤ v3) ∧ (v2.length = Int.toNat v3) ∧ (v3 ≤ a0.length) → Int.toNat (((a0.length : Nat) : Int) - v3) < n → Aw.Good Tryz.prog none 9 (bodyPost Tryz.prog Tryz.f27 (RR cx (.t [(.a (k2 (loopF (S27_L_c54_0 a0 a1_0 a1_1 a1_2 a1_3) n (v2, v3)).1)), (iv (loopF (S27_L_c54_0 a0 a1_0 a1_1 a1_2 a1_3) n (v2, v3)).2)]) [] [])) cx [] (.l B27_L_c54_0 n :: K27_L_c54_0) (st27_L_c54_0 a0 a1_0 a1_1 a1_2 a1_3 (flat c34 v2) v2.length v3) := by
  intro n
  induction n with
  | zero => intro v2 v3 hi hn; exact absurd hn (Nat.not_lt_zero _)
  | succ n ih =>
    intro v2 v3 hi hn
    refine good_round ?_
    have hl16 := (vpL_ok hv).1
    cases h0 : (decide ((v3 : Int) < ((a0.length : Nat) : Int))) with
    | true =>
     have q0 := of_decide_eq_true h0
     let t1 : List (St Tryz.prog) := [.d h0, .i v3 (a0.length), .L c63_len a0 v3 0 11, .c [1, 2, 3, 4] (C54 (a0.getD (Int.toNat v3) default) a1_0 a1_1 a1_2 a1_3  (vpL_get hv (by omega)) hx hs ht hd)]
     cases h1 : (((F54 (a0.getD (Int.toNat v3) default) a1_0 a1_1 a1_2 a1_3).2 : Int) != 0) with
     | true =>
      have q1 := bne_iff_ne.1 h1
      have e := Eq.refl (S27_L_c54_0 a0 a1_0 a1_1 a1_2 a1_3 (v2, v3)); conv at e => rhs; simp only [S27_L_c54_0, h0, h1, cond_true, cond_false]
      rw [loopF_s, e]
      exact rt (t1 ++ [.d h1]) [] [] hcx (by kernel_rfl)
     | false =>
      have q1 := bne_eq_false_iff_eq.1 h1
      have e := Eq.refl (S27_L_c54_0 a0 a1_0 a1_1 a1_2 a1_3 (v2, v3)); conv at e => rhs; simp only [S27_L_c54_0, h0, h1, cond_true, cond_false]
      rw [loopF_inl e]
      refine ba (t1 ++ [.d h1, .p (show ((flat c34 v2).length = v2.length * 2 ∧ v2.length + 1 ≤ 2 ^ 40 ∧ (v2.length + 1) * 16 ≤ 2 ^ 47) from app_ok c34_len (by omega) (by omega))]) [] [1, 4, 6, 11, 12, 13] [5, 10] hcx (m := n) B27_L_c54_0 (K27_L_c54_0) (st27_L_c54_0 a0 a1_0 a1_1 a1_2 a1_3 (flat c34 v2 ++ (k2 (F54 (a0.getD (Int.toNat v3) default) a1_0 a1_1 a1_2 a1_3).1)) (v2.length + 1) (W (v3 + 1))) (by kernel_rfl) ?_
      have z0 : (W (v3 + 1)) = (v3 + 1) := W_eq (by omega) (by omega)
      have z1 : (flat c34 v2 ++ (k2 (F54 (a0.getD (Int.toNat v3) default) a1_0 a1_1 a1_2 a1_3).1)) = (flat c34 (v2 ++ [(F54 (a0.getD (Int.toNat v3) default) a1_0 a1_1 a1_2 a1_3).1])) := (flat_append (c := c34) (l := v2) (m := [(F54 (a0.getD (Int.toNat v3) default) a1_0 a1_1 a1_2 a1_3).1])).symm
      have z2 : (v2.length + 1) = (v2 ++ [(F54 (a0.getD (Int.toNat v3) default) a1_0 a1_1 a1_2 a1_3).1]).length := len_app v2 [(F54 (a0.getD (Int.toNat v3) default) a1_0 a1_1 a1_2 a1_3).1] rfl
      rw [z0, z1, z2]
      exact ih (v2 ++ [(F54 (a0.getD (Int.toNat v3) default) a1_0 a1_1 a1_2 a1_3).1]) (v3 + 1) (by refine ⟨?_, ?_, ?_⟩ <;> (try simp only [List.length_append, List.length_cons, List.length_nil, Int.toNat_zero]) <;> first | omega | assumption | simp) (by (try simp only [List.length_append, List.length_cons, List.length_nil, Int.toNat_zero]); omega)
    | false =>
     have q0 := of_decide_eq_false h0
     have e := Eq.refl (S27_L_c54_0 a0 a1_0 a1_1 a1_2 a1_3 (v2, v3)); conv at e => rhs; simp only [S27_L_c54_0, h0, cond_true, cond_false]
     rw [loopF_s, e]
     exact rt [.d h0, .c [6] (C10_L v2 (by (try simp only [List.length_append, List.length_cons, List.length_nil, Int.toNat_zero]); omega))] [] [] hcx (by kernel_rfl)

def F27_L_c54 (a0 : List (((Int × Int × Int) × (Int × Int × Int) × Int × Int × Int) × Int × Int)) (a1_0 : Int × Int × Int) (a1_1 : Int) (a1_2 : Int) (a1_3 : Int) : (Int × Int) × Int :=
  (loopF (S27_L_c54_0 a0 a1_0 a1_1 a1_2 a1_3) (Int.toNat (((a0.length : Nat) : Int) - 0) + 1) (([] : List (Int × Int)), 0))

theorem C27_L_c54 (a0 : List (((Int × Int × Int) × (Int × Int × Int) × Int × Int × Int) × Int × Int)) (a1_0 : Int × Int × Int) (a1_1 : Int) (a1_2 : Int) (a1_3 : Int) (l0 : a0.length ≤ 9223372036854775807) (hv : vpL a0 = 0) (hx : bd 256 a1_0) (hs : 1 ≤ a1_1 ∧ a1_1 ≤ 16) (ht : 0 ≤ a1_2 ∧ a1_2 ≤ 2000) (hd : 0 ≤ a1_3 ∧ a1_3 ≤ 3) : Con Tryz.prog 27 [(.s 0 0 a0.length 11), (.f 54 [(.p 1 0), (.p 2 0), (.p 3 0), (.p 4 0)])] [(.live false true (flat c63 a0)), (.live false false (k3 a1_0)), (.live false false [(iv a1_1)]), (.live false false [(iv a1_2)]), (.live false false [(iv a1_3)])] (.t [(.a (k2 (F27_L_c54 a0 a1_0 a1_1 a1_2 a1_3).1)), (iv (F27_L_c54 a0 a1_0 a1_1 a1_2 a1_3).2)]) [] := by
  refine con_s Tryz.func27 (by kernel_rfl) fun cx hcx => ?_
  have e := Eq.refl (F27_L_c54 a0 a1_0 a1_1 a1_2 a1_3); conv at e => rhs; simp only [F27_L_c54]
  rw [e]
  refine en [] [.slot 6 2] [1, 4, 6, 11, 12, 13] [5, 6] hcx B27_L_c54_0 (K27_L_c54_0) (st27_L_c54_0 a0 a1_0 a1_1 a1_2 a1_3 (flat c34 ([] : List (Int × Int))) 0 0) (Int.toNat (((a0.length : Nat) : Int) - 0) + 1) (by kernel_rfl) ?_
  exact L27_L_c54_0 a0 a1_0 a1_1 a1_2 a1_3 l0 hv hx hs ht hd hcx (Int.toNat (((a0.length : Nat) : Int) - 0) + 1) ([] : List (Int × Int)) 0 (by refine ⟨?_, ?_, ?_⟩ <;> (try simp only [List.length_append, List.length_cons, List.length_nil, Int.toNat_zero]) <;> first | omega | assumption | simp) (by (try simp only [List.length_append, List.length_cons, List.length_nil, Int.toNat_zero]); omega)

def F32_L (a0 : List (((Int × Int × Int) × (Int × Int × Int) × Int × Int × Int) × Int × Int)) (a1 : Int × Int × Int) (a2 : Int) (a3 : Int) (a4 : Int) : (Int × Int) × Int :=
  ((F27_L_c54 a0 a1 a2 a3 a4).1, (F27_L_c54 a0 a1 a2 a3 a4).2)

theorem C32_L (a0 : List (((Int × Int × Int) × (Int × Int × Int) × Int × Int × Int) × Int × Int)) (a1 : Int × Int × Int) (a2 : Int) (a3 : Int) (a4 : Int) (l0 : a0.length ≤ 9223372036854775807) (hv : vpL a0 = 0) (hx : bd 256 a1) (hs : 1 ≤ a2 ∧ a2 ≤ 16) (ht : 0 ≤ a3 ∧ a3 ≤ 2000) (hd : 0 ≤ a4 ∧ a4 ≤ 3) : Con Tryz.prog 32 [(.s 0 0 a0.length 11), (.a (k3 a1)), (iv a2), (iv a3), (iv a4)] [(.live false true (flat c63 a0))] (.t [(.a (k2 (F32_L a0 a1 a2 a3 a4).1)), (iv (F32_L a0 a1 a2 a3 a4).2)]) [] := by
  refine con_s Tryz.func32 (by kernel_rfl) fun cx hcx => ?_
  have e := Eq.refl (F32_L a0 a1 a2 a3 a4); conv at e => rhs; simp only [F32_L]
  rw [e]
  exact rt [.c [0, 1, 2, 3, 4] (C27_L_c54 a0 a1 a2 a3 a4 (by (try simp only [List.length_append, List.length_cons, List.length_nil, Int.toNat_zero]); omega) hv hx hs ht hd)] [] [] hcx (by kernel_rfl)

def F17_L (a0 : List (((Int × Int × Int) × (Int × Int × Int) × Int × Int × Int) × Int × Int)) (a1 : Int × Int × Int) (a2 : Int) (a3 : Int) (a4 : Int) : (Int × Int) × Int :=
  (bif (F18 a1) then
   (bif (F19 a2) then
    (bif (F30 a3) then
     (bif (((F24_L a0 (F26 a4)) : Int) != 0) then
      ((0, 0), (F24_L a0 (F26 a4)))
     else
      ((F32_L a0 a1 a2 a3 a4).1, (F32_L a0 a1 a2 a3 a4).2))
    else
     (bif (((F24_L a0 false) : Int) != 0) then
      ((0, 0), (F24_L a0 false))
     else
      ((F32_L a0 a1 a2 a3 a4).1, (F32_L a0 a1 a2 a3 a4).2)))
   else
    (bif (((F24_L a0 false) : Int) != 0) then
     ((0, 0), (F24_L a0 false))
    else
     ((F32_L a0 a1 a2 a3 a4).1, (F32_L a0 a1 a2 a3 a4).2)))
  else
   (bif (((F24_L a0 false) : Int) != 0) then
    ((0, 0), (F24_L a0 false))
   else
    ((F32_L a0 a1 a2 a3 a4).1, (F32_L a0 a1 a2 a3 a4).2)))

theorem C17_L (a0 : List (((Int × Int × Int) × (Int × Int × Int) × Int × Int × Int) × Int × Int)) (a1 : Int × Int × Int) (a2 : Int) (a3 : Int) (a4 : Int) (l0 : a0.length ≤ 9223372036854775807) : Con Tryz.prog 17 [(.s 0 0 a0.length 11), (.a (k3 a1)), (iv a2), (iv a3), (iv a4)] [(.live false true (flat c63 a0))] (.t [(.a (k2 (F17_L a0 a1 a2 a3 a4).1)), (iv (F17_L a0 a1 a2 a3 a4).2)]) [] := by
  refine con_s Tryz.func17 (by kernel_rfl) fun cx hcx => ?_
  let t0 : List (St Tryz.prog) := [.c [] (C18 a1)]
  cases h0 : (F18 a1) with
  | true =>
   let t1 : List (St Tryz.prog) := (t0 ++ [.d h0, .c [] (C19 a2)])
   cases h1 : (F19 a2) with
   | true =>
    let t2 : List (St Tryz.prog) := (t1 ++ [.d h1, .c [] (C30 a3)])
    cases h2 : (F30 a3) with
    | true =>
     let t3 : List (St Tryz.prog) := (t2 ++ [.d h2, .c [] (C26 a4), .c [0] (C24_L a0 (F26 a4) (by (try simp only [List.length_append, List.length_cons, List.length_nil, Int.toNat_zero]); omega))])
     cases h3 : (((F24_L a0 (F26 a4)) : Int) != 0) with
     | true =>
      have q3 := bne_iff_ne.1 h3
      have e := Eq.refl (F17_L a0 a1 a2 a3 a4); conv at e => rhs; simp only [F17_L, h0, h1, h2, h3, cond_true, cond_false]
      rw [e]
      exact rt (t3 ++ [.d h3]) [] [] hcx (by kernel_rfl)
     | false =>
      have q3 := bne_eq_false_iff_eq.1 h3
      have e := Eq.refl (F17_L a0 a1 a2 a3 a4); conv at e => rhs; simp only [F17_L, h0, h1, h2, h3, cond_true, cond_false]
      rw [e]
      exact rt (t3 ++ [.d h3, .c [0] (C32_L a0 a1 a2 a3 a4 (by (try simp only [List.length_append, List.length_cons, List.length_nil, Int.toNat_zero]); omega) (by first | exact ckL_v h1 | exact ckL_v h2 | exact ckL_v h3) (by first | exact isp_p h0 | exact absurd (ckL_b h1) (by decide) | exact absurd (ckL_b h2) (by decide) | exact absurd (ckL_b h3) (by decide)) (by first | exact iss_p h1 | exact absurd (ckL_b h1) (by decide) | exact absurd (ckL_b h2) (by decide) | exact absurd (ckL_b h3) (by decide)) (by first | exact ist_p h2 | exact absurd (ckL_b h1) (by decide) | exact absurd (ckL_b h2) (by decide) | exact absurd (ckL_b h3) (by decide)) (by first | exact isd_p (ckL_b h3) | exact absurd (ckL_b h1) (by decide) | exact absurd (ckL_b h2) (by decide) | exact absurd (ckL_b h3) (by decide)))]) [] [] hcx (by kernel_rfl)
    | false =>
     let t3 : List (St Tryz.prog) := (t2 ++ [.d h2, .c [0] (C24_L a0 false (by (try simp only [List.length_append, List.length_cons, List.length_nil, Int.toNat_zero]); omega))])
     cases h3 : (((F24_L a0 false) : Int) != 0) with
     | true =>
      have q3 := bne_iff_ne.1 h3
      have e := Eq.refl (F17_L a0 a1 a2 a3 a4); conv at e => rhs; simp only [F17_L, h0, h1, h2, h3, cond_true, cond_false]
      rw [e]
      exact rt (t3 ++ [.d h3]) [] [] hcx (by kernel_rfl)
     | false =>
      have q3 := bne_eq_false_iff_eq.1 h3
      have e := Eq.refl (F17_L a0 a1 a2 a3 a4); conv at e => rhs; simp only [F17_L, h0, h1, h2, h3, cond_true, cond_false]
      rw [e]
      exact rt (t3 ++ [.d h3, .c [0] (C32_L a0 a1 a2 a3 a4 (by (try simp only [List.length_append, List.length_cons, List.length_nil, Int.toNat_zero]); omega) (by first | exact ckL_v h1 | exact ckL_v h2 | exact ckL_v h3) (by first | exact isp_p h0 | exact absurd (ckL_b h1) (by decide) | exact absurd (ckL_b h2) (by decide) | exact absurd (ckL_b h3) (by decide)) (by first | exact iss_p h1 | exact absurd (ckL_b h1) (by decide) | exact absurd (ckL_b h2) (by decide) | exact absurd (ckL_b h3) (by decide)) (by first | exact ist_p h2 | exact absurd (ckL_b h1) (by decide) | exact absurd (ckL_b h2) (by decide) | exact absurd (ckL_b h3) (by decide)) (by first | exact isd_p (ckL_b h3) | exact absurd (ckL_b h1) (by decide) | exact absurd (ckL_b h2) (by decide) | exact absurd (ckL_b h3) (by decide)))]) [] [] hcx (by kernel_rfl)
   | false =>
    let t2 : List (St Tryz.prog) := (t1 ++ [.d h1, .c [0] (C24_L a0 false (by (try simp only [List.length_append, List.length_cons, List.length_nil, Int.toNat_zero]); omega))])
    cases h2 : (((F24_L a0 false) : Int) != 0) with
    | true =>
     have q2 := bne_iff_ne.1 h2
     have e := Eq.refl (F17_L a0 a1 a2 a3 a4); conv at e => rhs; simp only [F17_L, h0, h1, h2, cond_true, cond_false]
     rw [e]
     exact rt (t2 ++ [.d h2]) [] [] hcx (by kernel_rfl)
    | false =>
     have q2 := bne_eq_false_iff_eq.1 h2
     have e := Eq.refl (F17_L a0 a1 a2 a3 a4); conv at e => rhs; simp only [F17_L, h0, h1, h2, cond_true, cond_false]
     rw [e]
     exact rt (t2 ++ [.d h2, .c [0] (C32_L a0 a1 a2 a3 a4 (by (try simp only [List.length_append, List.length_cons, List.length_nil, Int.toNat_zero]); omega) (by first | exact ckL_v h1 | exact ckL_v h2 | exact ckL_v h3) (by first | exact isp_p h0 | exact absurd (ckL_b h1) (by decide) | exact absurd (ckL_b h2) (by decide) | exact absurd (ckL_b h3) (by decide)) (by first | exact iss_p h1 | exact absurd (ckL_b h1) (by decide) | exact absurd (ckL_b h2) (by decide) | exact absurd (ckL_b h3) (by decide)) (by first | exact ist_p h2 | exact absurd (ckL_b h1) (by decide) | exact absurd (ckL_b h2) (by decide) | exact absurd (ckL_b h3) (by decide)) (by first | exact isd_p (ckL_b h3) | exact absurd (ckL_b h1) (by decide) | exact absurd (ckL_b h2) (by decide) | exact absurd (ckL_b h3) (by decide)))]) [] [] hcx (by kernel_rfl)
  | false =>
   let t1 : List (St Tryz.prog) := (t0 ++ [.d h0, .c [0] (C24_L a0 false (by (try simp only [List.length_append, List.length_cons, List.length_nil, Int.toNat_zero]); omega))])
   cases h1 : (((F24_L a0 false) : Int) != 0) with
   | true =>
    have q1 := bne_iff_ne.1 h1
    have e := Eq.refl (F17_L a0 a1 a2 a3 a4); conv at e => rhs; simp only [F17_L, h0, h1, cond_true, cond_false]
    rw [e]
    exact rt (t1 ++ [.d h1]) [] [] hcx (by kernel_rfl)
   | false =>
    have q1 := bne_eq_false_iff_eq.1 h1
    have e := Eq.refl (F17_L a0 a1 a2 a3 a4); conv at e => rhs; simp only [F17_L, h0, h1, cond_true, cond_false]
    rw [e]
    exact rt (t1 ++ [.d h1, .c [0] (C32_L a0 a1 a2 a3 a4 (by (try simp only [List.length_append, List.length_cons, List.length_nil, Int.toNat_zero]); omega) (by first | exact ckL_v h1 | exact ckL_v h2 | exact ckL_v h3) (by first | exact isp_p h0 | exact absurd (ckL_b h1) (by decide) | exact absurd (ckL_b h2) (by decide) | exact absurd (ckL_b h3) (by decide)) (by first | exact iss_p h1 | exact absurd (ckL_b h1) (by decide) | exact absurd (ckL_b h2) (by decide) | exact absurd (ckL_b h3) (by decide)) (by first | exact ist_p h2 | exact absurd (ckL_b h1) (by decide) | exact absurd (ckL_b h2) (by decide) | exact absurd (ckL_b h3) (by decide)) (by first | exact isd_p (ckL_b h3) | exact absurd (ckL_b h1) (by decide) | exact absurd (ckL_b h2) (by decide) | exact absurd (ckL_b h3) (by decide)))]) [] [] hcx (by kernel_rfl)

end Go.Proofs.YtcnnmgooolnebaaGreat

namespace Go.Proofs.YtcnnmgooolnebaaGreat
open Go.Proofs Go.Aw Go.RowKit
set_option maxRecDepth 100000
set_option linter.unusedVariables false
set_option linter.unusedSimpArgs false

/-! ### What is heard of all pulses -/
def bw (a : Int × Int) : Prop := -53687091300 ≤ a.1 ∧ a.1 ≤ a.2 ∧ a.2 ≤ 53687091300
theorem bw_vs {a : Int × Int} (h : bw a) : vs a := by unfold bw vs at *; omega
theorem sums_le : ∀ {l : List (Int × Int)} {v : Int × Int}, (∀ a ∈ l, okE a) → v.1 ≤ (sums l v).1 ∧ v.2 ≤ (sums l v).2 ∧ (sums l v).2 ≤ v.2 + 536870913 * l.length ∧ (v.1 ≤ v.2 → (sums l v).1 ≤ (sums l v).2)
  | [], v, _ => by simp only [sums, List.length_nil]; omega
  | a :: l, v, h => by
    have ha := h a List.mem_cons_self
    unfold okE at ha
    have ih := sums_le (l := l) (v := (v.1 + a.1, v.2 + a.2)) (fun b hb => h b (List.mem_cons_of_mem _ hb))
    simp only [sums, List.length_cons] at ih ⊢
    omega
theorem avg_small {l : List (Int × Int)} {n : Int} (hn : n = 1 ∨ n = 4 ∨ n = 16 ∨ n = 64) (hl : ∀ a ∈ l, okE a) (hk : ((l.length : Nat) : Int) = n) : okE (avg (sums l (0, 0)) n) := by
  have h := sums_le (v := (0, 0)) hl
  simp only at h
  unfold okE avg
  simp only
  rcases hn with rfl | rfl | rfl | rfl <;> omega
theorem sat_small {x n : Int} (hx : 0 ≤ x ∧ x ≤ 536870913) (hn : -100 ≤ n ∧ n ≤ 100) : sat x n = x * n ∧ -53687091300 ≤ x * n ∧ x * n ≤ 53687091300 := by
  have h := mul_bd (a := 536870913) (b := 100) (x := x) (y := n) ⟨by omega, hx.2⟩ hn
  unfold sat
  refine ⟨?_, by omega, by omega⟩
  rw [if_neg (by omega), if_neg (by omega)]
theorem scl_small {a : Int × Int} {n : Int} (ha : okE a) (hn : -100 ≤ n ∧ n ≤ 100) : bw (scl a n) := by
  unfold okE at ha
  have h1 := sat_small (x := a.1) ⟨ha.1, by omega⟩ hn
  have h2 := sat_small (x := a.2) ⟨by omega, ha.2.2⟩ hn
  unfold bw scl
  by_cases h : n < 0
  · have := sat_anti (n := n) ha.2.1 (by omega)
    rw [if_pos h]; simp only; omega
  · have := sat_mono (n := n) ha.2.1 (by omega)
    rw [if_neg h]; simp only; omega
theorem shG_map (p : PU) (x : P3) (s t d : Int) (k : List PN) : ∀ a ∈ k.map (fun c => (shG p x s t d c).1), okE a := by
  intro a ha
  obtain ⟨c, _, rfl⟩ := List.mem_map.1 ha
  exact shG_ok _ _ _ _ _ _
noncomputable def hrT (p : PU) (x : P3) (s t d : Int) : (Int × Int) × Int :=
  if t - p.2.1 < 1 then ((0, 0), 0) else out8 (fun l => (scl (avg (sums l (0, 0)) (sc d * sc d)) p.2.2, 0)) (fun e => ((0, 0), e)) (shs (shG p x s t d) (cutL d.toNat p.1) [])
theorem hrS_T {p : PU} {x : P3} {s t d : Int} (hp : POK p) (hd : 0 ≤ d ∧ d ≤ 3) : hrS p x s t d = hrT p x s t d := by
  unfold hrS hrT
  split
  · rfl
  · refine out8_ok (fun _ => ?_)
    have hb := scl_small (avg_small (cnt_in d) (shG_map p x s t d (cutL d.toNat p.1)) (by rw [List.length_map]; exact cnt_len hd p.1)) hp.2.2
    unfold bw at hb
    unfold hrE
    rw [res_f (by omega) (by omega) (by omega)]
theorem hrT_bw {p : PU} {x : P3} {s t d : Int} (hp : POK p) (hd : 0 ≤ d ∧ d ≤ 3) : bw (hrT p x s t d).1 := by
  unfold hrT
  split
  · unfold bw; simp
  · cases e : shs (shG p x s t d) (cutL d.toNat p.1) [] with
    | inr r => unfold bw out8; simp
    | inl m =>
      obtain ⟨h1, _⟩ := shs_inl e
      rw [List.nil_append] at h1
      subst h1
      exact scl_small (avg_small (cnt_in d) (shG_map p x s t d (cutL d.toNat p.1)) (by rw [List.length_map]; exact cnt_len hd p.1)) hp.2.2
theorem sums_bw : ∀ {l : List (Int × Int)} {v : Int × Int}, (∀ a ∈ l, bw a) → v.1 ≤ v.2 → v.1 - 53687091300 * l.length ≤ (sums l v).1 ∧ (sums l v).1 ≤ (sums l v).2 ∧ (sums l v).2 ≤ v.2 + 53687091300 * l.length
  | [], v, _, h => by simp only [sums, List.length_nil]; omega
  | a :: l, v, h, hv => by
    have ha := h a List.mem_cons_self
    unfold bw at ha
    have ih := sums_bw (l := l) (v := (v.1 + a.1, v.2 + a.2)) (fun b hb => h b (List.mem_cons_of_mem _ hb)) (by simp only; omega)
    simp only [sums, List.length_cons] at ih ⊢
    omega
theorem sumV_bw {l : List (Int × Int)} (h : ∀ a ∈ l, bw a) (hl : l.length ≤ 16) : sumV l = (sums l (0, 0), 0) ∧ vs (sums l (0, 0)) := by
  have hb := sums_bw (v := (0, 0)) h (by simp)
  simp only at hb
  have hv : vs (sums l (0, 0)) := by unfold vs; omega
  refine ⟨?_, hv⟩
  unfold sumV
  rw [res_f hv.1 hv.2.1 hv.2.2]
noncomputable def scS (l : List PU) (x : P3) (s t d : Int) : (Int × Int) × Int := out8 (fun m => (sums m (0, 0), 0)) (fun e => ((0, 0), e)) (shs (fun p => hrT p x s t d) l [])
theorem scS_vs {l : List PU} {x : P3} {s t d : Int} (hl : l.length ≤ 16) (hp : ∀ p ∈ l, POK p) (hd : 0 ≤ d ∧ d ≤ 3) : vs (scS l x s t d).1 := by
  unfold scS
  cases e : shs (fun p => hrT p x s t d) l [] with
  | inr r => unfold vs out8; simp
  | inl m =>
    obtain ⟨h1, _⟩ := shs_inl e
    rw [List.nil_append] at h1
    subst h1
    refine (sumV_bw (fun a ha => ?_) (by rw [List.length_map]; exact hl)).2
    obtain ⟨c, hc, rfl⟩ := List.mem_map.1 ha
    exact hrT_bw (hp c hc) hd
theorem mem_some {α : Type} {l : List α} {i : Nat} {c : α} (h : l[i]? = some c) : c ∈ l := by
  obtain ⟨hlt, hce⟩ := List.getElem?_eq_some_iff.1 h
  exact hce ▸ List.getElem_mem hlt
section
variable {l : List PU} {x : P3} {s t d : Int}
theorem scene_f (hv : vpL l = 0) (hx : bd 256 x) (hs : 1 ≤ s ∧ s ≤ 16) (ht : 0 ≤ t ∧ t ≤ 2000) (hd : 0 ≤ d ∧ d ≤ 3) : F32_L l x s t d = scS l x s t d := by
  obtain ⟨hl, hp⟩ := vpL_ok hv
  unfold F32_L F27_L_c54 scS
  have key := shs_loopF (g := fun p => hrT p x s t d) (S := S27_L_c54_0 l x s t d) (E := fun e => (((0, 0) : Int × Int), e)) (L := l)
    (G := fun m => ((F10_L m).1, (F10_L m).2)) (fun i c hi m => ?_) (fun m => ?_) l 0 (Int.toNat (((l.length : Nat) : Int) - 0) + 1) [] rfl (Nat.zero_le _) (by omega)
  · show (loopF (S27_L_c54_0 l x s t d) (Int.toNat (((l.length : Nat) : Int) - 0) + 1) ([], ((0 : Nat) : Int))) = _
    rw [key]
    refine out8_ok (fun _ => ?_)
    have hb : ∀ a ∈ l.map (fun c => (hrT c x s t d).1), bw a := fun a ha => by
      obtain ⟨c, hc, rfl⟩ := List.mem_map.1 ha
      exact hrT_bw (hp c hc) hd
    rw [Sum_f (fun a ha => bw_vs (hb a ha)) (by rw [List.length_map]; omega)]
    exact (sumV_bw hb (by rw [List.length_map]; exact hl)).1
  · obtain ⟨hg, hlt⟩ := getD_some hi
    have e : F54 c x s t d = hrT c x s t d := by
      unfold F54
      rw [heard_f (hp c (mem_some hi)) hx hs ht hd, hrS_T (hp c (mem_some hi)) hd]
    simp only [S27_L_c54_0]
    rw [decide_eq_true (show ((i : Nat) : Int) < (l.length : Nat) by omega), cond_true, Int.toNat_natCast, hg, e]; rfl
  · simp only [S27_L_c54_0]
    rw [decide_eq_false (Int.lt_irrefl _), cond_false]
end
def askd (x : P3) (s t d : Int) : Prop := bd 256 x ∧ (1 ≤ s ∧ s ≤ 16) ∧ (0 ≤ t ∧ t ≤ 2000) ∧ (0 ≤ d ∧ d ≤ 3)
noncomputable def scV (l : List PU) (x : P3) (s t d : Int) : (Int × Int) × Int :=
  open Classical in if vpL l = 0 then (if askd x s t d then scS l x s t d else ((0, 0), 1)) else ((0, 0), vpL l)
open Classical in
theorem Scene_f (l : List PU) (x : P3) (s t d : Int) : F17_L l x s t d = scV l x s t d := by
  unfold F17_L scV askd
  rw [isP_f, isS_f, isT_f, isD_f]
  simp only [chkL_f]
  by_cases h : vpL l = 0
  · by_cases h1 : bd 256 x
    · by_cases h2 : 1 ≤ s ∧ s ≤ 16
      · by_cases h3 : 0 ≤ t ∧ t ≤ 2000
        · by_cases h4 : 0 ≤ d ∧ d ≤ 3
          · rw [scene_f h h1 h2 h3 h4]; simp [h, h1, h2, h3, h4]
          · simp [h, h1, h2, h3, h4]
        · simp [h, h1, h2, h3]
      · simp [h, h1, h2]
    · simp [h, h1]
  · simp only [if_neg h, bne_iff_ne.2 h, cond_true]
    cases decide (bd 256 x) <;> cases decide (1 ≤ s ∧ s ≤ 16) <;> cases decide (0 ≤ t ∧ t ≤ 2000) <;> rfl
end Go.Proofs.YtcnnmgooolnebaaGreat

namespace Go.Proofs.YtcnnmgooolnebaaGreat
open Go.Proofs Go.Aw Go.RowKit
set_option maxRecDepth 100000
set_option linter.unusedVariables false
set_option linter.unusedSimpArgs false

def F28 (a0 : ((Int × Int × Int) × (Int × Int × Int) × Int × Int × Int) × Int × Int) (a1 : Int × Int × Int) (a2 : Int) : (Int × Int) × Int :=
  (bif (((F29 a0.1 a1 a2).2 : Int) != 0) then
   ((0, 0), (F29 a0.1 a1 a2).2)
  else
   ((F23 (F29 a0.1 a1 a2).1 a0.2.2).1, (F23 (F29 a0.1 a1 a2).1 a0.2.2).2))

theorem C28 (a0 : ((Int × Int × Int) × (Int × Int × Int) × Int × Int × Int) × Int × Int) (a1 : Int × Int × Int) (a2 : Int) : Con Tryz.prog 28 [(.a [(iv a0.1.1.1), (iv a0.1.1.2.1), (iv a0.1.1.2.2), (iv a0.1.2.1.1), (iv a0.1.2.1.2.1), (iv a0.1.2.1.2.2), (iv a0.1.2.2.1), (iv a0.1.2.2.2.1), (iv a0.1.2.2.2.2), (iv a0.2.1), (iv a0.2.2)]), (.p 0 0), (.p 1 0)] [(.live false false (k3 a1)), (.live false false [(iv a2)])] (.t [(.a (k2 (F28 a0 a1 a2).1)), (iv (F28 a0 a1 a2).2)]) [] := by
  refine con_s Tryz.func28 (by kernel_rfl) fun cx hcx => ?_
  let t0 : List (St Tryz.prog) := [.c [] (C29 a0.1 a1 a2)]
  cases h0 : (((F29 a0.1 a1 a2).2 : Int) != 0) with
  | true =>
   have q0 := bne_iff_ne.1 h0
   have e := Eq.refl (F28 a0 a1 a2); conv at e => rhs; simp only [F28, h0, cond_true, cond_false]
   rw [e]
   exact rt (t0 ++ [.d h0]) [] [] hcx (by kernel_rfl)
  | false =>
   have q0 := bne_eq_false_iff_eq.1 h0
   have e := Eq.refl (F28 a0 a1 a2); conv at e => rhs; simp only [F28, h0, cond_true, cond_false]
   rw [e]
   exact rt (t0 ++ [.d h0, .c [] (C23 (F29 a0.1 a1 a2).1 a0.2.2)]) [] [] hcx (by kernel_rfl)

noncomputable def B27_L_c28_0 : Code := (loopAtD [1, 1, 0, 1] [] (bodyOf Tryz.f27) []).1
noncomputable def K27_L_c28_0 : List K := (loopAtD [1, 1, 0, 1] [] (bodyOf Tryz.f27) []).2

def st27_L_c28_0 (a0 : List (((Int × Int × Int) × (Int × Int × Int) × Int × Int × Int) × Int × Int)) (a1_0 : Int × Int × Int) (a1_1 : Int) (v2c : List SV) (v2n : Nat) (v3 : Int) : LS := ⟨slN 36 [(1, (.f 28 [(.p 1 0), (.p 2 0)])), (4, (.p 3 0)), (6, (.s 4 0 v2n 2)), (11, (.s 0 0 a0.length 11)), (12, (iv ((a0.length : Nat) : Int))), (13, (iv v3))], [(.live false true (flat c63 a0)), (.live false false (k3 a1_0)), (.live false false [(iv a1_1)]), (.live true false [(iv 0), (iv 0)]), (.live true true v2c)]⟩

def S27_L_c28_0 (a0 : List (((Int × Int × Int) × (Int × Int × Int) × Int × Int × Int) × Int × Int)) (a1_0 : Int × Int × Int) (a1_1 : Int) : (List (Int × Int)) × Int → ((List (Int × Int)) × Int) ⊕ ((Int × Int) × Int)
  | (v2, v3) =>
   (bif (decide ((v3 : Int) < ((a0.length : Nat) : Int))) then
    (bif (((F28 (a0.getD (Int.toNat v3) default) a1_0 a1_1).2 : Int) != 0) then
     (.inr ((0, 0), (F28 (a0.getD (Int.toNat v3) default) a1_0 a1_1).2))
    else
     (.inl ((v2 ++ [(F28 (a0.getD (Int.toNat v3) default) a1_0 a1_1).1]), (v3 + 1))))
   else
    (.inr ((F10_L v2).1, (F10_L v2).2)))

set_option maxHeartbeats 4000000 in
theorem L27_L_c28_0 (a0 : List (((Int × Int × Int) × (Int × Int × Int) × Int × Int × Int) × Int × Int)) (a1_0 : Int × Int × Int) (a1_1 : Int) (l0 : a0.length ≤ 9223372036854775807) (hv : vpL a0 = 0) {cx : Cx} (hcx : cx.base = 3) : ∀ (n : Nat) (v2 : List (Int × Int)) (v3 : Int), (0 ≤ v3) ∧ (v2.length = Int.toNat v3) ∧ (v3 ≤ a0.length) → Int.toNat (((a0.length : Nat) : Int) - v3) < n → Aw.Good Tryz.prog none 9 (bodyPost Tryz.prog Tryz.f27 (RR cx (.t [(.a (k2 (loopF (S27_L_c28_0 a0 a1_0 a1_1) n (v2, v3)).1)), (iv (loopF (S27_L_c28_0 a0 a1_0 a1_1) n (v2, v3)).2)]) [] [])) cx [] (.l B27_L_c28_0 n :: K27_L_c28_0) (st27_L_c28_0 a0 a1_0 a1_1 (flat c34 v2) v2.length v3) := by
  intro n
  induction n with
  | zero => intro v2 v3 hi hn; exact absurd hn (Nat.not_lt_zero _)
  | succ n ih =>
    intro v2 v3 hi hn
    refine good_round ?_
    have hl16 := (vpL_ok hv).1
    cases h0 : (decide ((v3 : Int) < ((a0.length : Nat) : Int))) with
    | true =>
     have q0 := of_decide_eq_true h0
     let t1 : List (St Tryz.prog) := [.d h0, .i v3 (a0.length), .L c63_len a0 v3 0 11, .c [1, 2] (C28 (a0.getD (Int.toNat v3) default) a1_0 a1_1)]
     cases h1 : (((F28 (a0.getD (Int.toNat v3) default) a1_0 a1_1).2 : Int) != 0) with
     | true =>
      have q1 := bne_iff_ne.1 h1
      have e := Eq.refl (S27_L_c28_0 a0 a1_0 a1_1 (v2, v3)); conv at e => rhs; simp only [S27_L_c28_0, h0, h1, cond_true, cond_false]
      rw [loopF_s, e]
      exact rt (t1 ++ [.d h1]) [] [] hcx (by kernel_rfl)
     | false =>
      have q1 := bne_eq_false_iff_eq.1 h1
      have e := Eq.refl (S27_L_c28_0 a0 a1_0 a1_1 (v2, v3)); conv at e => rhs; simp only [S27_L_c28_0, h0, h1, cond_true, cond_false]
      rw [loopF_inl e]
      refine ba (t1 ++ [.d h1, .p (show ((flat c34 v2).length = v2.length * 2 ∧ v2.length + 1 ≤ 2 ^ 40 ∧ (v2.length + 1) * 16 ≤ 2 ^ 47) from app_ok c34_len (by omega) (by omega))]) [] [1, 4, 6, 11, 12, 13] [3, 8] hcx (m := n) B27_L_c28_0 (K27_L_c28_0) (st27_L_c28_0 a0 a1_0 a1_1 (flat c34 v2 ++ (k2 (F28 (a0.getD (Int.toNat v3) default) a1_0 a1_1).1)) (v2.length + 1) (W (v3 + 1))) (by kernel_rfl) ?_
      have z0 : (W (v3 + 1)) = (v3 + 1) := W_eq (by omega) (by omega)
      have z1 : (flat c34 v2 ++ (k2 (F28 (a0.getD (Int.toNat v3) default) a1_0 a1_1).1)) = (flat c34 (v2 ++ [(F28 (a0.getD (Int.toNat v3) default) a1_0 a1_1).1])) := (flat_append (c := c34) (l := v2) (m := [(F28 (a0.getD (Int.toNat v3) default) a1_0 a1_1).1])).symm
      have z2 : (v2.length + 1) = (v2 ++ [(F28 (a0.getD (Int.toNat v3) default) a1_0 a1_1).1]).length := len_app v2 [(F28 (a0.getD (Int.toNat v3) default) a1_0 a1_1).1] rfl
      rw [z0, z1, z2]
      exact ih (v2 ++ [(F28 (a0.getD (Int.toNat v3) default) a1_0 a1_1).1]) (v3 + 1) (by refine ⟨?_, ?_, ?_⟩ <;> (try simp only [List.length_append, List.length_cons, List.length_nil, Int.toNat_zero]) <;> first | omega | assumption | simp) (by (try simp only [List.length_append, List.length_cons, List.length_nil, Int.toNat_zero]); omega)
    | false =>
     have q0 := of_decide_eq_false h0
     have e := Eq.refl (S27_L_c28_0 a0 a1_0 a1_1 (v2, v3)); conv at e => rhs; simp only [S27_L_c28_0, h0, cond_true, cond_false]
     rw [loopF_s, e]
     exact rt [.d h0, .c [4] (C10_L v2 (by (try simp only [List.length_append, List.length_cons, List.length_nil, Int.toNat_zero]); omega))] [] [] hcx (by kernel_rfl)

def F27_L_c28 (a0 : List (((Int × Int × Int) × (Int × Int × Int) × Int × Int × Int) × Int × Int)) (a1_0 : Int × Int × Int) (a1_1 : Int) : (Int × Int) × Int :=
  (loopF (S27_L_c28_0 a0 a1_0 a1_1) (Int.toNat (((a0.length : Nat) : Int) - 0) + 1) (([] : List (Int × Int)), 0))

theorem C27_L_c28 (a0 : List (((Int × Int × Int) × (Int × Int × Int) × Int × Int × Int) × Int × Int)) (a1_0 : Int × Int × Int) (a1_1 : Int) (l0 : a0.length ≤ 9223372036854775807) (hv : vpL a0 = 0) : Con Tryz.prog 27 [(.s 0 0 a0.length 11), (.f 28 [(.p 1 0), (.p 2 0)])] [(.live false true (flat c63 a0)), (.live false false (k3 a1_0)), (.live false false [(iv a1_1)])] (.t [(.a (k2 (F27_L_c28 a0 a1_0 a1_1).1)), (iv (F27_L_c28 a0 a1_0 a1_1).2)]) [] := by
  refine con_s Tryz.func27 (by kernel_rfl) fun cx hcx => ?_
  have e := Eq.refl (F27_L_c28 a0 a1_0 a1_1); conv at e => rhs; simp only [F27_L_c28]
  rw [e]
  refine en [] [.slot 6 2] [1, 4, 6, 11, 12, 13] [3, 4] hcx B27_L_c28_0 (K27_L_c28_0) (st27_L_c28_0 a0 a1_0 a1_1 (flat c34 ([] : List (Int × Int))) 0 0) (Int.toNat (((a0.length : Nat) : Int) - 0) + 1) (by kernel_rfl) ?_
  exact L27_L_c28_0 a0 a1_0 a1_1 l0 hv hcx (Int.toNat (((a0.length : Nat) : Int) - 0) + 1) ([] : List (Int × Int)) 0 (by refine ⟨?_, ?_, ?_⟩ <;> (try simp only [List.length_append, List.length_cons, List.length_nil, Int.toNat_zero]) <;> first | omega | assumption | simp) (by (try simp only [List.length_append, List.length_cons, List.length_nil, Int.toNat_zero]); omega)

def F8_L (a0 : List (((Int × Int × Int) × (Int × Int × Int) × Int × Int × Int) × Int × Int)) (a1 : Int × Int × Int) (a2 : Int) : (Int × Int) × Int :=
  (bif (F18 a1) then
   (bif (((F24_L a0 (F26 a2)) : Int) != 0) then
    ((0, 0), (F24_L a0 (F26 a2)))
   else
    ((F27_L_c28 a0 a1 a2).1, (F27_L_c28 a0 a1 a2).2))
  else
   (bif (((F24_L a0 false) : Int) != 0) then
    ((0, 0), (F24_L a0 false))
   else
    ((F27_L_c28 a0 a1 a2).1, (F27_L_c28 a0 a1 a2).2)))

theorem C8_L (a0 : List (((Int × Int × Int) × (Int × Int × Int) × Int × Int × Int) × Int × Int)) (a1 : Int × Int × Int) (a2 : Int) (l0 : a0.length ≤ 9223372036854775807) : Con Tryz.prog 8 [(.s 0 0 a0.length 11), (.a (k3 a1)), (iv a2)] [(.live false true (flat c63 a0))] (.t [(.a (k2 (F8_L a0 a1 a2).1)), (iv (F8_L a0 a1 a2).2)]) [] := by
  refine con_s Tryz.func8 (by kernel_rfl) fun cx hcx => ?_
  let t0 : List (St Tryz.prog) := [.c [] (C18 a1)]
  cases h0 : (F18 a1) with
  | true =>
   let t1 : List (St Tryz.prog) := (t0 ++ [.d h0, .c [] (C26 a2), .c [0] (C24_L a0 (F26 a2) (by (try simp only [List.length_append, List.length_cons, List.length_nil, Int.toNat_zero]); omega))])
   cases h1 : (((F24_L a0 (F26 a2)) : Int) != 0) with
   | true =>
    have q1 := bne_iff_ne.1 h1
    have e := Eq.refl (F8_L a0 a1 a2); conv at e => rhs; simp only [F8_L, h0, h1, cond_true, cond_false]
    rw [e]
    exact rt (t1 ++ [.d h1]) [] [] hcx (by kernel_rfl)
   | false =>
    have q1 := bne_eq_false_iff_eq.1 h1
    have e := Eq.refl (F8_L a0 a1 a2); conv at e => rhs; simp only [F8_L, h0, h1, cond_true, cond_false]
    rw [e]
    exact rt (t1 ++ [.d h1, .c [0, 1, 2] (C27_L_c28 a0 a1 a2 (by (try simp only [List.length_append, List.length_cons, List.length_nil, Int.toNat_zero]); omega) (by first | exact ckL_v h1 | exact ckL_v h0))]) [] [] hcx (by kernel_rfl)
  | false =>
   let t1 : List (St Tryz.prog) := (t0 ++ [.d h0, .c [0] (C24_L a0 false (by (try simp only [List.length_append, List.length_cons, List.length_nil, Int.toNat_zero]); omega))])
   cases h1 : (((F24_L a0 false) : Int) != 0) with
   | true =>
    have q1 := bne_iff_ne.1 h1
    have e := Eq.refl (F8_L a0 a1 a2); conv at e => rhs; simp only [F8_L, h0, h1, cond_true, cond_false]
    rw [e]
    exact rt (t1 ++ [.d h1]) [] [] hcx (by kernel_rfl)
   | false =>
    have q1 := bne_eq_false_iff_eq.1 h1
    have e := Eq.refl (F8_L a0 a1 a2); conv at e => rhs; simp only [F8_L, h0, h1, cond_true, cond_false]
    rw [e]
    exact rt (t1 ++ [.d h1, .c [0, 1, 2] (C27_L_c28 a0 a1 a2 (by (try simp only [List.length_append, List.length_cons, List.length_nil, Int.toNat_zero]); omega) (by first | exact ckL_v h1 | exact ckL_v h0))]) [] [] hcx (by kernel_rfl)

/-! ### What is heard in all -/
noncomputable def toG (x : P3) (d : Int) (p : PU) : (Int × Int) × Int :=
  if (meanV of1 p.1 x d).2 = 0 then F34 (scl (meanV of1 p.1 x d).1 p.2.2).1 (scl (meanV of1 p.1 x d).1 p.2.2).2 else ((0, 0), (meanV of1 p.1 x d).2)
noncomputable def toS (l : List PU) (x : P3) (d : Int) : (Int × Int) × Int := out8 (fun m => sumV m) (fun e => ((0, 0), e)) (shs (toG x d) l [])
section
variable {l : List PU} {p : PU} {x : P3} {d : Int}
theorem toG_vs (h : (toG x d p).2 = 0) : vs (toG x d p).1 := by
  by_cases hm : (meanV of1 p.1 x d).2 = 0
  · have e : toG x d p = F34 (scl (meanV of1 p.1 x d).1 p.2.2).1 (scl (meanV of1 p.1 x d).1 p.2.2).2 := if_pos hm
    rw [e] at h ⊢
    rcases res_cases (scl (meanV of1 p.1 x d).1 p.2.2).1 (scl (meanV of1 p.1 x d).1 p.2.2).2 with ⟨e, hv⟩ | e
    · rw [e]; exact hv
    · rw [e] at h; exact absurd h (by decide)
  · have e : toG x d p = ((0, 0), (meanV of1 p.1 x d).2) := if_neg hm
    rw [e] at h; exact absurd h hm
theorem toG_f (hp : POK p) : F28 p x d = toG x d p := by
  unfold F28 toG
  rw [Mean_f]
  by_cases h : (meanV of1 p.1 x d).2 = 0
  · have hv := (meanV_vs of1_all h).2
    have hw := hp.2.2
    rw [if_pos h, h, Scale_f hv (by omega)]; rfl
  · rw [if_neg h, bne_iff_ne.2 h]; rfl
theorem total_f (hv : vpL l = 0) : F27_L_c28 l x d = toS l x d := by
  obtain ⟨hl, hp⟩ := vpL_ok hv
  unfold F27_L_c28 toS
  have key := shs_loopF (g := toG x d) (S := S27_L_c28_0 l x d) (E := fun e => (((0, 0) : Int × Int), e)) (L := l)
    (G := fun m => ((F10_L m).1, (F10_L m).2)) (fun i c hi m => ?_) (fun m => ?_) l 0 (Int.toNat (((l.length : Nat) : Int) - 0) + 1) [] rfl (Nat.zero_le _) (by omega)
  · show (loopF (S27_L_c28_0 l x d) (Int.toNat (((l.length : Nat) : Int) - 0) + 1) ([], ((0 : Nat) : Int))) = _
    rw [key]
    refine out8_ok (fun h0 => ?_)
    exact Sum_f (fun a ha => by
      obtain ⟨c, hc, rfl⟩ := List.mem_map.1 ha
      exact toG_vs (h0 c hc)) (by rw [List.length_map]; omega)
  · obtain ⟨hg, hlt⟩ := getD_some hi
    simp only [S27_L_c28_0]
    rw [decide_eq_true (show ((i : Nat) : Int) < (l.length : Nat) by omega), cond_true, Int.toNat_natCast, hg, toG_f (hp c (mem_some hi))]; rfl
  · simp only [S27_L_c28_0]
    rw [decide_eq_false (Int.lt_irrefl _), cond_false]
end
noncomputable def toV (l : List PU) (x : P3) (d : Int) : (Int × Int) × Int :=
  open Classical in if vpL l = 0 then (if bd 256 x ∧ (0 ≤ d ∧ d ≤ 3) then toS l x d else ((0, 0), 1)) else ((0, 0), vpL l)
open Classical in
theorem Total_f (l : List PU) (x : P3) (d : Int) : F8_L l x d = toV l x d := by
  unfold F8_L toV
  rw [isP_f, isD_f]
  simp only [chkL_f]
  by_cases h : vpL l = 0
  · by_cases h1 : bd 256 x
    · by_cases h4 : 0 ≤ d ∧ d ≤ 3
      · rw [total_f h]; simp [h, h1, h4]
      · simp [h, h1, h4]
    · simp [h, h1]
  · simp only [if_neg h, bne_iff_ne.2 h, cond_true]
    cases decide (bd 256 x) <;> rfl
end Go.Proofs.YtcnnmgooolnebaaGreat

namespace Go.Proofs.YtcnnmgooolnebaaGreat
open Go.Proofs Go.Aw Go.RowKit
set_option maxRecDepth 100000
set_option linter.unusedVariables false
set_option linter.unusedSimpArgs false

/-! ### What is heard in all ticks together -/
def rs (f : Nat → Int) : Nat → Int
  | 0 => 0
  | n + 1 => rs f n + f n
theorem rs_range (f : Nat → Int) : ∀ n, ((List.range n).map f).sum = rs f n
  | 0 => rfl
  | n + 1 => by rw [List.range_succ, List.map_append, List.sum_append, rs_range f n]; simp [rs]
theorem rs_add (f g : Nat → Int) : ∀ n, rs (fun k => f k + g k) n = rs f n + rs g n
  | 0 => rfl
  | n + 1 => by simp only [rs]; rw [rs_add f g n]; omega
theorem rs_congr {f g : Nat → Int} : ∀ {n : Nat}, (∀ k, k < n → f k = g k) → rs f n = rs g n
  | 0, _ => rfl
  | n + 1, h => by
    have := rs_congr (n := n) (fun k hk => h k (by omega)); have := h n (by omega)
    simp only [rs]; omega
theorem rs_zero : ∀ n, rs (fun _ => 0) n = 0
  | 0 => rfl
  | n + 1 => by simp only [rs]; rw [rs_zero n]; rfl
theorem rs_mul (f : Nat → Int) (w : Int) : ∀ n, rs (fun k => f k * w) n = rs f n * w
  | 0 => by simp [rs]
  | n + 1 => by simp only [rs]; rw [rs_mul f w n, Int.add_mul]
theorem rs_split (f : Nat → Int) (a : Nat) : ∀ n, rs f (a + n) = rs f a + rs (fun k => f (a + k)) n
  | 0 => by simp [rs]
  | n + 1 => by rw [← Nat.add_assoc]; simp only [rs]; rw [rs_split f a n]; omega
theorem rs_swap {α : Type} (g : Nat → α → Int) (K : Nat) : ∀ L : List α, rs (fun k => (L.map (g k)).sum) K = (L.map fun c => rs (fun k => g k c) K).sum
  | [] => by simp [rs_zero]
  | c :: L => by simp only [List.map_cons, List.sum_cons]; rw [rs_add, rs_swap g K L]
theorem rs_div {f : Nat → Int} {n : Int} (hn : n = 1 ∨ n = 4) : ∀ K, rs (fun k => f k / n) K ≤ rs f K / n ∧ -(-(rs f K) / n) ≤ rs (fun k => -(-(f k) / n)) K
  | 0 => by rcases hn with rfl | rfl <;> simp [rs]
  | K + 1 => by
    have := rs_div (f := f) hn K
    simp only [rs]
    rcases hn with rfl | rfl <;> omega
theorem suml_le {α : Type} {f g : α → Int} : ∀ {l : List α}, (∀ c ∈ l, f c ≤ g c) → (l.map f).sum ≤ (l.map g).sum
  | [], _ => Int.le_refl _
  | c :: l, h => by
    have := h c List.mem_cons_self; have := suml_le (l := l) (fun c hc => h c (List.mem_cons_of_mem _ hc))
    simp only [List.map_cons, List.sum_cons]; omega
/-! a part, tick for tick -/
theorem shA_mono {s d : Int} (hs : 0 ≤ s) (k : Nat) : shA s d (k : Int) ≤ shA s d ((k + 1 : Nat) : Int) := by
  unfold shA
  have h0 := sc_bd d
  have h1 : 0 ≤ sc d * s := Int.mul_nonneg (by omega) hs
  have h2 : sc d * s * (k : Int) ≤ sc d * s * ((k + 1 : Nat) : Int) := Int.mul_le_mul_of_nonneg_left (by omega) h1
  have h3 : 0 ≤ sc d * s * (k : Int) := Int.mul_nonneg h1 (by omega)
  exact Int.mul_le_mul h2 h2 h3 (by omega)
noncomputable def gA (s d n f : Int) (k : Nat) : (Int × Int) × Int := gv (shA s d (k : Int)) (shA s d ((k + 1 : Nat) : Int)) (sc d) n f
section
variable {s d n f : Int}
theorem mx_nz {n a : Int} (h : 1 ≤ n) : mx n a ≠ 0 := by have := le_mx1 n a; omega
theorem gA_err (hn : 1 ≤ n) (k : Nat) : (gA s d n f k).2 = 0 := by
  unfold gA gv
  rw [if_neg (mx_nz hn)]
  (repeat' split) <;> rfl
theorem gA_lo (hn : 1 ≤ n) (k : Nat) : (gA s d n f k).1.1 ≤ if f ≤ shA s d (k : Int) then 0 else if f ≤ shA s d ((k + 1 : Nat) : Int) then (of1 (sc d) f).1 else 0 := by
  have h0 := (of1_ok (sc_in d)).lo f
  unfold gA gv
  rw [if_neg (mx_nz hn)]
  (repeat' split) <;> dsimp only <;> omega
theorem gA_hi (hn : 1 ≤ n) (hnf : n ≤ f) (k : Nat) : (if n ≤ shA s d (k : Int) then 0 else if n ≤ shA s d ((k + 1 : Nat) : Int) then (of1 (sc d) f).1 else 0) ≤ (gA s d n f k).1.2 := by
  have ho := of1_ok (sc_in d)
  have h5 : 0 ≤ (of1 (sc d) (mx n (shA s d (k : Int)))).2 := Int.le_trans (ho.lo _) (ho.le _)
  have h6 : ¬ n ≤ shA s d (k : Int) → (of1 (sc d) f).1 ≤ (of1 (sc d) (mx n (shA s d (k : Int)))).2 := fun h => by
    have : mx n (shA s d (k : Int)) = n := by unfold mx; split <;> omega
    rw [this]
    exact Int.le_trans (ho.mono n f hn hnf) (ho.le _)
  unfold gA gv
  rw [if_neg (mx_nz hn)]
  by_cases h7 : n ≤ shA s d (k : Int)
  · rw [if_pos h7]
    (repeat' split) <;> dsimp only <;> omega
  · have h6 := h6 h7
    rw [if_neg h7]
    (repeat' split) <;> dsimp only <;> omega
theorem part_lo (hs : 0 ≤ s) (hn : 1 ≤ n) (hnf : n ≤ f) : ∀ K : Nat, rs (fun k => (gA s d n f k).1.1) K ≤ if f ≤ shA s d (K : Int) then (of1 (sc d) f).1 else 0
  | 0 => by
    have := (of1_ok (sc_in d)).lo f
    simp only [rs]; split <;> omega
  | K + 1 => by
    have ih := part_lo hs hn hnf K
    have hm := shA_mono (d := d) hs K
    have h0 := (of1_ok (sc_in d)).lo f
    have hk := gA_lo (s := s) (d := d) (f := f) hn K
    simp only [rs]
    by_cases h1 : f ≤ shA s d (K : Int)
    · rw [if_pos h1] at ih hk
      rw [if_pos (by omega)]; omega
    · rw [if_neg h1] at ih hk
      by_cases h2 : f ≤ shA s d ((K + 1 : Nat) : Int)
      · rw [if_pos h2] at hk ⊢; omega
      · rw [if_neg h2] at hk ⊢; omega
theorem part_hi (hs : 0 ≤ s) (hn : 1 ≤ n) (hnf : n ≤ f) : ∀ K : Nat, (if n ≤ shA s d (K : Int) then (of1 (sc d) f).1 else 0) ≤ rs (fun k => (gA s d n f k).1.2) K
  | 0 => by
    have : shA s d ((0 : Nat) : Int) = 0 := by unfold shA; simp
    rw [if_neg (by omega)]; simp [rs]
  | K + 1 => by
    have ih := part_hi hs hn hnf K
    have hm := shA_mono (d := d) hs K
    have h0 := (of1_ok (sc_in d)).lo f
    have hk := gA_hi (s := s) (d := d) hn hnf K
    simp only [rs]
    by_cases h1 : n ≤ shA s d (K : Int)
    · rw [if_pos h1] at ih hk
      rw [if_pos (by omega)]; omega
    · rw [if_neg h1] at ih hk
      by_cases h2 : n ≤ shA s d ((K + 1 : Nat) : Int)
      · rw [if_pos h2] at hk ⊢; omega
      · rw [if_neg h2] at hk ⊢; omega
end
theorem far_in {p c : PN} {x : P3} {d : Int} (hb : bdP 64 p) (hd : d = 0 ∨ d = 1) (hc : c ∈ cutL d.toNat p) : fa c (tm (sc d) x) ≤ sc d * sc d * fa p x := by
  rcases hd with rfl | rfl
  · have hc : c ∈ [p] := hc
    rw [List.mem_singleton.1 hc, show sc 0 = 1 from rfl, show tm 1 x = x by unfold tm; simp]; omega
  · have hc : c ∈ cutL 1 p := hc
    rw [cutL_quad 0 p] at hc
    have hc : c ∈ quad p := by simpa [cutL] using hc
    rw [show sc 1 = 2 from rfl]
    have := fa_quad (x := x) (hb.mono (by omega)) hc
    omega
theorem zc_nz {y : P3} : ∀ {l : List PN}, ¬ 0 < (l.map (zc y)).sum → ∀ c ∈ l, ne c y ≠ 0
  | [], _, c, hc => by cases hc
  | a :: l, h, c, hc => by
    have hn : ∀ c, 0 ≤ zc y c := fun c => by unfold zc; split <;> omega
    have h0 := sum_nn (l := l) hn
    have h1 := hn a
    simp only [List.map_cons, List.sum_cons] at h
    rcases List.mem_cons.1 hc with rfl | hc
    · intro h2
      unfold zc at h; rw [if_pos h2] at h; unfold zc at h0; omega
    · exact zc_nz (by omega) c hc
theorem shs_oks {α β : Type} {g : α → β × Int} : ∀ {k : List α} {l : List β}, (∀ c ∈ k, (g c).2 = 0) → shs g k l = .inl (l ++ k.map fun c => (g c).1)
  | [], l, _ => by simp [shs]
  | c :: k, l, h => by
    simp only [shs]
    rw [if_pos (h c List.mem_cons_self), shs_oks (fun c hc => h c (List.mem_cons_of_mem _ hc))]; simp
noncomputable def mlo (p : PU) (x : P3) (d : Int) : Int := ((cutL d.toNat p.1).map fun c => (of1 (sc d) (fa c (tm (sc d) x))).1).sum / (sc d * sc d)
section
variable {p : PU} {x : P3} {s d : Int} {M : Int × Int}
theorem mean_lo (hd : d = 0 ∨ d = 1) (hM : meanS (of1 (sc d)) p.1 x d = (M, 0)) : (∀ c ∈ cutL d.toNat p.1, 1 ≤ ne c (tm (sc d) x)) ∧ M.1 = mlo p x d ∧ M.1 ≤ M.2 := by
  have ho := of1_ok (sc_in d)
  have hn : sc d * sc d = 1 ∨ sc d * sc d = 4 := by rcases hd with rfl | rfl <;> decide
  unfold meanS at hM
  rw [acc_sum] at hM
  by_cases hz : 0 < ((cutL d.toNat p.1).map (zc (tm (sc d) x))).sum
  · rw [if_pos hz] at hM; cases hM
  · rw [if_neg hz] at hM
    have hM1 : avg ((0 : Int) + ((cutL d.toNat p.1).map fun c => (of1 (sc d) (fa c (tm (sc d) x))).1).sum, (0 : Int) + ((cutL d.toNat p.1).map fun c => (of1 (sc d) (ne c (tm (sc d) x))).2).sum) (sc d * sc d) = M := congrArg Prod.fst hM
    have hall := zc_nz hz
    have h1 : ∀ c ∈ cutL d.toNat p.1, 1 ≤ ne c (tm (sc d) x) := fun c hc => by have := hall c hc; have := (ne_le c (tm (sc d) x)).1; omega
    have hle : ((cutL d.toNat p.1).map fun c => (of1 (sc d) (fa c (tm (sc d) x))).1).sum ≤ ((cutL d.toNat p.1).map fun c => (of1 (sc d) (ne c (tm (sc d) x))).2).sum :=
      suml_le (fun c hc => Int.le_trans (ho.mono _ _ (h1 c hc) (ne_le c _).2) (ho.le _))
    rw [← hM1]
    refine ⟨h1, ?_, ?_⟩
    · unfold mlo avg; rw [Int.zero_add]
    · unfold avg
      dsimp only
      rcases hn with h | h <;> rw [h] <;> omega
theorem hr_at (h1 : ∀ c ∈ cutL d.toNat p.1, 1 ≤ ne c (tm (sc d) x)) (k : Nat) :
    hrT p x s (p.2.1 + 1 + (k : Int)) d = (scl (avg (sums ((cutL d.toNat p.1).map fun c => (gA s d (ne c (tm (sc d) x)) (fa c (tm (sc d) x)) k).1) (0, 0)) (sc d * sc d)) p.2.2, 0) := by
  have e : ∀ c, shG p x s (p.2.1 + 1 + (k : Int)) d c = gA s d (ne c (tm (sc d) x)) (fa c (tm (sc d) x)) k := fun c => by
    unfold shG gA
    rw [show p.2.1 + 1 + (k : Int) - p.2.1 - 1 = (k : Int) by omega, show p.2.1 + 1 + (k : Int) - p.2.1 = ((k + 1 : Nat) : Int) by omega]
  unfold hrT
  rw [if_neg (by omega), show (shG p x s (p.2.1 + 1 + (k : Int)) d) = fun c => gA s d (ne c (tm (sc d) x)) (fa c (tm (sc d) x)) k from funext e, shs_oks (fun c hc => gA_err (h1 c hc) k)]
  rfl
theorem hr_before (t : Int) (ht : t - p.2.1 < 1) : hrT p x s t d = ((0, 0), 0) := by unfold hrT; rw [if_pos ht]
theorem okE_g (hs : 0 ≤ s) (hd : d = 0 ∨ d = 1) (k : Nat) : okE (avg (sums ((cutL d.toNat p.1).map fun c => (gA s d (ne c (tm (sc d) x)) (fa c (tm (sc d) x)) k).1) (0, 0)) (sc d * sc d)) := by
  refine avg_small (cnt_in d) (fun a ha => ?_) (by rw [List.length_map]; exact cnt_len (by omega) p.1)
  obtain ⟨c, _, rfl⟩ := List.mem_map.1 ha
  exact gv_ok (sc_in d) (ne_le c _).1 (ne_le c _).2
theorem avg_sum (hp : POK p) (hs : 1 ≤ s) (hd : d = 0 ∨ d = 1) (h1 : ∀ c ∈ cutL d.toNat p.1, 1 ≤ ne c (tm (sc d) x)) {K : Nat} (hK : fa p.1 x ≤ s * (K : Int) * (s * (K : Int))) :
    rs (fun k => (avg (sums ((cutL d.toNat p.1).map fun c => (gA s d (ne c (tm (sc d) x)) (fa c (tm (sc d) x)) k).1) (0, 0)) (sc d * sc d)).1) K ≤ mlo p x d ∧
    mlo p x d ≤ rs (fun k => (avg (sums ((cutL d.toNat p.1).map fun c => (gA s d (ne c (tm (sc d) x)) (fa c (tm (sc d) x)) k).1) (0, 0)) (sc d * sc d)).2) K := by
  have hn : sc d * sc d = 1 ∨ sc d * sc d = 4 := by rcases hd with rfl | rfl <;> decide
  have hsh : ∀ c ∈ cutL d.toNat p.1, fa c (tm (sc d) x) ≤ shA s d (K : Int) := fun c hc => by
    refine Int.le_trans (far_in (pok_bd hp) hd hc) ?_
    have : shA s d (K : Int) = sc d * sc d * (s * (K : Int) * (s * (K : Int))) := by
      unfold shA
      simp only [Int.mul_assoc, Int.mul_left_comm, Int.mul_comm]
    rw [this]
    exact Int.mul_le_mul_of_nonneg_left hK (by omega)
  have e1 : ∀ k, (avg (sums ((cutL d.toNat p.1).map fun c => (gA s d (ne c (tm (sc d) x)) (fa c (tm (sc d) x)) k).1) (0, 0)) (sc d * sc d)).1 = ((cutL d.toNat p.1).map fun c => (gA s d (ne c (tm (sc d) x)) (fa c (tm (sc d) x)) k).1.1).sum / (sc d * sc d) := fun k => by
    unfold avg; rw [sums_eq]; simp only [List.map_map, Int.zero_add]; rfl
  have e2 : ∀ k, (avg (sums ((cutL d.toNat p.1).map fun c => (gA s d (ne c (tm (sc d) x)) (fa c (tm (sc d) x)) k).1) (0, 0)) (sc d * sc d)).2 = -(-((cutL d.toNat p.1).map fun c => (gA s d (ne c (tm (sc d) x)) (fa c (tm (sc d) x)) k).1.2).sum / (sc d * sc d)) := fun k => by
    unfold avg; rw [sums_eq]; simp only [List.map_map, Int.zero_add]; rfl
  simp only [e1, e2]
  have d1 := (rs_div (f := fun k => ((cutL d.toNat p.1).map fun c => (gA s d (ne c (tm (sc d) x)) (fa c (tm (sc d) x)) k).1.1).sum) hn K).1
  have d2 := (rs_div (f := fun k => ((cutL d.toNat p.1).map fun c => (gA s d (ne c (tm (sc d) x)) (fa c (tm (sc d) x)) k).1.2).sum) hn K).2
  have g1 : rs (fun k => ((cutL d.toNat p.1).map fun c => (gA s d (ne c (tm (sc d) x)) (fa c (tm (sc d) x)) k).1.1).sum) K ≤ ((cutL d.toNat p.1).map fun c => (of1 (sc d) (fa c (tm (sc d) x))).1).sum := by
    rw [rs_swap]
    refine suml_le (fun c hc => ?_)
    have := part_lo (d := d) (show 0 ≤ s by omega) (h1 c hc) (ne_le c _).2 K
    rwa [if_pos (hsh c hc)] at this
  have g2 : ((cutL d.toNat p.1).map fun c => (of1 (sc d) (fa c (tm (sc d) x))).1).sum ≤ rs (fun k => ((cutL d.toNat p.1).map fun c => (gA s d (ne c (tm (sc d) x)) (fa c (tm (sc d) x)) k).1.2).sum) K := by
    rw [rs_swap]
    refine suml_le (fun c hc => ?_)
    have := part_hi (d := d) (show 0 ≤ s by omega) (h1 c hc) (ne_le c _).2 K
    rwa [if_pos (Int.le_trans (ne_le c _).2 (hsh c hc))] at this
  unfold mlo
  rcases hn with h | h <;> rw [h] at d1 d2 ⊢ <;> omega
theorem scl_in {a : Int × Int} {n : Int} (ha : okE a) (hn : -100 ≤ n ∧ n ≤ 100) : scl a n = if n < 0 then (a.2 * n, a.1 * n) else (a.1 * n, a.2 * n) := by
  unfold okE at ha
  have h1 := sat_small (x := a.1) ⟨ha.1, by omega⟩ hn
  have h2 := sat_small (x := a.2) ⟨by omega, ha.2.2⟩ hn
  unfold scl; rw [h1.1, h2.1]
theorem pul_sum (hp : POK p) (hs : 1 ≤ s) (hd : d = 0 ∨ d = 1) (h1 : ∀ c ∈ cutL d.toNat p.1, 1 ≤ ne c (tm (sc d) x)) {T : Nat} (hT : p.2.1 ≤ (T : Int)) (hK : fa p.1 x ≤ s * ((T : Int) - p.2.1) * (s * ((T : Int) - p.2.1))) :
    rs (fun t => (hrT p x s (t : Int) d).1.1) (T + 1) ≤ mlo p x d * p.2.2 ∧ mlo p x d * p.2.2 ≤ rs (fun t => (hrT p x s (t : Int) d).1.2) (T + 1) := by
  have h0 := hp.2.1
  have hw := hp.2.2
  obtain ⟨A, hA⟩ : ∃ A : Nat, p.2.1 = (A : Int) := ⟨p.2.1.toNat, by omega⟩
  obtain ⟨K, hK'⟩ : ∃ K : Nat, T + 1 = A + 1 + K := ⟨T - A, by omega⟩
  have hKe : (T : Int) - p.2.1 = (K : Int) := by omega
  rw [hKe] at hK
  have hb : ∀ t : Nat, t < A + 1 → hrT p x s (t : Int) d = ((0, 0), 0) := fun t ht => hr_before _ (by omega)
  have ha : ∀ k : Nat, hrT p x s ((A + 1 + k : Nat) : Int) d = (scl (avg (sums ((cutL d.toNat p.1).map fun c => (gA s d (ne c (tm (sc d) x)) (fa c (tm (sc d) x)) k).1) (0, 0)) (sc d * sc d)) p.2.2, 0) := fun k => by
    rw [show ((A + 1 + k : Nat) : Int) = p.2.1 + 1 + (k : Int) by omega]; exact hr_at h1 k
  have hs' := avg_sum hp hs hd h1 hK
  have hok := okE_g (p := p) (x := x) (s := s) (d := d) (by omega) hd
  have f1 : rs (fun t : Nat => (hrT p x s (t : Int) d).1.1) (T + 1) = rs (fun k : Nat => (hrT p x s ((A + 1 + k : Nat) : Int) d).1.1) K := by
    rw [hK', rs_split _ (A + 1) K, rs_congr (g := fun _ => 0) (n := A + 1) (fun k hk => by rw [hb k hk]), rs_zero, Int.zero_add]
  have f2 : rs (fun t : Nat => (hrT p x s (t : Int) d).1.2) (T + 1) = rs (fun k : Nat => (hrT p x s ((A + 1 + k : Nat) : Int) d).1.2) K := by
    rw [hK', rs_split _ (A + 1) K, rs_congr (g := fun _ => 0) (n := A + 1) (fun k hk => by rw [hb k hk]), rs_zero, Int.zero_add]
  rw [f1, f2]
  simp only [ha]
  generalize hav : (fun k => avg (sums ((cutL d.toNat p.1).map fun c => (gA s d (ne c (tm (sc d) x)) (fa c (tm (sc d) x)) k).1) (0, 0)) (sc d * sc d)) = av at hs' hok
  have hav' : ∀ k, avg (sums ((cutL d.toNat p.1).map fun c => (gA s d (ne c (tm (sc d) x)) (fa c (tm (sc d) x)) k).1) (0, 0)) (sc d * sc d) = av k := fun k => congrFun hav k
  simp only [hav'] at hs' hok ⊢
  by_cases hn : p.2.2 < 0
  · have e : ∀ k, scl (av k) p.2.2 = ((av k).2 * p.2.2, (av k).1 * p.2.2) := fun k => by rw [scl_in (hok k) hw, if_pos hn]
    simp only [e]
    rw [rs_mul, rs_mul]
    exact ⟨Int.mul_le_mul_of_nonpos_right hs'.2 (by omega), Int.mul_le_mul_of_nonpos_right hs'.1 (by omega)⟩
  · have e : ∀ k, scl (av k) p.2.2 = ((av k).1 * p.2.2, (av k).2 * p.2.2) := fun k => by rw [scl_in (hok k) hw, if_neg hn]
    simp only [e]
    rw [rs_mul, rs_mul]
    exact ⟨Int.mul_le_mul_of_nonneg_right hs'.1 (by omega), Int.mul_le_mul_of_nonneg_right hs'.2 (by omega)⟩
end

end Go.Proofs.YtcnnmgooolnebaaGreat

namespace Go.Proofs.YtcnnmgooolnebaaGreat
open Go.Proofs Go.Aw Go.RowKit
set_option maxRecDepth 100000
set_option linter.unusedVariables false
set_option linter.unusedSimpArgs false

def F50 (a0 : ((Int × Int × Int) × (Int × Int × Int) × Int × Int × Int) × Int × Int) (a1 : Int × Int × Int) (a2 : Int) : Int :=
  (W (a0.2.1 + (F20 (F73 a0.1 a1) a2)))

theorem C50 (a0 : ((Int × Int × Int) × (Int × Int × Int) × Int × Int × Int) × Int × Int) (a1 : Int × Int × Int) (a2 : Int) (hp : POK a0) (hx : bd 256 a1) (hs : 1 ≤ a2 ∧ a2 ≤ 16) : Con Tryz.prog 50 [(.a [(iv a0.1.1.1), (iv a0.1.1.2.1), (iv a0.1.1.2.2), (iv a0.1.2.1.1), (iv a0.1.2.1.2.1), (iv a0.1.2.1.2.2), (iv a0.1.2.2.1), (iv a0.1.2.2.2.1), (iv a0.1.2.2.2.2), (iv a0.2.1), (iv a0.2.2)]), (.a (k3 a1)), (iv a2)] [] (iv (F50 a0 a1 a2)) [] := by
  refine con_s Tryz.func50 (by kernel_rfl) fun cx hcx => ?_
  have e := Eq.refl (F50 a0 a1 a2); conv at e => rhs; simp only [F50]
  rw [e]
  exact rt [.c [] (C73 a0.1 a1), .c [] (C20 (F73 a0.1 a1) a2  (faf6 hp hx) (by omega))] [] [] hcx (by kernel_rfl)

def c58 (x : Int × Int × Int) : List SV := [(iv x.1), (iv x.2.1), (iv x.2.2)]
theorem c58_len (x : Int × Int × Int) : (c58 x).length = 3 := rfl

noncomputable def B25_L_0 : Code := (loopAtD [1, 1, 0, 1] [] (bodyOf Tryz.f25) []).1
noncomputable def K25_L_0 : List K := (loopAtD [1, 1, 0, 1] [] (bodyOf Tryz.f25) []).2

def st25_L_0 (a0 : List (((Int × Int × Int) × (Int × Int × Int) × Int × Int × Int) × Int × Int)) (a1 : Int × Int × Int) (a2 : Int) (v2c : List SV) (v2n : Nat) (v3 : Int) : LS := ⟨slN 32 [(2, (iv a2)), (4, (.p 1 0)), (7, (.s 2 0 v2n 3)), (10, (.s 0 0 a0.length 11)), (11, (iv ((a0.length : Nat) : Int))), (12, (iv v3))], [(.live false true (flat c63 a0)), (.live true false (k3 a1)), (.live true true v2c)]⟩

def S25_L_0 (a0 : List (((Int × Int × Int) × (Int × Int × Int) × Int × Int × Int) × Int × Int)) (a1 : Int × Int × Int) (a2 : Int) : (List (Int × Int × Int)) × Int → ((List (Int × Int × Int)) × Int) ⊕ (List (Int × Int × Int))
  | (v2, v3) =>
   (bif (decide ((v3 : Int) < ((a0.length : Nat) : Int))) then
    (.inl ((v2 ++ [((F49 (a0.getD (Int.toNat v3) default) a1 a2), (F50 (a0.getD (Int.toNat v3) default) a1 a2), v3)]), (v3 + 1)))
   else
    (.inr v2))

set_option maxHeartbeats 4000000 in
theorem L25_L_0 (a0 : List (((Int × Int × Int) × (Int × Int × Int) × Int × Int × Int) × Int × Int)) (a1 : Int × Int × Int) (a2 : Int) (l0 : a0.length ≤ 9223372036854775807) (hv : vpL a0 = 0) (hx : bd 256 a1) (hs : 1 ≤ a2 ∧ a2 ≤ 16) {cx : Cx} (hcx : cx.base = 1) : ∀ (n : Nat) (v2 : List (Int × Int × Int)) (v3 : Int), (0 ≤ v3) ∧ (v2.length = Int.toNat v3) ∧ (v3 ≤ a0.length) → Int.toNat (((a0.length : Nat) : Int) - v3) < n → Aw.Good Tryz.prog none 9 (bodyPost Tryz.prog Tryz.f25 (RR cx (.s 1 0 (loopF (S25_L_0 a0 a1 a2) n (v2, v3)).length 3) [(.live true true (flat c58 (loopF (S25_L_0 a0 a1 a2) n (v2, v3))))] [])) cx [] (.l B25_L_0 n :: K25_L_0) (st25_L_0 a0 a1 a2 (flat c58 v2) v2.length v3) := by
  intro n
  induction n with
  | zero => intro v2 v3 hi hn; exact absurd hn (Nat.not_lt_zero _)
  | succ n ih =>
    intro v2 v3 hi hn
    refine good_round ?_
    have hl16 := (vpL_ok hv).1
    cases h0 : (decide ((v3 : Int) < ((a0.length : Nat) : Int))) with
    | true =>
     have q0 := of_decide_eq_true h0
     have e := Eq.refl (S25_L_0 a0 a1 a2 (v2, v3)); conv at e => rhs; simp only [S25_L_0, h0, cond_true, cond_false]
     rw [loopF_inl e]
     refine ba [.d h0, .i v3 (a0.length), .L c63_len a0 v3 0 11, .c [] (C49 (a0.getD (Int.toNat v3) default) a1 a2  (vpL_get hv (by omega)) hx hs), .c [] (C50 (a0.getD (Int.toNat v3) default) a1 a2  (vpL_get hv (by omega)) hx hs), .p (show ((flat c58 v2).length = v2.length * 3 ∧ v2.length + 1 ≤ 2 ^ 40 ∧ (v2.length + 1) * 24 ≤ 2 ^ 47) from app_ok c58_len (by omega) (by omega))] [] [2, 4, 7, 10, 11, 12] [1, 5] hcx (m := n) B25_L_0 (K25_L_0) (st25_L_0 a0 a1 a2 (flat c58 v2 ++ [(iv (F49 (a0.getD (Int.toNat v3) default) a1 a2)), (iv (F50 (a0.getD (Int.toNat v3) default) a1 a2)), (iv v3)]) (v2.length + 1) (W (v3 + 1))) (by kernel_rfl) ?_
     have z0 : (W (v3 + 1)) = (v3 + 1) := W_eq (by omega) (by omega)
     have z1 : (flat c58 v2 ++ [(iv (F49 (a0.getD (Int.toNat v3) default) a1 a2)), (iv (F50 (a0.getD (Int.toNat v3) default) a1 a2)), (iv v3)]) = (flat c58 (v2 ++ [((F49 (a0.getD (Int.toNat v3) default) a1 a2), (F50 (a0.getD (Int.toNat v3) default) a1 a2), v3)])) := (flat_append (c := c58) (l := v2) (m := [((F49 (a0.getD (Int.toNat v3) default) a1 a2), (F50 (a0.getD (Int.toNat v3) default) a1 a2), v3)])).symm
     have z2 : (v2.length + 1) = (v2 ++ [((F49 (a0.getD (Int.toNat v3) default) a1 a2), (F50 (a0.getD (Int.toNat v3) default) a1 a2), v3)]).length := len_app v2 [((F49 (a0.getD (Int.toNat v3) default) a1 a2), (F50 (a0.getD (Int.toNat v3) default) a1 a2), v3)] rfl
     rw [z0, z1, z2]
     exact ih (v2 ++ [((F49 (a0.getD (Int.toNat v3) default) a1 a2), (F50 (a0.getD (Int.toNat v3) default) a1 a2), v3)]) (v3 + 1) (by refine ⟨?_, ?_, ?_⟩ <;> (try simp only [List.length_append, List.length_cons, List.length_nil, Int.toNat_zero]) <;> first | omega | assumption | simp) (by (try simp only [List.length_append, List.length_cons, List.length_nil, Int.toNat_zero]); omega)
    | false =>
     have q0 := of_decide_eq_false h0
     have e := Eq.refl (S25_L_0 a0 a1 a2 (v2, v3)); conv at e => rhs; simp only [S25_L_0, h0, cond_true, cond_false]
     rw [loopF_s, e]
     exact rt [.d h0] [] [2] hcx (by kernel_rfl)

def F25_L (a0 : List (((Int × Int × Int) × (Int × Int × Int) × Int × Int × Int) × Int × Int)) (a1 : Int × Int × Int) (a2 : Int) : List (Int × Int × Int) :=
  (loopF (S25_L_0 a0 a1 a2) (Int.toNat (((a0.length : Nat) : Int) - 0) + 1) (([] : List (Int × Int × Int)), 0))

theorem C25_L (a0 : List (((Int × Int × Int) × (Int × Int × Int) × Int × Int × Int) × Int × Int)) (a1 : Int × Int × Int) (a2 : Int) (l0 : a0.length ≤ 9223372036854775807) (hv : vpL a0 = 0) (hx : bd 256 a1) (hs : 1 ≤ a2 ∧ a2 ≤ 16) : Con Tryz.prog 25 [(.s 0 0 a0.length 11), (.a (k3 a1)), (iv a2)] [(.live false true (flat c63 a0))] (.s 1 0 (F25_L a0 a1 a2).length 3) [(.live true true (flat c58 (F25_L a0 a1 a2)))] := by
  refine con_s Tryz.func25 (by kernel_rfl) fun cx hcx => ?_
  try have hl16 := (vpL_ok hv).1
  have e := Eq.refl (F25_L a0 a1 a2); conv at e => rhs; simp only [F25_L]
  rw [e]
  refine en [] [.slot 7 3] [2, 4, 7, 10, 11, 12] [1, 2] hcx B25_L_0 (K25_L_0) (st25_L_0 a0 a1 a2 (flat c58 ([] : List (Int × Int × Int))) 0 0) (Int.toNat (((a0.length : Nat) : Int) - 0) + 1) (by kernel_rfl) ?_
  exact L25_L_0 a0 a1 a2 l0 hv hx hs hcx (Int.toNat (((a0.length : Nat) : Int) - 0) + 1) ([] : List (Int × Int × Int)) 0 (by refine ⟨?_, ?_, ?_⟩ <;> (try simp only [List.length_append, List.length_cons, List.length_nil, Int.toNat_zero]) <;> first | omega | assumption | simp) (by (try simp only [List.length_append, List.length_cons, List.length_nil, Int.toNat_zero]); omega)

/-! ### From when to when, of all pulses -/
section
variable {l : List PU} {x : P3} {s : Int}
theorem arr_loop : ∀ (k : List PU) (i n : Nat) (m : List (Int × Int × Int)), l.drop i = k → i ≤ l.length → k.length < n →
    (loopF (S25_L_0 l x s) n (m, (i : Int))).map (fun a => a.2.1) = m.map (fun a => a.2.1) ++ k.map (fun p => F50 p x s)
  | [], i, n, m, hd, hi, hn => by
    have : i = l.length := by have := List.drop_eq_nil_iff.1 hd; omega
    obtain ⟨n, rfl⟩ : ∃ m, n = m + 1 := ⟨n - 1, by simp only [List.length_nil] at hn; omega⟩
    subst this
    have e : S25_L_0 l x s (m, ((l.length : Nat) : Int)) = .inr m := by
      simp only [S25_L_0]; rw [decide_eq_false (Int.lt_irrefl _), cond_false]
    rw [loopF_inr e]; simp
  | c :: k, i, n, m, hd, hi, hn => by
    have hc : l[i]? = some c := by
      have : (l.drop i)[0]? = some c := by rw [hd]; rfl
      simpa using this
    obtain ⟨hg, hlt⟩ := getD_some hc
    obtain ⟨n, rfl⟩ : ∃ m, n = m + 1 := ⟨n - 1, by omega⟩
    have e : S25_L_0 l x s (m, (i : Int)) = .inl (m ++ [(F49 c x s, F50 c x s, (i : Int))], ((i + 1 : Nat) : Int)) := by
      simp only [S25_L_0]
      rw [decide_eq_true (show ((i : Nat) : Int) < (l.length : Nat) by omega), cond_true, Int.toNat_natCast, hg]; rfl
    rw [loopF_inl e, arr_loop k (i + 1) n _ (by rw [← List.drop_drop, hd]; rfl) (by omega) (by simp only [List.length_cons] at hn; omega)]
    simp
end
theorem arr_last (l : List PU) (x : P3) (s : Int) : (F25_L l x s).map (fun a => a.2.1) = l.map (fun p => F50 p x s) := by
  have := arr_loop (l := l) (x := x) (s := s) l 0 (Int.toNat (((l.length : Nat) : Int) - 0) + 1) [] rfl (Nat.zero_le _) (by omega)
  exact this
theorem arr_len (l : List PU) (x : P3) (s : Int) : (F25_L l x s).length = l.length := by
  have := congrArg List.length (arr_last l x s)
  simpa using this

noncomputable def B7_L_0 : Code := (loopAtD [1, 1, 1, 1, 1, 0, 1] [] (bodyOf Tryz.f7) []).1
noncomputable def K7_L_0 : List K := (loopAtD [1, 1, 1, 1, 1, 0, 1] [] (bodyOf Tryz.f7) []).2

def st7_L_0 (a0 : List (((Int × Int × Int) × (Int × Int × Int) × Int × Int × Int) × Int × Int)) (a1 : Int × Int × Int) (a2 : Int) (v1 : Int) (v2 : Int) (v3 : Int) : LS := ⟨slN 56 [(6, (iv v1)), (7, (iv v2)), (39, (.s 1 0 (F25_L a0 a1 a2).length 3)), (40, (iv (((F25_L a0 a1 a2).length : Nat) : Int))), (41, (iv v3))], [(.live false true (flat c63 a0)), (.live true true (flat c58 (F25_L a0 a1 a2)))]⟩

def S7_L_0 (a0 : List (((Int × Int × Int) × (Int × Int × Int) × Int × Int × Int) × Int × Int)) (a1 : Int × Int × Int) (a2 : Int) : Int × Int × Int → (Int × Int × Int) ⊕ (Int × Int × Int)
  | (v1, v2, v3) =>
   (bif (decide ((v3 : Int) < (((F25_L a0 a1 a2).length : Nat) : Int))) then
    (.inl ((if (((F25_L a0 a1 a2).getD (Int.toNat v3) default).1 : Int) < v1 then ((F25_L a0 a1 a2).getD (Int.toNat v3) default).1 else v1), (if (v2 : Int) < ((F25_L a0 a1 a2).getD (Int.toNat v3) default).2.1 then ((F25_L a0 a1 a2).getD (Int.toNat v3) default).2.1 else v2), (v3 + 1)))
   else
    (.inr (v1, v2, 0)))

set_option maxHeartbeats 4000000 in
theorem L7_L_0 (a0 : List (((Int × Int × Int) × (Int × Int × Int) × Int × Int × Int) × Int × Int)) (a1 : Int × Int × Int) (a2 : Int) (l0 : a0.length ≤ 9223372036854775807) {cx : Cx} (hcx : cx.base = 1) : ∀ (n : Nat) (v1 : Int) (v2 : Int) (v3 : Int), (0 ≤ v3) ∧ (v3 ≤ (F25_L a0 a1 a2).length) → Int.toNat ((((F25_L a0 a1 a2).length : Nat) : Int) - v3) < n → Aw.Good Tryz.prog none 9 (bodyPost Tryz.prog Tryz.f7 (RR cx (.t (k3 (loopF (S7_L_0 a0 a1 a2) n (v1, v2, v3)))) [] [])) cx [] (.l B7_L_0 n :: K7_L_0) (st7_L_0 a0 a1 a2 v1 v2 v3) := by
  intro n
  induction n with
  | zero => intro v1 v2 v3 hi hn; exact absurd hn (Nat.not_lt_zero _)
  | succ n ih =>
    intro v1 v2 v3 hi hn
    refine good_round ?_
    have hal := arr_len a0 a1 a2
    cases h0 : (decide ((v3 : Int) < (((F25_L a0 a1 a2).length : Nat) : Int))) with
    | true =>
     have q0 := of_decide_eq_true h0
     have e := Eq.refl (S7_L_0 a0 a1 a2 (v1, v2, v3)); conv at e => rhs; simp only [S7_L_0, h0, cond_true, cond_false]
     rw [loopF_inl e]
     refine ba [.d h0, .i v3 ((F25_L a0 a1 a2).length), .L c58_len (F25_L a0 a1 a2) v3 0 3] [] [6, 7, 39, 40, 41] [1] hcx (m := n) B7_L_0 (K7_L_0) (st7_L_0 a0 a1 a2 (if (((F25_L a0 a1 a2).getD (Int.toNat v3) default).1 : Int) < v1 then ((F25_L a0 a1 a2).getD (Int.toNat v3) default).1 else v1) (if (v2 : Int) < ((F25_L a0 a1 a2).getD (Int.toNat v3) default).2.1 then ((F25_L a0 a1 a2).getD (Int.toNat v3) default).2.1 else v2) (W (v3 + 1))) (by kernel_rfl) ?_
     have z0 : (W (v3 + 1)) = (v3 + 1) := W_eq (by omega) (by omega)
     rw [z0]
     exact ih (if (((F25_L a0 a1 a2).getD (Int.toNat v3) default).1 : Int) < v1 then ((F25_L a0 a1 a2).getD (Int.toNat v3) default).1 else v1) (if (v2 : Int) < ((F25_L a0 a1 a2).getD (Int.toNat v3) default).2.1 then ((F25_L a0 a1 a2).getD (Int.toNat v3) default).2.1 else v2) (v3 + 1) (by refine ⟨?_, ?_⟩ <;> (try simp only [List.length_append, List.length_cons, List.length_nil, Int.toNat_zero]) <;> first | omega | assumption | simp) (by (try simp only [List.length_append, List.length_cons, List.length_nil, Int.toNat_zero]); omega)
    | false =>
     have q0 := of_decide_eq_false h0
     have e := Eq.refl (S7_L_0 a0 a1 a2 (v1, v2, v3)); conv at e => rhs; simp only [S7_L_0, h0, cond_true, cond_false]
     rw [loopF_s, e]
     exact rt [.d h0] [] [] hcx (by kernel_rfl)

def F7_L (a0 : List (((Int × Int × Int) × (Int × Int × Int) × Int × Int × Int) × Int × Int)) (a1 : Int × Int × Int) (a2 : Int) : Int × Int × Int :=
  (bif (F18 a1) then
   (bif (((F24_L a0 (F19 a2)) : Int) != 0) then
    (0, 0, (F24_L a0 (F19 a2)))
   else
    (bif (((((F25_L a0 a1 a2).length : Nat) : Int) : Int) == 0) then
     (0, 0, 5)
    else
     (loopF (S7_L_0 a0 a1 a2) (Int.toNat ((((F25_L a0 a1 a2).length : Nat) : Int) - 0) + 1) (((F25_L a0 a1 a2).getD (Int.toNat 0) default).1, ((F25_L a0 a1 a2).getD (Int.toNat 0) default).2.1, 0))))
  else
   (bif (((F24_L a0 false) : Int) != 0) then
    (0, 0, (F24_L a0 false))
   else
    (bif (((((F25_L a0 a1 a2).length : Nat) : Int) : Int) == 0) then
     (0, 0, 5)
    else
     (loopF (S7_L_0 a0 a1 a2) (Int.toNat ((((F25_L a0 a1 a2).length : Nat) : Int) - 0) + 1) (((F25_L a0 a1 a2).getD (Int.toNat 0) default).1, ((F25_L a0 a1 a2).getD (Int.toNat 0) default).2.1, 0)))))

theorem C7_L (a0 : List (((Int × Int × Int) × (Int × Int × Int) × Int × Int × Int) × Int × Int)) (a1 : Int × Int × Int) (a2 : Int) (l0 : a0.length ≤ 9223372036854775807) : Con Tryz.prog 7 [(.s 0 0 a0.length 11), (.a (k3 a1)), (iv a2)] [(.live false true (flat c63 a0))] (.t (k3 (F7_L a0 a1 a2))) [] := by
  refine con_s Tryz.func7 (by kernel_rfl) fun cx hcx => ?_
  have hal := arr_len a0 a1 a2
  let t0 : List (St Tryz.prog) := [.c [] (C18 a1)]
  cases h0 : (F18 a1) with
  | true =>
   let t1 : List (St Tryz.prog) := (t0 ++ [.d h0, .c [] (C19 a2), .c [0] (C24_L a0 (F19 a2) (by (try simp only [List.length_append, List.length_cons, List.length_nil, Int.toNat_zero]); omega))])
   cases h1 : (((F24_L a0 (F19 a2)) : Int) != 0) with
   | true =>
    have q1 := bne_iff_ne.1 h1
    have e := Eq.refl (F7_L a0 a1 a2); conv at e => rhs; simp only [F7_L, h0, h1, cond_true, cond_false]
    rw [e]
    exact rt (t1 ++ [.d h1]) [] [] hcx (by kernel_rfl)
   | false =>
    have q1 := bne_eq_false_iff_eq.1 h1
    let t2 : List (St Tryz.prog) := (t1 ++ [.d h1, .c [0] (C25_L a0 a1 a2 (by (try simp only [List.length_append, List.length_cons, List.length_nil, Int.toNat_zero]); omega) (by first | exact ckL_v h1 | exact ckL_v h2) (by first | exact isp_p h0 | exact absurd (ckL_b h1) (by decide) | exact absurd (ckL_b h2) (by decide)) (by first | exact iss_p (ckL_b h1) | exact iss_p h1 | exact absurd (ckL_b h1) (by decide) | exact absurd (ckL_b h2) (by decide)))])
    cases h2 : (((((F25_L a0 a1 a2).length : Nat) : Int) : Int) == 0) with
    | true =>
     have q2 := eq_of_beq h2
     have e := Eq.refl (F7_L a0 a1 a2); conv at e => rhs; simp only [F7_L, h0, h1, h2, cond_true, cond_false]
     rw [e]
     exact rt (t2 ++ [.d h2]) [] [] hcx (by kernel_rfl)
    | false =>
     have q2 := ne_of_beq_false h2
     have e := Eq.refl (F7_L a0 a1 a2); conv at e => rhs; simp only [F7_L, h0, h1, h2, cond_true, cond_false]
     rw [e]
     refine en (t2 ++ [.d h2, .i 0 ((F25_L a0 a1 a2).length), .L c58_len (F25_L a0 a1 a2) 0 0 1, .i 0 ((F25_L a0 a1 a2).length), .L c58_len (F25_L a0 a1 a2) 0 1 1]) [] [6, 7, 39, 40, 41] [2] hcx B7_L_0 (K7_L_0) (st7_L_0 a0 a1 a2 (((F25_L a0 a1 a2).getD (Int.toNat 0) default).1) (((F25_L a0 a1 a2).getD (Int.toNat 0) default).2.1) 0) (Int.toNat ((((F25_L a0 a1 a2).length : Nat) : Int) - 0) + 1) (by kernel_rfl) ?_
     exact L7_L_0 a0 a1 a2 l0 hcx (Int.toNat ((((F25_L a0 a1 a2).length : Nat) : Int) - 0) + 1) (((F25_L a0 a1 a2).getD (Int.toNat 0) default).1) (((F25_L a0 a1 a2).getD (Int.toNat 0) default).2.1) 0 (by refine ⟨?_, ?_⟩ <;> (try simp only [List.length_append, List.length_cons, List.length_nil, Int.toNat_zero]) <;> first | omega | assumption | simp) (by (try simp only [List.length_append, List.length_cons, List.length_nil, Int.toNat_zero]); omega)
  | false =>
   let t1 : List (St Tryz.prog) := (t0 ++ [.d h0, .c [0] (C24_L a0 false (by (try simp only [List.length_append, List.length_cons, List.length_nil, Int.toNat_zero]); omega))])
   cases h1 : (((F24_L a0 false) : Int) != 0) with
   | true =>
    have q1 := bne_iff_ne.1 h1
    have e := Eq.refl (F7_L a0 a1 a2); conv at e => rhs; simp only [F7_L, h0, h1, cond_true, cond_false]
    rw [e]
    exact rt (t1 ++ [.d h1]) [] [] hcx (by kernel_rfl)
   | false =>
    have q1 := bne_eq_false_iff_eq.1 h1
    let t2 : List (St Tryz.prog) := (t1 ++ [.d h1, .c [0] (C25_L a0 a1 a2 (by (try simp only [List.length_append, List.length_cons, List.length_nil, Int.toNat_zero]); omega) (by first | exact ckL_v h1 | exact ckL_v h2) (by first | exact isp_p h0 | exact absurd (ckL_b h1) (by decide) | exact absurd (ckL_b h2) (by decide)) (by first | exact iss_p (ckL_b h1) | exact iss_p h1 | exact absurd (ckL_b h1) (by decide) | exact absurd (ckL_b h2) (by decide)))])
    cases h2 : (((((F25_L a0 a1 a2).length : Nat) : Int) : Int) == 0) with
    | true =>
     have q2 := eq_of_beq h2
     have e := Eq.refl (F7_L a0 a1 a2); conv at e => rhs; simp only [F7_L, h0, h1, h2, cond_true, cond_false]
     rw [e]
     exact rt (t2 ++ [.d h2]) [] [] hcx (by kernel_rfl)
    | false =>
     have q2 := ne_of_beq_false h2
     have e := Eq.refl (F7_L a0 a1 a2); conv at e => rhs; simp only [F7_L, h0, h1, h2, cond_true, cond_false]
     rw [e]
     refine en (t2 ++ [.d h2, .i 0 ((F25_L a0 a1 a2).length), .L c58_len (F25_L a0 a1 a2) 0 0 1, .i 0 ((F25_L a0 a1 a2).length), .L c58_len (F25_L a0 a1 a2) 0 1 1]) [] [6, 7, 39, 40, 41] [2] hcx B7_L_0 (K7_L_0) (st7_L_0 a0 a1 a2 (((F25_L a0 a1 a2).getD (Int.toNat 0) default).1) (((F25_L a0 a1 a2).getD (Int.toNat 0) default).2.1) 0) (Int.toNat ((((F25_L a0 a1 a2).length : Nat) : Int) - 0) + 1) (by kernel_rfl) ?_
     exact L7_L_0 a0 a1 a2 l0 hcx (Int.toNat ((((F25_L a0 a1 a2).length : Nat) : Int) - 0) + 1) (((F25_L a0 a1 a2).getD (Int.toNat 0) default).1) (((F25_L a0 a1 a2).getD (Int.toNat 0) default).2.1) 0 (by refine ⟨?_, ?_⟩ <;> (try simp only [List.length_append, List.length_cons, List.length_nil, Int.toNat_zero]) <;> first | omega | assumption | simp) (by (try simp only [List.length_append, List.length_cons, List.length_nil, Int.toNat_zero]); omega)

section
variable {l : List PU} {x : P3} {s : Int}
theorem tick_loop : ∀ (k : List (Int × Int × Int)) (i n : Nat) (v1 v2 : Int), (F25_L l x s).drop i = k → i ≤ (F25_L l x s).length → k.length < n →
    v2 ≤ (loopF (S7_L_0 l x s) n (v1, v2, (i : Int))).2.1 ∧ ∀ a ∈ k, a.2.1 ≤ (loopF (S7_L_0 l x s) n (v1, v2, (i : Int))).2.1
  | [], i, n, v1, v2, hd, hi, hn => by
    have : i = (F25_L l x s).length := by have := List.drop_eq_nil_iff.1 hd; omega
    obtain ⟨n, rfl⟩ : ∃ m, n = m + 1 := ⟨n - 1, by simp only [List.length_nil] at hn; omega⟩
    subst this
    have e : S7_L_0 l x s (v1, v2, (((F25_L l x s).length : Nat) : Int)) = .inr (v1, v2, 0) := by
      simp only [S7_L_0]; rw [decide_eq_false (Int.lt_irrefl _), cond_false]
    rw [loopF_inr e]; simp
  | c :: k, i, n, v1, v2, hd, hi, hn => by
    have hc : (F25_L l x s)[i]? = some c := by
      have : ((F25_L l x s).drop i)[0]? = some c := by rw [hd]; rfl
      simpa using this
    obtain ⟨hg, hlt⟩ := getD_some hc
    obtain ⟨n, rfl⟩ : ∃ m, n = m + 1 := ⟨n - 1, by omega⟩
    have e : S7_L_0 l x s (v1, v2, (i : Int)) = .inl ((if (c.1 : Int) < v1 then c.1 else v1), (if (v2 : Int) < c.2.1 then c.2.1 else v2), ((i + 1 : Nat) : Int)) := by
      simp only [S7_L_0]
      rw [decide_eq_true (show ((i : Nat) : Int) < ((F25_L l x s).length : Nat) by omega), cond_true, Int.toNat_natCast, hg]; rfl
    have ih := tick_loop k (i + 1) n (if (c.1 : Int) < v1 then c.1 else v1) (if (v2 : Int) < c.2.1 then c.2.1 else v2) (by rw [← List.drop_drop, hd]; rfl) (by omega) (by simp only [List.length_cons] at hn; omega)
    rw [loopF_inl e]
    have h1 : v2 ≤ (if (v2 : Int) < c.2.1 then c.2.1 else v2) ∧ c.2.1 ≤ (if (v2 : Int) < c.2.1 then c.2.1 else v2) := by split <;> omega
    refine ⟨Int.le_trans h1.1 ih.1, fun a ha => ?_⟩
    rcases List.mem_cons.1 ha with rfl | ha
    · exact Int.le_trans h1.2 ih.1
    · exact ih.2 a ha
open Classical in
theorem Ticks_last (h : (F7_L l x s).2.2 = 0) : bd 256 x ∧ (1 ≤ s ∧ s ≤ 16) ∧ ∀ p ∈ l, F50 p x s ≤ (F7_L l x s).2.1 := by
  have key : ∀ (n : Nat) (v1 v2 : Int), (F25_L l x s).length < n → ∀ p ∈ l, F50 p x s ≤ (loopF (S7_L_0 l x s) n (v1, v2, 0)).2.1 := fun n v1 v2 hn p hp => by
    have hm : F50 p x s ∈ (F25_L l x s).map (fun a => a.2.1) := by rw [arr_last]; exact List.mem_map.2 ⟨p, hp, rfl⟩
    obtain ⟨a, ha, e⟩ := List.mem_map.1 hm
    rw [← e]
    exact (tick_loop (l := l) (x := x) (s := s) (F25_L l x s) 0 n v1 v2 rfl (Nat.zero_le _) hn).2 a ha
  unfold F7_L at h ⊢
  rw [isP_f, isS_f] at *
  by_cases h1 : bd 256 x
  · by_cases h2 : 1 ≤ s ∧ s ≤ 16
    · refine ⟨h1, h2, ?_⟩
      rw [decide_eq_true h1, cond_true] at h ⊢
      cases e1 : ((F24_L l (decide (1 ≤ s ∧ s ≤ 16)) : Int) != 0) with
      | true => rw [e1, cond_true] at h; exact absurd h (bne_iff_ne.1 e1)
      | false =>
        rw [e1, cond_false] at h
        cases e2 : ((((F25_L l x s).length : Nat) : Int) == 0) with
        | true => rw [e2, cond_true] at h; exact absurd h (by decide)
        | false =>
          simp only [cond_false]
          exact key _ _ _ (by omega)
    · rw [decide_eq_true h1, cond_true, decide_eq_false h2, chkL_f] at h
      exfalso
      by_cases h3 : vpL l = 0
      · rw [if_pos h3] at h; simp at h
      · rw [if_neg h3, bne_iff_ne.2 h3] at h; exact h3 h
  · rw [decide_eq_false h1, cond_false, chkL_f] at h
    exfalso
    by_cases h3 : vpL l = 0
    · rw [if_pos h3] at h; simp at h
    · rw [if_neg h3, bne_iff_ne.2 h3] at h; exact h3 h
theorem trav_ge {n : Int} (hq : n ≤ 1000000) (hs : 1 ≤ s ∧ s ≤ 1000) : 0 ≤ F20 n s ∧ F20 n s ≤ 1000 ∧ n ≤ s * F20 n s * (s * F20 n s) := by
  have key : ∀ (f : Nat) (t : Int), 0 ≤ t ∧ t ≤ 1000 → Int.toNat (1000 - t) < f → 0 ≤ loopF (S20_0 n s) f t ∧ loopF (S20_0 n s) f t ≤ 1000 ∧ n ≤ s * loopF (S20_0 n s) f t * (s * loopF (S20_0 n s) f t) := by
    intro f
    induction f with
    | zero => intro t _ h; exact absurd h (Nat.not_lt_zero _)
    | succ f ih =>
      intro t ht h
      cases e : S20_0 n s t with
      | inl u =>
        have h1 := trav_next hq hs ht e
        rw [loopF_inl e]
        exact ih u (by omega) (by omega)
      | inr r =>
        rw [loopF_inr e]
        simp only [S20_0] at e
        rw [trav_sq hs ht] at e
        by_cases h1 : s * t * (s * t) < n
        · rw [decide_eq_true h1] at e; cases e
        · rw [decide_eq_false h1] at e; cases e; exact ⟨ht.1, ht.2, by omega⟩
  exact key _ 0 (by omega) (by omega)
end

end Go.Proofs.YtcnnmgooolnebaaGreat

namespace Go.Aw
open Go.RowKit Go.Proofs Go.Sort
set_option linter.unusedVariables false
set_option linter.unusedSimpArgs false

def ci (n : Int) : List SV := [iv n]
/-! ### Worlds: a row is laid anew, blocks are laid behind -/
def rowW (W : World) (blk off n : Nat) (F : Array Value) (os : Array Obj) : World := Go.Sort.grow (putRow id (Go.Sort.ahead W n) blk off F) os

theorem putCells_splice {off : Nat} {F : Array Value} {vs rest : List Value} (h : off + F.size ≤ vs.length) : putCells id off F (vs ++ rest).toArray = (splice vs off F.toList ++ rest).toArray := by
  apply Array.ext_getElem?
  intro k
  simp only [putCells, Array.getElem?_mapIdx, List.getElem?_toArray, id]
  unfold splice
  rw [List.append_assoc, List.append_assoc, List.getElem?_append, List.getElem?_append, List.getElem?_append (l₂ := _ ++ _), List.getElem?_append (l₁ := vs.drop _)]
  simp only [List.length_take, Array.length_toList, List.length_drop]
  have hm : min off vs.length = off := by omega
  rw [hm]
  by_cases h1 : k < off
  · rw [if_pos (show k < vs.length by omega), if_pos h1, List.getElem?_take_of_lt h1]
    cases vs[k]? with
    | none => rfl
    | some y => simp only [Option.map_some]; rw [if_neg (by omega)]
  · rw [if_neg h1]
    by_cases h2 : k < off + F.size
    · rw [if_pos (show k < vs.length by omega), if_pos (show k - off < F.size by omega)]
      have hk : k < vs.length := by omega
      rw [List.getElem?_eq_getElem hk, Option.map_some, if_pos ⟨by omega, h2⟩]
      rw [Array.getElem?_toList, Array.getElem?_eq_getElem (by omega), getElem!_pos F (k - off) (by omega)]
    · rw [if_neg (show ¬ k - off < F.size by omega), List.getElem?_drop]
      by_cases h3 : k < vs.length
      · rw [if_pos h3, if_pos (by omega), show off + F.size + (k - off - F.size) = k by omega]
        cases vs[k]? with
        | none => rfl
        | some y => simp only [Option.map_some]; rw [if_neg (by omega)]
      · rw [if_neg h3, if_neg (by omega), show k - off - F.size - (vs.length - (off + F.size)) = k - vs.length by omega]
        cases rest[k - vs.length]? with
        | none => rfl
        | some y => simp only [Option.map_some]; rw [if_neg (by omega)]

theorem rowW_blk {W : World} {blk off n : Nat} {F : Array Value} {os : Array Obj} {vs rest : List Value} {ty : TypeId} (h : W.heap[blk]? = some (.cells (vs ++ rest).toArray ty (0, 0))) (hF : off + F.size ≤ vs.length) :
    (rowW W blk off n F os).heap[blk]? = some (.cells (splice vs off F.toList ++ rest).toArray ty (0, 0)) := by
  have hlt := (Array.getElem?_eq_some_iff.1 h).1
  unfold rowW
  rw [heap_grow_old _ _ (by rw [Go.Sort.size_putRow]; exact hlt)]
  unfold putRow mapBlock
  simp only [Go.Sort.heap_ahead, Array.getElem?_modify, if_true, h, Option.map_some, onCells, putCells_splice hF]
theorem rowW_other {W : World} {blk off n : Nat} {F : Array Value} {os : Array Obj} {k : Nat} (hk : k < W.heap.size) (hne : k ≠ blk) : (rowW W blk off n F os).heap[k]? = W.heap[k]? := by
  unfold rowW
  rw [heap_grow_old _ _ (by rw [Go.Sort.size_putRow]; exact hk)]
  unfold putRow mapBlock
  simp only [Go.Sort.heap_ahead, Array.getElem?_modify]
  rw [if_neg (fun e => hne e.symm)]
theorem rowW_size {W : World} {blk off n : Nat} {F : Array Value} {os : Array Obj} : W.heap.size ≤ (rowW W blk off n F os).heap.size := by
  unfold rowW
  rw [size_grow, Go.Sort.size_putRow]; exact Nat.le_add_right _ _
theorem rowW_kept {W : World} {own : Nat → Prop} {blk off n : Nat} {F : Array Value} {os : Array Obj} (ho : own blk) : Kept W own (rowW W blk off n F os) :=
  ⟨rfl, rfl, rfl, rowW_size, fun k hk h => rowW_other hk (fun e => h (by rw [e]; exact ho)), by show W.drawn ≤ W.drawn + n; omega⟩
theorem kept_grown {W W' : World} (h : Kept W (fun _ => False) W') : ∃ q os, W' = Go.Sort.grow (W.drewN q) os := by
  refine ⟨W'.drawn - W.drawn, W'.heap.extract W.heap.size W'.heap.size, ?_⟩
  obtain ⟨h1, h2, h3, h4, h5, h6⟩ := h
  cases W with | mk hp tp dr o out => cases W' with | mk hp' tp' dr' o' out' =>
  simp only at h1 h2 h3 h4 h5 h6
  subst h1 h2 h3
  unfold Go.Sort.grow World.drewN
  simp only [World.mk.injEq]
  refine ⟨?_, by first | trivial | rfl, by first | trivial | omega, by first | trivial | rfl, by first | trivial | rfl⟩
  apply Array.ext_getElem?
  intro k
  rw [Array.getElem?_append]
  by_cases hk : k < hp.size
  · rw [if_pos hk]; exact h5 k hk (fun h => h)
  · rw [if_neg hk, Array.getElem?_extract]
    by_cases hk2 : k < hp'.size
    · rw [if_pos (by omega), show hp.size + (k - hp.size) = k by omega]
    · rw [if_neg (by omega), Array.getElem?_eq_none (by omega)]

theorem rels_ci {ρ : Env} : ∀ {l : List Int} {vs : List Value}, Rels ρ (flat ci l) vs → vs = l.map (Value.int .i64)
  | [], vs, h => by
    cases vs with
    | nil => rfl
    | cons _ _ => simp [flat, Rels] at h
  | x :: l, vs, h => by
    rw [flat_cons] at h
    cases vs with
    | nil => simp [ci, Rels] at h
    | cons y vs =>
      simp only [ci, List.cons_append, List.nil_append, Rels] at h
      obtain ⟨h1, h2⟩ := h
      simp only [iv, Rel] at h1
      rw [h1, rels_ci h2]; rfl
theorem ci_rels {ρ : Env} : ∀ (l : List Int), Rels ρ (flat ci l) (l.map (Value.int .i64))
  | [] => by simp [flat, Rels]
  | x :: l => by
    rw [flat_cons]
    simp only [ci, List.cons_append, List.nil_append, List.map_cons, Rels]
    exact ⟨by simp only [iv, Rel], ci_rels l⟩
theorem ci_plain (l : List Int) : Plain (flat ci l) := flat_plain (fun _ => rfl)

theorem splice_map {l : List Int} {a b : Int} {S : List Int} (h : 0 ≤ a ∧ a ≤ b ∧ b ≤ l.length) (hS : S.length = b.toNat - a.toNat) :
    splice (l.map (Value.int .i64)) a.toNat (S.map (Value.int .i64)) = (l.take a.toNat ++ S ++ l.drop b.toNat).map (Value.int .i64) := by
  unfold splice
  rw [List.length_map, hS, show a.toNat + (b.toNat - a.toNat) = b.toNat by omega]
  simp [List.map_take, List.map_drop]

section
variable {P : Program} {r : Go.Shelf.Ren}

theorem brep_row {ρ : Env} {M M' : Nat → Prop} {W W' : World} {blk j : Nat} {sym : Bool} {cells : List SV} (h : BRep ρ M W j (.live false sym cells)) (hM : M blk) (hnf : ∀ o, ρ.fz blk ≠ some o)
    (hk : ∀ k, k < W.heap.size → k ≠ blk → W'.heap[k]? = W.heap[k]?) (hM' : ∀ b, M' b → W.heap.size ≤ b) : BRep ρ M' W' j (.live false sym cells) := by
  rcases h with h | ⟨b, o, n, vs, h1, ⟨h2, h2'⟩, h3, h4⟩
  · exact .inl h
  · have first : ∀ {x : Value} {t : Nat}, vs[t]? = some x → vs ≠ [] := fun hx e => by rw [e] at hx; simp at hx
    refine .inr ⟨b, o, n, vs, h1, ⟨h2, fun hne hb => ?_⟩, h3, fun t x hx => ?_⟩
    · obtain ⟨x, xs, rfl⟩ := List.exists_cons_of_ne_nil hne
      have := cell_lt (h4 0 x rfl)
      have := hM' b hb
      omega
    · have hc := h4 t x hx
      have hlt := cell_lt hc
      have hne : b ≠ blk := fun e => by
        subst e
        obtain ⟨ob, hob⟩ := h2' (first hx) hM
        exact hnf ob hob
      unfold World.cell? at hc ⊢
      rw [hk b hlt hne]; exact hc

def roB : BK → Bool
  | .live false _ _ => true
  | .un => true
  | _ => false
theorem roB_cases {x : BK} (h : roB x = true) : x = .un ∨ ∃ sym cells, x = .live false sym cells := by
  cases x with
  | un => exact .inl rfl
  | dead => cases h
  | map es => cases h
  | live own sym cells =>
    cases own with
    | true => cases h
    | false => exact .inr ⟨sym, cells, rfl⟩

end
end Go.Aw

namespace Go.Aw
open Go.RowKit Go.Proofs Go.Sort
set_option linter.unusedVariables false
set_option linter.unusedSimpArgs false

def cK {β : Type} (ev : β → List Int) (x : β) : List SV := (ev x).map iv
def srtK {β : Type} (cf : β → β → Int) (l : List β) (a b : Int) : List β := l.take a.toNat ++ ((part l a b).mergeSort fun x y => !ltOf cf y x) ++ l.drop b.toNat

theorem flat_cK {β : Type} {ev : β → List Int} : ∀ l : List β, flat (cK ev) l = flat ci (l.flatMap ev)
  | [] => rfl
  | x :: l => by
    rw [flat_cons, flat_cK l, List.flatMap_cons]
    unfold flat
    rw [List.flatMap_append]
    congr 1
    unfold cK
    generalize ev x = m
    induction m with
    | nil => rfl
    | cons y m ih => simp [List.flatMap_cons, ci, ih]
theorem fm_drop {β : Type} {ev : β → List Int} {k : Nat} (hk : ∀ x, (ev x).length = k) : ∀ (l : List β) (n : Nat), (l.flatMap ev).drop (n * k) = (l.drop n).flatMap ev
  | [], n => by simp
  | x :: l, 0 => by simp
  | x :: l, n + 1 => by
    rw [List.flatMap_cons, Nat.add_mul, Nat.one_mul, Nat.add_comm, ← List.drop_drop, List.drop_left' (hk x), fm_drop hk l n]; simp
theorem fm_take {β : Type} {ev : β → List Int} {k : Nat} (hk : ∀ x, (ev x).length = k) : ∀ (l : List β) (n : Nat), (l.flatMap ev).take (n * k) = (l.take n).flatMap ev
  | [], n => by simp
  | x :: l, 0 => by simp
  | x :: l, n + 1 => by
    rw [List.flatMap_cons, Nat.add_mul, Nat.one_mul, Nat.add_comm, ← hk x, List.take_length_add_append, hk x, fm_take hk l n]; simp [List.flatMap_cons]
theorem fm_len {β : Type} {ev : β → List Int} {k : Nat} (hk : ∀ x, (ev x).length = k) : ∀ l : List β, (l.flatMap ev).length = l.length * k
  | [] => by simp
  | x :: l => by rw [List.flatMap_cons, List.length_append, hk, fm_len hk l, List.length_cons, Nat.add_mul, Nat.one_mul]; omega
def encK {β : Type} (ev : β → List Int) (x : β) : List Value := (ev x).map (Value.int .i64)
theorem flatK_fm {β : Type} [Inhabited β] {ev : β → List Int} {k : Nat} (hk : ∀ x, (ev x).length = k) (d : Array β) : flatK (encK ev) k d = ((d.toList.flatMap ev).map (Value.int .i64)).toArray := by
  have hs : (flatK (encK ev) k d).size = ((d.toList.flatMap ev).map (Value.int .i64)).toArray.size := by
    rw [size_flatK]; simp only [List.size_toArray, List.length_map]; rw [fm_len hk, Array.length_toList]
  refine ext_get! hs fun t ht => ?_
  rw [size_flatK] at ht
  rw [get_flatK _ _ _ t ht]
  have hk0 : 0 < k := by
    rcases Nat.eq_zero_or_pos k with h | h
    · subst h; simp at ht
    · exact h
  have hq : t / k < d.size := Nat.div_lt_of_lt_mul (by rw [Nat.mul_comm]; exact ht)
  have hm : t % k < k := Nat.mod_lt _ hk0
  have ht2 : t < ((d.toList.flatMap ev).map (Value.int .i64)).toArray.size := by rw [← hs, size_flatK]; exact ht
  rw [getElem!_pos _ t ht2, getElem!_pos d _ hq]
  have hl : (encK ev d[t / k]).length = k := by unfold encK; rw [List.length_map, hk]
  rw [getElem!_pos _ _ (by rw [hl]; exact hm)]
  have e1 : ((d.toList.flatMap ev).map (Value.int .i64))[t]? = some ((encK ev d[t / k])[t % k]'(by rw [hl]; exact hm)) := by
    have ht' : t = t / k * k + t % k := by rw [Nat.mul_comm]; exact (Nat.div_add_mod t k).symm
    have e2 : (d.toList.flatMap ev)[t]? = ((d.toList.drop (t / k)).flatMap ev)[t % k]? := by
      rw [← fm_drop hk, List.getElem?_drop, ← ht']
    rw [List.getElem?_map, e2]
    have e3 : d.toList.drop (t / k) = d[t / k] :: d.toList.drop (t / k + 1) := by
      rw [List.drop_eq_getElem_cons (by simpa using hq)]; simp
    rw [e3, List.flatMap_cons, List.getElem?_append_left (by rw [hk]; exact hm), List.getElem?_eq_getElem (by rw [hk]; exact hm)]
    simp [encK]
  have e4 := List.getElem?_eq_some_iff.1 e1
  obtain ⟨_, e5⟩ := e4
  rw [← e5]; simp

structure OrdK {β : Type} (cf : β → β → Int) : Prop where
  swo : SWO (ltOf cf)
  one : ∀ x y, ltOf cf x y = false → ltOf cf y x = false → x = y

section
variable {P : Program} {r : Go.Shelf.Ren}

set_option maxHeartbeats 1000000 in
theorem sortK_con (L : SlLaysF0.n6 P r) {k : Nat} (aE : ∀ w, (isAgg (r.t 24)).run P w = .ok true w) (zE : ∀ w, (Go.sizeOf (r.t 24)).run P w = .ok k w) (hE : Enters P (r.f 6)) {β : Type} [Inhabited β] {ev : β → List Int} (hk : ∀ x, (ev x).length = k) (hk0 : 0 < k)
    {cf : β → β → Int} (hO : OrdK cf) {g : Nat} {caps : List SV} {bs : List BK} {l : List β} {a b : Int} (i : Nat)
    (hi : bs[i]? = some (.live true true (flat (cK ev) l))) (hab : 0 ≤ a ∧ a < b ∧ b ≤ l.length) (hlen : l.length ≤ 1099511627776)
    (hro : ∀ j, j ≠ i → roB (bs.getD j .un) = true) (hg : Enters P g) (hgs : g < 1000000)
    (hcmp : ∀ (l2 : List β) (x y : β), l2.length = l.length → Con P g (.a (cK ev x) :: .a (cK ev y) :: caps) (bs.set i (.live false true (flat (cK ev) l2))) (iv (cf x y)) []) :
    Con P (r.f 6) [.s i (0 + a.toNat * k) (b.toNat - a.toNat) k, .f g caps] bs (.t []) [] (List.replicate i .un ++ [.live true true (flat (cK ev) (srtK cf l a b))]) := by
  refine ⟨hE, fun ρ W vs hr hb hpl hap hfz => ?_⟩
  have hilt := (List.getElem?_eq_some_iff.1 hi).1
  have hgi : bs.getD i .un = .live true true (flat (cK ev) l) := by rw [List.getD_eq_getElem?_getD, hi]; rfl
  have hpl0 : (part l a b).length = b.toNat - a.toNat := part_len ⟨hab.1, by omega, hab.2.2⟩
  match vs, hr with
  | [], hr => simp [Rels] at hr
  | [_], hr => simp [Rels] at hr
  | _ :: _ :: _ :: _, hr => simp [Rels] at hr
  | [v1, v2], hr =>
  simp only [Rels, and_true] at hr
  obtain ⟨hr1, hr2⟩ := hr
  simp only [Rel] at hr1 hr2
  obtain ⟨cvs, hv2, hcv⟩ := hr2
  rw [fnV_lo hgs] at hv2
  subst hv2
  have hbi := hb i
  rw [hgi] at hbi
  rcases hr1 with ⟨_, h0, _⟩ | ⟨blk, o, n0, cap, off', e1, rfl, e3, e4, e5⟩
  · omega
  rcases hbi with ⟨e6, _⟩ | ⟨blk2, vs0, rest, ty, e6, e7, e8, e9⟩
  · rw [e1] at e6; cases e6
  rw [e1] at e6
  simp only [Option.some.injEq, Prod.mk.injEq] at e6
  obtain ⟨rfl, rfl, rfl⟩ := e6
  have hoff : off' = 0 + a.toNat * k := e5 (by omega)
  subst hoff
  rw [flat_cK] at e8
  have hv0 := rels_ci e8
  have hblk := heap_lt e9
  have hown : ownOf ρ bs blk := ⟨i, _, by rw [hgi]; exact trivial, e1⟩
  have hnf : ∀ ob, ρ.fz blk ≠ some ob := fun ob hob => (hfz blk ob hob).2 i _ (by rw [hgi]; exact trivial) e1
  have hvl : vs0.length = l.length * k := by rw [hv0, List.length_map, fm_len hk]
  have mulab : a.toNat * k + (b.toNat - a.toNat) * k = b.toNat * k := by rw [← Nat.add_mul]; congr 1; omega
  have mulbl : b.toNat * k ≤ l.length * k := Nat.mul_le_mul_right _ (by omega)
  have hFl : ∀ {S : List β}, S.length = b.toNat - a.toNat → (S.flatMap ev).length = ((b.toNat * k : Nat) : Int).toNat - ((a.toNat * k : Nat) : Int).toNat := fun hS => by
    rw [fm_len hk, hS]; omega
  have hFs : ∀ {S : List β}, S.length = b.toNat - a.toNat → a.toNat * k + ((S.flatMap ev).map (Value.int .i64)).toArray.size ≤ vs0.length := fun hS => by
    simp only [List.size_toArray, List.length_map]; rw [fm_len hk, hS]; omega
  have hjoin : ∀ {S : List β}, (l.flatMap ev).take (a.toNat * k) ++ S.flatMap ev ++ (l.flatMap ev).drop (b.toNat * k) = (l.take a.toNat ++ S ++ l.drop b.toNat).flatMap ev := fun {S} => by
    rw [fm_take hk, fm_drop hk, List.flatMap_append, List.flatMap_append]
  have hrow : ∀ {S : List β} (m : Nat) (os : Array Obj), S.length = b.toNat - a.toNat → (rowW W blk (a.toNat * k) m ((S.flatMap ev).map (Value.int .i64)).toArray os).heap[blk]? = some (.cells (((l.take a.toNat ++ S ++ l.drop b.toNat).flatMap ev).map (Value.int .i64) ++ rest).toArray ty (0, 0)) := fun {S} m os hS => by
    rw [rowW_blk e9 (hFs hS)]
    have := splice_map (l := l.flatMap ev) (a := ((a.toNat * k : Nat) : Int)) (b := ((b.toNat * k : Nat) : Int)) (S := S.flatMap ev) ⟨by omega, by omega, by rw [fm_len hk]; omega⟩ (hFl hS)
    simp only [Int.toNat_natCast] at this
    simp only [hv0, this, hjoin]
  have hlen2 : ∀ {S : List β}, S.length = b.toNat - a.toNat → (l.take a.toNat ++ S ++ l.drop b.toNat).length = l.length := fun hS => by simp [hS]; omega
  have h1 : ∀ x, ∀ v ∈ encK ev x, v.oneCell' = true := fun x v hv => by
    unfold encK at hv
    obtain ⟨n, _, rfl⟩ := List.mem_map.1 hv
    rfl
  have hkE : ∀ x, (encK ev x).length = k := fun x => by unfold encK; rw [List.length_map, hk]
  have rowE : ∀ (m : Nat) (dk : Array β) (os : Array Obj), sortWorldK (encK ev) k W blk (a.toNat * k) m dk os = rowW W blk (a.toNat * k) m ((dk.toList.flatMap ev).map (Value.int .i64)).toArray os := fun m dk os => by
    unfold sortWorldK rowW putRowK
    rw [flatK_fm hk]
  have hsize : (part l a b).toArray.size = b.toNat - a.toNat := by rw [List.size_toArray, hpl0]
  have hmain := AnyQ.slices_SortFunc (P := P) (ρ := r) L k aE zE (encK ev) hkE h1 cf hO.swo g cvs.toArray blk (a.toNat * k) cap (part l a b).toArray W hg (fun m os dk hs x y => by
    rw [rowE m dk os]
    have hS2 : dk.toList.length = b.toNat - a.toNat := by rw [Array.length_toList, hs, hsize]
    let l2 := l.take a.toNat ++ dk.toList ++ l.drop b.toNat
    have hl2 : l2.length = l.length := hlen2 hS2
    have hcon := (hcmp l2 x y hl2).2
    have hget : ∀ j, (bs.set i (.live false true (flat (cK ev) l2))).getD j .un = if j = i then .live false true (flat (cK ev) l2) else bs.getD j .un := fun j => by
      simp only [List.getD_eq_getElem?_getD, List.getElem?_set]
      by_cases hj : j = i
      · subst hj; rw [if_pos rfl, if_pos hilt, if_pos rfl]; rfl
      · rw [if_neg (fun e => hj e.symm), if_neg hj]
    have noown : ∀ j, ¬ ((bs.set i (.live false true (flat (cK ev) l2))).getD j .un).own := fun j hj => by
      rw [hget] at hj
      by_cases hji : j = i
      · rw [if_pos hji] at hj; exact hj
      · rw [if_neg hji] at hj
        rcases roB_cases (hro j hji) with h | ⟨_, _, h⟩ <;> rw [h] at hj <;> exact hj
    have nomine : ∀ b0, (callCx ρ (rowW W blk (a.toNat * k) m ((dk.toList.flatMap ev).map (Value.int .i64)).toArray os) (bs.set i (.live false true (flat (cK ev) l2)))).mine b0 → W.heap.size ≤ b0 := fun b0 h => by
      rcases h with h | ⟨j, _, h, _⟩
      · exact Nat.le_trans rowW_size h
      · exact (noown j h).elim
    have argR : ∀ z : β, Rel ρ (.a (cK ev z)) (.agg (encK ev z).toArray) := fun z => by
      simp only [Rel]
      refine ⟨_, rfl, ?_⟩
      unfold cK encK
      generalize ev z = m
      induction m with
      | nil => simp [Rels]
      | cons q m ih => simp only [List.map_cons, Rels]; exact ⟨by simp only [iv, Rel], ih⟩
    have hc := hcon ρ (rowW W blk (a.toNat * k) m ((dk.toList.flatMap ev).map (Value.int .i64)).toArray os) (.agg (encK ev x).toArray :: .agg (encK ev y).toArray :: cvs) ?_ ?_ ?_ ?_ ?_
    · rw [show (#[Value.agg (encK ev x).toArray, Value.agg (encK ev y).toArray] ++ cvs.toArray) = (Value.agg (encK ev x).toArray :: Value.agg (encK ev y).toArray :: cvs).toArray by simp]
      refine hc.mono fun e w' ⟨ρ', v, q1, q2, q3, q4, _⟩ => ?_
      simp only [iv, Rel] at q3
      subst q3
      refine ⟨q1, ?_⟩
      have ho : (callCx ρ (rowW W blk (a.toNat * k) m ((dk.toList.flatMap ev).map (Value.int .i64)).toArray os) (bs.set i (.live false true (flat (cK ev) l2)))).own = fun _ => False := by
        funext b0
        apply propext
        exact ⟨fun ⟨j, _, h, _⟩ => noown j h, fun h => h.elim⟩
      rw [ho] at q4
      exact kept_grown q4
    · simp only [Rels]
      exact ⟨argR x, argR y, hcv⟩
    · intro j
      rw [hget]
      by_cases hj : j = i
      · rw [if_pos hj, hj]
        refine .inr ⟨blk, 0, _, (l2.flatMap ev).map (Value.int .i64), e1, ⟨?_, fun _ hM => ?_⟩, by rw [flat_cK]; exact ci_rels _, fun t z hz => ?_⟩
        · rw [List.length_map, fm_len hk, hl2, List.length_append, hvl]; omega
        · have := nomine blk hM; omega
        · have ht := (List.getElem?_eq_some_iff.1 hz).1
          simp only [World.cell?, hrow m os hS2, Option.isSome_none, Bool.false_eq_true, if_false, List.getElem?_toArray, Nat.zero_add]
          rw [List.getElem?_append_left ht]; exact hz
      · rw [if_neg hj]
        have hbj := hb j
        rcases roB_cases (hro j hj) with h | ⟨sym, cells, h⟩
        · rw [h]; trivial
        · rw [h] at hbj ⊢
          exact brep_row hbj e7 hnf (fun k h1 h2 => rowW_other h1 h2) nomine
    · intro j
      rw [hget]
      by_cases hj : j = i
      · rw [if_pos hj]; show Plain _; rw [flat_cK]; exact ci_plain _
      · rw [if_neg hj]; exact hpl j
    · intro j k b1 m1 b2 m2 _ o1
      exact (noown j o1).elim
    · intro b0 o0 h0
      obtain ⟨t1, _⟩ := hfz b0 o0 h0
      exact ⟨by rw [rowW_other (heap_lt t1) (fun e => by subst e; exact hnf o0 h0)]; exact t1, fun j n hj => (noown j hj).elim⟩)
    (fun j hj => by
      rw [flatK_fm hk] at hj ⊢
      simp only [List.size_toArray, List.length_map] at hj
      have hj1 : j < (b.toNat - a.toNat) * k := by rw [fm_len hk, hpl0] at hj; exact hj
      have hj2 : a.toNat * k + j < vs0.length := by omega
      refine ⟨?_, ?_⟩
      · simp only [World.cell?, e9, Option.isSome_none, Bool.false_eq_true, if_false, List.getElem?_toArray]
        rw [List.getElem?_append_left hj2, hv0, getElem!_pos _ j (by simpa using hj)]
        have e2 : (part l a b).flatMap ev = ((l.flatMap ev).drop (a.toNat * k)).take ((b.toNat - a.toNat) * k) := by
          unfold part
          rw [← fm_take hk, ← fm_drop hk]
        have e3 : ((part l a b).flatMap ev)[j]? = (l.flatMap ev)[a.toNat * k + j]? := by
          rw [e2, List.getElem?_take_of_lt hj1, List.getElem?_drop]
        rw [List.getElem?_map, ← e3, List.getElem?_eq_getElem hj]
        simp
      · simp [World.frozen?, e9]) hblk (by rw [hsize]; omega)
  rw [hsize] at hmain
  rw [show [Value.slice (some ⟨blk, 0 + (0 + a.toNat * k), none⟩) (b.toNat - a.toNat) cap, .func (.func g) #[] cvs.toArray].toArray = #[Value.slice (some ⟨blk, a.toNat * k, none⟩) (b.toNat - a.toNat) cap, .func (.func g) #[] cvs.toArray] by simp]
  refine hmain.mono fun e W' ⟨he, d', n, os, hp, hs, hw⟩ => ?_
  rw [rowE] at hw
  subst hw
  have hu := sorted_unique_holds (lt := ltOf cf) hO.swo hO.one (part l a b).toArray d' (by rw [hsize]; exact hp) (by rw [hsize]; exact hs)
  have hSl : ((part l a b).mergeSort fun x y => !ltOf cf y x).length = b.toNat - a.toNat := by rw [List.length_mergeSort, hpl0]
  rw [hu]
  have hmb : ∀ j, postB bs.length (List.replicate i .un ++ [.live true true (flat (cK ev) (srtK cf l a b))]) [] j = if j = i then .live true true (flat (cK ev) (srtK cf l a b)) else .un := fun j => by
    unfold postB
    rw [getD_last, List.length_replicate]
    by_cases hj : j = i
    · rw [if_pos hj, if_pos hj, if_pos (by omega)]
    · rw [if_neg hj, if_neg hj]
      have hrep : (List.replicate i BK.un).getD j .un = .un := by
        rw [List.getD_eq_getElem?_getD, List.getElem?_replicate]
        by_cases h3 : j < i
        · rw [if_pos h3]; rfl
        · rw [if_neg h3]; rfl
      by_cases h3 : j < bs.length
      · rw [if_pos h3, hrep]
      · rw [if_neg h3]; rfl
  refine ⟨ρ, .tuple #[], he, fun _ _ => rfl, by simp [Rel, Rels], rowW_kept hown, fun j => ?_, fun j => ?_, fun j k b1 m1 b2 m2 hjk o1 o2 => ?_, ρ.le_refl, fun b0 o0 h0 => ?_⟩
  · show BRep _ _ _ _ (postB bs.length _ _ j)
    rw [hmb]
    by_cases hj : j = i
    · rw [if_pos hj, hj]
      refine .inr ⟨blk, ((srtK cf l a b).flatMap ev).map (Value.int .i64), rest, ty, ?_, .inr hown, by rw [flat_cK]; exact ci_rels _, hrow n os hSl⟩
      rw [e1, List.length_append, List.length_append, List.length_map, hvl, fm_len hk]
      unfold srtK
      rw [hlen2 hSl]
    · rw [if_neg hj]; trivial
  · show (postB bs.length _ _ j).pl
    rw [hmb]
    by_cases hj : j = i
    · rw [if_pos hj]; show Plain _; rw [flat_cK]; exact ci_plain _
    · rw [if_neg hj]; trivial
  · have h1 : j = i := by
      by_cases h : j = i
      · exact h
      · change (postB bs.length _ _ j).own at o1
        rw [hmb, if_neg h] at o1; exact o1.elim
    have h2 : k = i := by
      by_cases h : k = i
      · exact h
      · change (postB bs.length _ _ k).own at o2
        rw [hmb, if_neg h] at o2; exact o2.elim
    exact absurd (h1.trans h2.symm) hjk
  · obtain ⟨t1, t2⟩ := hfz b0 o0 h0
    refine ⟨by rw [rowW_other (heap_lt t1) (fun e => by subst e; exact hnf o0 h0)]; exact t1, fun j n2 hj e => ?_, .inl h0⟩
    have h1 : j = i := by
      by_cases h : j = i
      · exact h
      · change (postB bs.length _ _ j).own at hj
        rw [hmb, if_neg h] at hj; exact hj.elim
    subst h1
    exact t2 j n2 (by rw [hgi]; exact trivial) e
end
end Go.Aw

namespace Go.Proofs.YtcnnmgooolnebaaGreat
open Go.Proofs Go.Aw Go.RowKit
set_option maxRecDepth 100000
set_option linter.unusedVariables false
set_option linter.unusedSimpArgs false

def F101 (a0 : Int) : Bool :=
  ((a0 : Int) != a0)

theorem C101 (a0 : Int) : Con Tryz.prog 101 [(iv a0)] [] (.v (.bool (F101 a0))) [] := by
  refine con_s Tryz.func101 (by kernel_rfl) fun cx hcx => ?_
  have e := Eq.refl (F101 a0); conv at e => rhs; simp only [F101]
  rw [e]
  exact rt [] [] [] hcx (by kernel_rfl)

def F66 (a0 : Int) (a1 : Int) : Int :=
  (bif (F101 a0) then
   (bif (F101 a1) then
    0
   else
    (-1))
  else
   (bif (F101 a1) then
    1
   else
    (bif (decide ((a0 : Int) < a1)) then
     (-1)
    else
     (bif (decide ((a0 : Int) > a1)) then
      1
     else
      0))))

theorem C66 (a0 : Int) (a1 : Int) : Con Tryz.prog 66 [(iv a0), (iv a1)] [] (iv (F66 a0 a1)) [] := by
  refine con_s Tryz.func66 (by kernel_rfl) fun cx hcx => ?_
  let t0 : List (St Tryz.prog) := [.c [] (C101 a0), .c [] (C101 a1)]
  cases h0 : (F101 a0) with
  | true =>
   let t1 : List (St Tryz.prog) := (t0 ++ [.d h0])
   cases h1 : (F101 a1) with
   | true =>
    have e := Eq.refl (F66 a0 a1); conv at e => rhs; simp only [F66, h0, h1, cond_true, cond_false]
    rw [e]
    exact rt (t1 ++ [.d h1]) [] [] hcx (by kernel_rfl)
   | false =>
    have e := Eq.refl (F66 a0 a1); conv at e => rhs; simp only [F66, h0, h1, cond_true, cond_false]
    rw [e]
    exact rt (t1 ++ [.d h1]) [] [] hcx (by kernel_rfl)
  | false =>
   let t1 : List (St Tryz.prog) := (t0 ++ [.d h0])
   cases h1 : (F101 a1) with
   | true =>
    have e := Eq.refl (F66 a0 a1); conv at e => rhs; simp only [F66, h0, h1, cond_true, cond_false]
    rw [e]
    exact rt (t1 ++ [.d h1]) [] [] hcx (by kernel_rfl)
   | false =>
    let t2 : List (St Tryz.prog) := (t1 ++ [.d h1])
    cases h2 : (decide ((a0 : Int) < a1)) with
    | true =>
     have q2 := of_decide_eq_true h2
     have e := Eq.refl (F66 a0 a1); conv at e => rhs; simp only [F66, h0, h1, h2, cond_true, cond_false]
     rw [e]
     exact rt (t2 ++ [.d h2]) [] [] hcx (by kernel_rfl)
    | false =>
     have q2 := of_decide_eq_false h2
     let t3 : List (St Tryz.prog) := (t2 ++ [.d h2])
     cases h3 : (decide ((a0 : Int) > a1)) with
     | true =>
      have q3 := of_decide_eq_true h3
      have e := Eq.refl (F66 a0 a1); conv at e => rhs; simp only [F66, h0, h1, h2, h3, cond_true, cond_false]
      rw [e]
      exact rt (t3 ++ [.d h3]) [] [] hcx (by kernel_rfl)
     | false =>
      have q3 := of_decide_eq_false h3
      have e := Eq.refl (F66 a0 a1); conv at e => rhs; simp only [F66, h0, h1, h2, h3, cond_true, cond_false]
      rw [e]
      exact rt (t3 ++ [.d h3]) [] [] hcx (by kernel_rfl)

def F65_3 (a0 : (Int) × (Int) × (Int)) : Int :=
  (bif ((a0.1 : Int) != 0) then
   a0.1
  else
   (bif ((a0.2.1 : Int) != 0) then
    a0.2.1
   else
    (bif ((a0.2.2 : Int) != 0) then
     a0.2.2
    else
     0)))

theorem C65_3 (a0 : (Int) × (Int) × (Int)) : Con Tryz.prog 65 [(.s 0 0 3 1)] [(.live false false (k3 a0))] (iv (F65_3 a0)) [] := by
  refine con_s Tryz.func65 (by kernel_rfl) fun cx hcx => ?_
  let t0 : List (St Tryz.prog) := [.u 200, .T, .i 0 3 (by decide)]
  cases h0 : ((a0.1 : Int) != 0) with
  | true =>
   have q0 := bne_iff_ne.1 h0
   have e := Eq.refl (F65_3 a0); conv at e => rhs; simp only [F65_3, h0, cond_true, cond_false]
   rw [e]
   exact rt (t0 ++ [.d h0]) [] [] hcx (by kernel_rfl)
  | false =>
   have q0 := bne_eq_false_iff_eq.1 h0
   let t1 : List (St Tryz.prog) := (t0 ++ [.d h0, .u 0, .T, .i 1 3 (by decide)])
   cases h1 : ((a0.2.1 : Int) != 0) with
   | true =>
    have q1 := bne_iff_ne.1 h1
    have e := Eq.refl (F65_3 a0); conv at e => rhs; simp only [F65_3, h0, h1, cond_true, cond_false]
    rw [e]
    exact rt (t1 ++ [.d h1]) [] [] hcx (by kernel_rfl)
   | false =>
    have q1 := bne_eq_false_iff_eq.1 h1
    let t2 : List (St Tryz.prog) := (t1 ++ [.d h1, .u 0, .T, .i 2 3 (by decide)])
    cases h2 : ((a0.2.2 : Int) != 0) with
    | true =>
     have q2 := bne_iff_ne.1 h2
     have e := Eq.refl (F65_3 a0); conv at e => rhs; simp only [F65_3, h0, h1, h2, cond_true, cond_false]
     rw [e]
     exact rt (t2 ++ [.d h2]) [] [] hcx (by kernel_rfl)
    | false =>
     have q2 := bne_eq_false_iff_eq.1 h2
     have e := Eq.refl (F65_3 a0); conv at e => rhs; simp only [F65_3, h0, h1, h2, cond_true, cond_false]
     rw [e]
     exact rt (t2 ++ [.d h2, .u 0, .F]) [] [] hcx (by kernel_rfl)

def F42 (a0 : Int × Int × Int) (a1 : Int × Int × Int) : Int :=
  (F65_3 ((F66 a0.1 a1.1), (F66 a0.2.1 a1.2.1), (F66 a0.2.2 a1.2.2)))

theorem C42 (a0 : Int × Int × Int) (a1 : Int × Int × Int) : Con Tryz.prog 42 [(.a (k3 a0)), (.a (k3 a1))] [] (iv (F42 a0 a1)) [] := by
  refine con_s Tryz.func42 (by kernel_rfl) fun cx hcx => ?_
  have e := Eq.refl (F42 a0 a1); conv at e => rhs; simp only [F42]
  rw [e]
  exact rt [.c [] (C66 a0.1 a1.1), .c [] (C66 a0.2.1 a1.2.1), .c [] (C66 a0.2.2 a1.2.2), .c [2] (C65_3 ((F66 a0.1 a1.1), (F66 a0.2.1 a1.2.1), (F66 a0.2.2 a1.2.2)))] [] [] hcx (by kernel_rfl)

def sortlay_ren : Go.Shelf.Ren := ⟨fun | 6 => 41 | 15 => 64 | 14 => 63 | 28 => 99 | 29 => 100 | 20 => 91 | 21 => 92 | 22 => 93 | 23 => 94 | 24 => 95 | 25 => 96 | 26 => 97 | 27 => 98 | 46 => 121 | 47 => 122 | 48 => 123 | 49 => 124 | 50 => 125 | 57 => 134 | n => n, fun | 22 => 55 | 24 => 58 | 25 => 78 | 3 => 3 | 39 => 93 | 0 => 0 | 53 => 126 | 55 => 128 | 4 => 4 | 46 => 119 | 45 => 118 | 50 => 123 | 5 => 5 | 9 => 9 | 66 => 138 | 70 => 142 | 76 => 145 | 77 => 146 | n => n, fun | n => n⟩
theorem sortlay : Go.Proofs.SlLaysF0.n6 Tryz.prog sortlay_ren := {
  mixed := by kernel_rfl
  f6 := ⟨Tryz.f41.name, by decide, Tryz.func41.trans (congrArg some (by kernel_rfl))⟩
  f14 := ⟨Tryz.f63.name, by decide, Tryz.func63.trans (congrArg some (by kernel_rfl))⟩
  f15 := Tryz.func64.trans (congrArg some (by kernel_rfl))
  f20 := ⟨Tryz.f91.name, by decide, Tryz.func91.trans (congrArg some (by kernel_rfl))⟩
  f21 := ⟨Tryz.f92.name, by decide, Tryz.func92.trans (congrArg some (by kernel_rfl))⟩
  f22 := ⟨Tryz.f93.name, by decide, Tryz.func93.trans (congrArg some (by kernel_rfl))⟩
  f23 := ⟨Tryz.f94.name, by decide, Tryz.func94.trans (congrArg some (by kernel_rfl))⟩
  f24 := ⟨Tryz.f95.name, by decide, Tryz.func95.trans (congrArg some (by kernel_rfl))⟩
  f25 := ⟨Tryz.f96.name, by decide, Tryz.func96.trans (congrArg some (by kernel_rfl))⟩
  f26 := ⟨Tryz.f97.name, by decide, Tryz.func97.trans (congrArg some (by kernel_rfl))⟩
  f27 := ⟨Tryz.f98.name, by decide, Tryz.func98.trans (congrArg some (by kernel_rfl))⟩
  f28 := Tryz.func99.trans (congrArg some (by kernel_rfl))
  f29 := Tryz.func100.trans (congrArg some (by kernel_rfl))
  f46 := ⟨Tryz.f121.name, by decide, Tryz.func121.trans (congrArg some (by kernel_rfl))⟩
  f47 := Tryz.func122.trans (congrArg some (by kernel_rfl))
  f48 := Tryz.func123.trans (congrArg some (by kernel_rfl))
  f49 := ⟨Tryz.f124.name, by decide, Tryz.func124.trans (congrArg some (by kernel_rfl))⟩
  f50 := ⟨Tryz.f125.name, by decide, Tryz.func125.trans (congrArg some (by kernel_rfl))⟩
  f57 := ⟨Tryz.f134.name, by decide, Tryz.func134.trans (congrArg some (by kernel_rfl))⟩
  t0 := Tryz.underlying0
  a0 := Tryz.isAgg0
  z0 := Tryz.sizeOf0
  v0 := Tryz.zeroValue0
  t3 := Tryz.underlying3
  a3 := Tryz.isAgg3
  z3 := Tryz.sizeOf3
  v3 := Tryz.zeroValue3
  t4 := Tryz.underlying4
  a4 := Tryz.isAgg4
  z4 := Tryz.sizeOf4
  v4 := Tryz.zeroValue4
  t5 := Tryz.underlying5
  a5 := Tryz.isAgg5
  z5 := Tryz.sizeOf5
  v5 := Tryz.zeroValue5
  t9 := Tryz.underlying9
  a9 := Tryz.isAgg9
  z9 := Tryz.sizeOf9
  v9 := Tryz.zeroValue9
  t22 := Tryz.underlying55
  a22 := Tryz.isAgg55
  z22 := Tryz.sizeOf55
  v22 := Tryz.zeroValue55
  t25 := Tryz.underlying78
  a25 := Tryz.isAgg78
  z25 := Tryz.sizeOf78
  v25 := Tryz.zeroValue78
  t39 := Tryz.underlying93
  a39 := Tryz.isAgg93
  z39 := Tryz.sizeOf93
  v39 := Tryz.zeroValue93
  t45 := Tryz.underlying118
  a45 := Tryz.isAgg118
  z45 := Tryz.sizeOf118
  v45 := Tryz.zeroValue118
  t46 := Tryz.underlying119
  a46 := Tryz.isAgg119
  z46 := Tryz.sizeOf119
  v46 := Tryz.zeroValue119
  t50 := Tryz.underlying123
  a50 := Tryz.isAgg123
  z50 := Tryz.sizeOf123
  v50 := Tryz.zeroValue123
  t53 := Tryz.underlying126
  a53 := Tryz.isAgg126
  z53 := Tryz.sizeOf126
  v53 := Tryz.zeroValue126
  t55 := Tryz.underlying128
  a55 := Tryz.isAgg128
  z55 := Tryz.sizeOf128
  v55 := Tryz.zeroValue128
  t66 := Tryz.underlying138
  a66 := Tryz.isAgg138
  z66 := Tryz.sizeOf138
  v66 := Tryz.zeroValue138
  t70 := Tryz.underlying142
  a70 := Tryz.isAgg142
  z70 := Tryz.sizeOf142
  v70 := Tryz.zeroValue142
  t76 := Tryz.underlying145
  a76 := Tryz.isAgg145
  z76 := Tryz.sizeOf145
  v76 := Tryz.zeroValue145
  t77 := Tryz.underlying146
  a77 := Tryz.isAgg146
  z77 := Tryz.sizeOf146
  v77 := Tryz.zeroValue146 }

end Go.Proofs.YtcnnmgooolnebaaGreat

namespace Go.Proofs.YtcnnmgooolnebaaGreat
open Go.Proofs Go.Aw Go.RowKit
set_option maxRecDepth 100000
set_option linter.unusedVariables false
set_option linter.unusedSimpArgs false

/-! ### The order of arrivals -/
open Go.RowKit in
theorem con_drop {P : Program} {f : Nat} {args : List SV} {n : Int} (bs : List BK) (h : Con P f args [] (iv n) []) : Con P f args bs (iv n) [] := by
  refine ⟨h.1, fun ρ W vs hr _ _ _ hfz => ?_⟩
  have un1 : ∀ m j, postB m ([] : List BK) [] j = .un := fun m j => by unfold postB; simp
  have g0 : ∀ i, ([] : List BK).getD i .un = .un := fun i => by simp
  refine (h.2 ρ W vs hr (fun i => by rw [g0]; trivial) (fun i => by rw [g0]; trivial) (fun i j b n b' n' _ o1 => by rw [g0] at o1; exact o1.elim) (fun b o hb => ⟨(hfz b o hb).1, fun i n o1 => by rw [g0] at o1; exact o1.elim⟩)).mono fun e W' hR => ?_
  obtain ⟨ρ', v, r1, r2, r3, r4, r5, r6, r7, r8, r9⟩ := hR
  refine ⟨ρ, v, r1, fun _ _ => rfl, by simpa only [iv, Rel] using r3, ⟨r4.os, r4.tape, r4.output, r4.size, fun k hk _ => r4.block k hk (fun ⟨i, m, o1, _⟩ => by rw [g0] at o1; exact o1.elim), r4.drawn⟩, fun j => by rw [un1]; trivial, fun j => by rw [un1]; trivial, fun i j b n b' n' _ o1 => by rw [un1] at o1; exact o1.elim, ρ.le_refl, fun b o hb => ⟨(r9 b o (r8 b o hb)).1, fun j m o1 => by rw [un1] at o1; exact o1.elim, .inl hb⟩⟩
open Go.Sort Go.Proofs in
theorem cmpI (a b : Int) : F66 a b = if a < b then -1 else if b < a then 1 else 0 := by
  have h : ∀ x : Int, F101 x = false := fun x => by unfold F101; simp
  unfold F66
  rw [h, h, cond_false, cond_false]
  by_cases h1 : a < b
  · rw [decide_eq_true h1, cond_true, if_pos h1]
  · rw [decide_eq_false h1, cond_false, if_neg h1]
    by_cases h2 : a > b
    · rw [decide_eq_true h2, cond_true, if_pos h2]
    · rw [decide_eq_false h2, cond_false, if_neg h2]
abbrev AR := Int × Int × Int
def ltA (x y : AR) : Prop := x.1 < y.1 ∨ (x.1 = y.1 ∧ (x.2.1 < y.2.1 ∨ (x.2.1 = y.2.1 ∧ x.2.2 < y.2.2)))
abbrev cfA : AR → AR → Int := F42
theorem lt_arr (x y : AR) : ltOf cfA x y = true ↔ ltA x y := by
  unfold ltOf cfA F42 F65_3 ltA
  simp only [decide_eq_true_eq, cmpI]
  rcases Int.lt_trichotomy x.1 y.1 with h | h | h
  · rw [if_pos h]
    simp [h]
  · rw [if_neg (by omega), if_neg (by omega)]
    rcases Int.lt_trichotomy x.2.1 y.2.1 with h2 | h2 | h2
    · rw [if_pos h2]
      simp [h, h2]
    · rw [if_neg (by omega), if_neg (by omega)]
      rcases Int.lt_trichotomy x.2.2 y.2.2 with h3 | h3 | h3
      · rw [if_pos h3]
        simp [h, h2, h3]
      · rw [if_neg (by omega), if_neg (by omega)]
        simp [h, h2, h3]
      · rw [if_neg (by omega), if_pos h3]
        simp [h, h2]; omega
    · rw [if_neg (by omega), if_pos h2]
      simp [h]; omega
  · rw [if_neg (by omega), if_pos h]
    simp; omega
theorem lt_arrF (x y : AR) : ltOf cfA x y = false ↔ ¬ ltA x y := by rw [← lt_arr]; simp
theorem ordArr : OrdK cfA := by
  refine ⟨⟨fun x => ?_, fun x y z h1 h2 => ?_, fun x y z h1 h2 => ?_⟩, fun x y h1 h2 => ?_⟩
  · rw [lt_arrF]; unfold ltA; omega
  · rw [lt_arr] at *; unfold ltA at *; omega
  · rw [lt_arrF] at *; unfold ltA at *; omega
  · rw [lt_arrF] at *; unfold ltA at *
    refine Prod.ext ?_ (Prod.ext ?_ ?_) <;> omega
theorem plainF {P : Program} {f g : Nat} {a0 : SV} {bs nb mb : List BK} {res : SV} (hg : g < 1000000) (h : Con P f [a0, .f g []] bs res nb mb) : Con P f [a0, .v (.func (.func g) #[] #[])] bs res nb mb := by
  refine ⟨h.1, fun ρ W vs hr => h.2 ρ W vs ?_⟩
  match vs, hr with
  | [], hr => simp [Rels] at hr
  | [_], hr => simp [Rels] at hr
  | _ :: _ :: _ :: _, hr => simp [Rels] at hr
  | [v1, v2], hr =>
    simp only [Rels, and_true] at hr ⊢
    refine ⟨hr.1, ?_⟩
    have h2 := hr.2
    simp only [Rel] at h2 ⊢
    exact ⟨[], by rw [h2, fnV_lo hg], by simp [Rels]⟩
theorem sort_none {P : Program} {r : Go.Shelf.Ren} (L : Go.Proofs.SlLaysF0.n6 P r) (hE : Enters P (r.f 6)) {g k : Nat} {cells : List SV} (hc : Plain cells) :
    Con P (r.f 6) [.s 0 0 0 k, .f g []] [.live true true cells] (.t []) [] [.live true true cells] := by
  refine ⟨hE, fun ρ W vs hr hb hpl hap hfz => ?_⟩
  match vs, hr with
  | [], hr => simp [Rels] at hr
  | [_], hr => simp [Rels] at hr
  | _ :: _ :: _ :: _, hr => simp [Rels] at hr
  | [v1, v2], hr =>
  simp only [Rels, and_true] at hr
  have hv : ∃ (p : Option Addr) (cap : Nat), v1 = .slice p 0 cap := by
    have h1 := hr.1
    simp only [Rel] at h1
    rcases h1 with ⟨_, _, h⟩ | ⟨b, o, n, cap, off', _, h, _⟩
    · exact ⟨_, _, h⟩
    · exact ⟨_, _, h⟩
  obtain ⟨p, cap, rfl⟩ := hv
  have h := Go.Proofs.AnyF.slices_SortFunc_none L p cap v2 W
  refine h.mono fun e w' ⟨he, hw⟩ => ?_
  subst hw
  have hmb : ∀ j, postB 1 [BK.live true true cells] [] j = ([BK.live true true cells] : List BK).getD j .un := fun j => by
    unfold postB
    rcases j with _ | j
    · rfl
    · rw [if_neg (by omega)]; simp
  refine ⟨ρ, .tuple #[], he, fun _ _ => rfl, by simp [Rel, Rels], Kept.refl _ _, fun j => ?_, fun j => ?_, fun j k b1 m1 b2 m2 hjk o1 o2 => ?_, ρ.le_refl, fun b0 o0 h0 => ?_⟩
  · show BRep _ _ _ _ (postB 1 _ _ j); rw [hmb]; exact hb j
  · show (postB 1 _ _ j).pl; rw [hmb]; exact hpl j
  · change (postB 1 _ _ j).own at o1
    change (postB 1 _ _ k).own at o2
    rw [hmb] at o1 o2
    exact hap j k b1 m1 b2 m2 hjk o1 o2
  · obtain ⟨t1, t2⟩ := hfz b0 o0 h0
    refine ⟨t1, fun j n2 hj => ?_, .inl h0⟩
    change (postB 1 _ _ j).own at hj
    rw [hmb] at hj
    exact t2 j n2 hj
def srtA (l : List AR) : List AR := l.mergeSort fun x y => !ltOf cfA y x
theorem srtA_eq (l : List AR) : srtK cfA l 0 ((l.length : Nat) : Int) = srtA l := by
  unfold srtK srtA Aw.part
  simp
theorem srtA_len (l : List AR) : (srtA l).length = l.length := List.length_mergeSort _
theorem sort_arr (l : List AR) (h : l.length ≤ 1048576) : Con Tryz.prog 41 [.s 0 0 l.length 3, .v (.func (.func 42) #[] #[])] [.live true true (flat c58 l)] (.t []) [] [.live true true (flat c58 (srtA l))] := by
  have hE : Enters Tryz.prog 41 := ent Tryz.func41 (by kernel_rfl) rfl
  refine plainF (by decide) ?_
  by_cases hn : l.length = 0
  · have hl : l = [] := List.eq_nil_of_length_eq_zero hn
    subst hl
    have e : srtA [] = [] := by have := srtA_len []; exact List.eq_nil_of_length_eq_zero (by simpa using this)
    rw [e]
    exact sort_none (r := sortlay_ren) sortlay hE (by intro j hj; simp [flat, SV.hasl] at hj)
  · have hk := sortK_con (P := Tryz.prog) (r := sortlay_ren) sortlay (k := 3) (fun w => Tryz.isAgg58 w) (fun w => Tryz.sizeOf58 w) hE (ev := fun x : AR => [x.1, x.2.1, x.2.2]) (fun _ => rfl) (by decide) ordArr
      (g := 42) (caps := []) (bs := [.live true true (flat (cK fun x : AR => [x.1, x.2.1, x.2.2]) l)]) (l := l) (a := 0) (b := ((l.length : Nat) : Int)) 0 rfl ⟨by omega, by omega, by omega⟩ (by omega)
      (fun j hj => by
        rcases j with _ | j
        · exact absurd rfl hj
        · rfl)
      (C42 (0, 0, 0) (0, 0, 0)).1 (by decide) (fun l2 x y hl2 => ?_)
    · rw [srtA_eq] at hk
      exact hk
    · exact con_drop _ (C42 x y)

end Go.Proofs.YtcnnmgooolnebaaGreat

namespace Go.Proofs.YtcnnmgooolnebaaGreat
open Go.Proofs Go.Aw Go.RowKit
set_option maxRecDepth 100000
set_option linter.unusedVariables false
set_option linter.unusedSimpArgs false

theorem arr_16 {l : List PU} {x : P3} {s : Int} (hv : vpL l = 0) : (F25_L l x s).length ≤ 1048576 := by
  rw [arr_len]; have := (vpL_ok hv).1; omega

def c3 (x : Int) : List SV := [(iv x)]
theorem c3_len (x : Int) : (c3 x).length = 1 := rfl

noncomputable def B14_L_0 : Code := (loopAtD [1, 1, 1, 1, 1, 0, 1] [] (bodyOf Tryz.f14) []).1
noncomputable def K14_L_0 : List K := (loopAtD [1, 1, 1, 1, 1, 0, 1] [] (bodyOf Tryz.f14) []).2

def st14_L_0 (a0 : List (((Int × Int × Int) × (Int × Int × Int) × Int × Int × Int) × Int × Int)) (a1 : Int × Int × Int) (a2 : Int) (v2c : List SV) (v2n : Nat) (v3 : Int) : LS := ⟨slN 43 [(10, (.s 1 0 v2n 1)), (30, (.s 2 0 (F25_L a0 a1 a2).length 3)), (31, (iv (((F25_L a0 a1 a2).length : Nat) : Int))), (32, (iv v3))], [(.live false true (flat c63 a0)), (.live true true v2c), (.live true true (flat c58 (srtA (F25_L a0 a1 a2))))]⟩

def S14_L_0 (a0 : List (((Int × Int × Int) × (Int × Int × Int) × Int × Int × Int) × Int × Int)) (a1 : Int × Int × Int) (a2 : Int) : List (Int) × Int → (List (Int) × Int) ⊕ (List (Int) × Int)
  | (v2, v3) =>
   (bif (decide ((v3 : Int) < (((F25_L a0 a1 a2).length : Nat) : Int))) then
    (.inl ((v2 ++ [((srtA (F25_L a0 a1 a2)).getD (Int.toNat v3) default).2.2]), (v3 + 1)))
   else
    (.inr (v2, 0)))

set_option maxHeartbeats 4000000 in
theorem L14_L_0 (a0 : List (((Int × Int × Int) × (Int × Int × Int) × Int × Int × Int) × Int × Int)) (a1 : Int × Int × Int) (a2 : Int) (l0 : a0.length ≤ 9223372036854775807) {cx : Cx} (hcx : cx.base = 1) : ∀ (n : Nat) (v2 : List (Int)) (v3 : Int), (0 ≤ v3) ∧ (v2.length = Int.toNat v3) ∧ (v3 ≤ (srtA (F25_L a0 a1 a2)).length) ∧ ((F25_L a0 a1 a2).length ≤ 1048576) → Int.toNat ((((F25_L a0 a1 a2).length : Nat) : Int) - v3) < n → Aw.Good Tryz.prog none 9 (bodyPost Tryz.prog Tryz.f14 (RR cx (.t [(.s 1 0 (loopF (S14_L_0 a0 a1 a2) n (v2, v3)).1.length 1), (iv (loopF (S14_L_0 a0 a1 a2) n (v2, v3)).2)]) [(.live true true (flat c3 (loopF (S14_L_0 a0 a1 a2) n (v2, v3)).1))] [])) cx [] (.l B14_L_0 n :: K14_L_0) (st14_L_0 a0 a1 a2 (flat c3 v2) v2.length v3) := by
  intro n
  induction n with
  | zero => intro v2 v3 hi hn; exact absurd hn (Nat.not_lt_zero _)
  | succ n ih =>
    intro v2 v3 hi hn
    refine good_round ?_
    have hal := arr_len a0 a1 a2
    have hsl := srtA_len (F25_L a0 a1 a2)
    cases h0 : (decide ((v3 : Int) < (((F25_L a0 a1 a2).length : Nat) : Int))) with
    | true =>
     have q0 := of_decide_eq_true h0
     have e := Eq.refl (S14_L_0 a0 a1 a2 (v2, v3)); conv at e => rhs; simp only [S14_L_0, h0, cond_true, cond_false]
     rw [loopF_inl e]
     refine ba [.d h0, .i v3 ((F25_L a0 a1 a2).length), .L c58_len (srtA (F25_L a0 a1 a2)) v3 0 3, .p (show ((flat c3 v2).length = v2.length * 1 ∧ v2.length + 1 ≤ 2 ^ 40 ∧ (v2.length + 1) * 8 ≤ 2 ^ 47) from app_ok c3_len (by omega) (by omega))] [] [10, 30, 31, 32] [5, 2] hcx (m := n) B14_L_0 (K14_L_0) (st14_L_0 a0 a1 a2 (flat c3 v2 ++ [(iv ((srtA (F25_L a0 a1 a2)).getD (Int.toNat v3) default).2.2)]) (v2.length + 1) (W (v3 + 1))) (by kernel_rfl) ?_
     have z0 : (W (v3 + 1)) = (v3 + 1) := W_eq (by omega) (by omega)
     have z1 : (flat c3 v2 ++ [(iv ((srtA (F25_L a0 a1 a2)).getD (Int.toNat v3) default).2.2)]) = (flat c3 (v2 ++ [((srtA (F25_L a0 a1 a2)).getD (Int.toNat v3) default).2.2])) := (flat_append (c := c3) (l := v2) (m := [((srtA (F25_L a0 a1 a2)).getD (Int.toNat v3) default).2.2])).symm
     have z2 : (v2.length + 1) = (v2 ++ [((srtA (F25_L a0 a1 a2)).getD (Int.toNat v3) default).2.2]).length := len_app v2 [((srtA (F25_L a0 a1 a2)).getD (Int.toNat v3) default).2.2] rfl
     rw [z0, z1, z2]
     exact ih (v2 ++ [((srtA (F25_L a0 a1 a2)).getD (Int.toNat v3) default).2.2]) (v3 + 1) (by refine ⟨?_, ?_, ?_, ?_⟩ <;> (try simp only [List.length_append, List.length_cons, List.length_nil, Int.toNat_zero]) <;> first | omega | assumption | simp) (by (try simp only [List.length_append, List.length_cons, List.length_nil, Int.toNat_zero]); omega)
    | false =>
     have q0 := of_decide_eq_false h0
     have e := Eq.refl (S14_L_0 a0 a1 a2 (v2, v3)); conv at e => rhs; simp only [S14_L_0, h0, cond_true, cond_false]
     rw [loopF_s, e]
     exact rt [.d h0] [] [1] hcx (by kernel_rfl)

def F14_L (a0 : List (((Int × Int × Int) × (Int × Int × Int) × Int × Int × Int) × Int × Int)) (a1 : Int × Int × Int) (a2 : Int) : List (Int) × Int :=
  (bif (F18 a1) then
   (bif (((F24_L a0 (F19 a2)) : Int) != 0) then
    (([] : List (Int)), (F24_L a0 (F19 a2)))
   else
    (loopF (S14_L_0 a0 a1 a2) (Int.toNat ((((F25_L a0 a1 a2).length : Nat) : Int) - 0) + 1) (([] : List (Int)), 0)))
  else
   (bif (((F24_L a0 false) : Int) != 0) then
    (([] : List (Int)), (F24_L a0 false))
   else
    (loopF (S14_L_0 a0 a1 a2) (Int.toNat ((((F25_L a0 a1 a2).length : Nat) : Int) - 0) + 1) (([] : List (Int)), 0))))

theorem C14_L (a0 : List (((Int × Int × Int) × (Int × Int × Int) × Int × Int × Int) × Int × Int)) (a1 : Int × Int × Int) (a2 : Int) (l0 : a0.length ≤ 9223372036854775807) : Con Tryz.prog 14 [(.s 0 0 a0.length 11), (.a (k3 a1)), (iv a2)] [(.live false true (flat c63 a0))] (.t [(.s 1 0 (F14_L a0 a1 a2).1.length 1), (iv (F14_L a0 a1 a2).2)]) [(.live true true (flat c3 (F14_L a0 a1 a2).1))] := by
  refine con_s Tryz.func14 (by kernel_rfl) fun cx hcx => ?_
  have hal := arr_len a0 a1 a2
  have hsl := srtA_len (F25_L a0 a1 a2)
  try have ha16 := arr_16 (x := a1) (s := a2) (ckL_v h1)
  try have ha16 := arr_16 (x := a1) (s := a2) (ckL_v h2)
  let t0 : List (St Tryz.prog) := [.c [] (C18 a1)]
  cases h0 : (F18 a1) with
  | true =>
   try have ha16 := arr_16 (x := a1) (s := a2) (ckL_v h1)
   try have ha16 := arr_16 (x := a1) (s := a2) (ckL_v h2)
   let t1 : List (St Tryz.prog) := (t0 ++ [.d h0, .c [] (C19 a2), .c [0] (C24_L a0 (F19 a2) (by (try simp only [List.length_append, List.length_cons, List.length_nil, Int.toNat_zero]); omega))])
   cases h1 : (((F24_L a0 (F19 a2)) : Int) != 0) with
   | true =>
    have q1 := bne_iff_ne.1 h1
    try have ha16 := arr_16 (x := a1) (s := a2) (ckL_v h1)
    try have ha16 := arr_16 (x := a1) (s := a2) (ckL_v h2)
    have e := Eq.refl (F14_L a0 a1 a2); conv at e => rhs; simp only [F14_L, h0, h1, cond_true, cond_false]
    rw [e]
    exact rt (t1 ++ [.d h1]) [.slot 6 1] [2] hcx (by kernel_rfl)
   | false =>
    have q1 := bne_eq_false_iff_eq.1 h1
    try have ha16 := arr_16 (x := a1) (s := a2) (ckL_v h1)
    try have ha16 := arr_16 (x := a1) (s := a2) (ckL_v h2)
    have e := Eq.refl (F14_L a0 a1 a2); conv at e => rhs; simp only [F14_L, h0, h1, cond_true, cond_false]
    rw [e]
    refine en (t1 ++ [.d h1, .c [0] (C25_L a0 a1 a2 (by (try simp only [List.length_append, List.length_cons, List.length_nil, Int.toNat_zero]); omega) (by first | exact ckL_v h1 | exact ckL_v h2) (by first | exact isp_p h0 | exact absurd (ckL_b h1) (by decide) | exact absurd (ckL_b h2) (by decide)) (by first | exact iss_p (ckL_b h1) | exact iss_p h1 | exact absurd (ckL_b h1) (by decide) | exact absurd (ckL_b h2) (by decide))), .c [2] (sort_arr (F25_L a0 a1 a2) (arr_16 (ckL_v (by first | exact h1 | exact h2))))]) [.slot 10 1] [10, 30, 31, 32] [3, 2] hcx B14_L_0 (K14_L_0) (st14_L_0 a0 a1 a2 (flat c3 ([] : List (Int))) 0 0) (Int.toNat ((((F25_L a0 a1 a2).length : Nat) : Int) - 0) + 1) (by kernel_rfl) ?_
    exact L14_L_0 a0 a1 a2 l0 hcx (Int.toNat ((((F25_L a0 a1 a2).length : Nat) : Int) - 0) + 1) ([] : List (Int)) 0 (by refine ⟨?_, ?_, ?_, ?_⟩ <;> (try simp only [List.length_append, List.length_cons, List.length_nil, Int.toNat_zero]) <;> first | omega | assumption | simp) (by (try simp only [List.length_append, List.length_cons, List.length_nil, Int.toNat_zero]); omega)
  | false =>
   try have ha16 := arr_16 (x := a1) (s := a2) (ckL_v h1)
   try have ha16 := arr_16 (x := a1) (s := a2) (ckL_v h2)
   let t1 : List (St Tryz.prog) := (t0 ++ [.d h0, .c [0] (C24_L a0 false (by (try simp only [List.length_append, List.length_cons, List.length_nil, Int.toNat_zero]); omega))])
   cases h1 : (((F24_L a0 false) : Int) != 0) with
   | true =>
    have q1 := bne_iff_ne.1 h1
    try have ha16 := arr_16 (x := a1) (s := a2) (ckL_v h1)
    try have ha16 := arr_16 (x := a1) (s := a2) (ckL_v h2)
    have e := Eq.refl (F14_L a0 a1 a2); conv at e => rhs; simp only [F14_L, h0, h1, cond_true, cond_false]
    rw [e]
    exact rt (t1 ++ [.d h1]) [.slot 6 1] [2] hcx (by kernel_rfl)
   | false =>
    have q1 := bne_eq_false_iff_eq.1 h1
    try have ha16 := arr_16 (x := a1) (s := a2) (ckL_v h1)
    try have ha16 := arr_16 (x := a1) (s := a2) (ckL_v h2)
    have e := Eq.refl (F14_L a0 a1 a2); conv at e => rhs; simp only [F14_L, h0, h1, cond_true, cond_false]
    rw [e]
    refine en (t1 ++ [.d h1, .c [0] (C25_L a0 a1 a2 (by (try simp only [List.length_append, List.length_cons, List.length_nil, Int.toNat_zero]); omega) (by first | exact ckL_v h1 | exact ckL_v h2) (by first | exact isp_p h0 | exact absurd (ckL_b h1) (by decide) | exact absurd (ckL_b h2) (by decide)) (by first | exact iss_p (ckL_b h1) | exact iss_p h1 | exact absurd (ckL_b h1) (by decide) | exact absurd (ckL_b h2) (by decide))), .c [2] (sort_arr (F25_L a0 a1 a2) (arr_16 (ckL_v (by first | exact h1 | exact h2))))]) [.slot 10 1] [10, 30, 31, 32] [3, 2] hcx B14_L_0 (K14_L_0) (st14_L_0 a0 a1 a2 (flat c3 ([] : List (Int))) 0 0) (Int.toNat ((((F25_L a0 a1 a2).length : Nat) : Int) - 0) + 1) (by kernel_rfl) ?_
    exact L14_L_0 a0 a1 a2 l0 hcx (Int.toNat ((((F25_L a0 a1 a2).length : Nat) : Int) - 0) + 1) ([] : List (Int)) 0 (by refine ⟨?_, ?_, ?_, ?_⟩ <;> (try simp only [List.length_append, List.length_cons, List.length_nil, Int.toNat_zero]) <;> first | omega | assumption | simp) (by (try simp only [List.length_append, List.length_cons, List.length_nil, Int.toNat_zero]); omega)

noncomputable def B40_L_0 : Code := (loopAtD [1, 1, 0, 1] [] (bodyOf Tryz.f40) []).1
noncomputable def K40_L_0 : List K := (loopAtD [1, 1, 0, 1] [] (bodyOf Tryz.f40) []).2

def st40_L_0 (a0 : List (((Int × Int × Int) × (Int × Int × Int) × Int × Int × Int) × Int × Int)) (a1 : Int × Int × Int) (a2 : Int) (v3c : List SV) (v3n : Nat) (v4c : List SV) (v4n : Nat) (v5 : Int) : LS := ⟨slN 55 [(0, (.s 0 0 a0.length 11)), (2, (iv a2)), (4, (.p 1 0)), (8, (.s 2 0 v3n 1)), (9, (.s 3 0 v4n 1)), (10, (iv v5))], [(.live false true (flat c63 a0)), (.live true false (k3 a1)), (.live true true v3c), (.live true true v4c)]⟩

def S40_L_0 (a0 : List (((Int × Int × Int) × (Int × Int × Int) × Int × Int × Int) × Int × Int)) (a1 : Int × Int × Int) (a2 : Int) : List (Int) × List (Int) × Int → (List (Int) × List (Int) × Int) ⊕ (List (Int) × List (Int))
  | (v3, v4, v5) =>
   (bif (decide ((v5 : Int) < ((a0.length : Nat) : Int))) then
    (.inl ((v3 ++ [(W ((a0.getD (Int.toNat v5) default).2.1 + (F60 (F61 (a0.getD (Int.toNat v5) default).1 a1) a2)))]), (v4 ++ [(W ((a0.getD (Int.toNat v5) default).2.1 + (F60 (F62 (a0.getD (Int.toNat v5) default).1 a1) a2)))]), (v5 + 1)))
   else
    (.inr (v3, v4)))

set_option maxHeartbeats 4000000 in
theorem L40_L_0 (a0 : List (((Int × Int × Int) × (Int × Int × Int) × Int × Int × Int) × Int × Int)) (a1 : Int × Int × Int) (a2 : Int) (l0 : a0.length ≤ 9223372036854775807) (hv : vpL a0 = 0) (hx : bd 256 a1) (hs : 1 ≤ a2 ∧ a2 ≤ 16) {cx : Cx} (hcx : cx.base = 1) : ∀ (n : Nat) (v3 : List (Int)) (v4 : List (Int)) (v5 : Int), (0 ≤ v5) ∧ (v3.length = Int.toNat v5) ∧ (v4.length = Int.toNat v5) ∧ (v5 ≤ a0.length) → Int.toNat (((a0.length : Nat) : Int) - v5) < n → Aw.Good Tryz.prog none 9 (bodyPost Tryz.prog Tryz.f40 (RR cx (.t [(.s 1 0 (loopF (S40_L_0 a0 a1 a2) n (v3, v4, v5)).1.length 1), (.s 2 0 (loopF (S40_L_0 a0 a1 a2) n (v3, v4, v5)).2.length 1)]) [(.live true true (flat c3 (loopF (S40_L_0 a0 a1 a2) n (v3, v4, v5)).1)), (.live true true (flat c3 (loopF (S40_L_0 a0 a1 a2) n (v3, v4, v5)).2))] [])) cx [] (.l B40_L_0 n :: K40_L_0) (st40_L_0 a0 a1 a2 (flat c3 v3) v3.length (flat c3 v4) v4.length v5) := by
  intro n
  induction n with
  | zero => intro v3 v4 v5 hi hn; exact absurd hn (Nat.not_lt_zero _)
  | succ n ih =>
    intro v3 v4 v5 hi hn
    refine good_round ?_
    have hl16 := (vpL_ok hv).1
    cases h0 : (decide ((v5 : Int) < ((a0.length : Nat) : Int))) with
    | true =>
     have q0 := of_decide_eq_true h0
     have e := Eq.refl (S40_L_0 a0 a1 a2 (v3, v4, v5)); conv at e => rhs; simp only [S40_L_0, h0, cond_true, cond_false]
     rw [loopF_inl e]
     refine ba [.d h0, .i v5 (a0.length), .L c63_len a0 v5 9 1, .i v5 (a0.length), .L c63_len a0 v5 0 9, .c [] (C61 (a0.getD (Int.toNat v5) default).1 a1), .c [] (C60 (F61 (a0.getD (Int.toNat v5) default).1 a1) a2  (by first | exact ner6 (vpL_get hv (by omega)) hx | exact far6 (vpL_get hv (by omega)) hx) (by omega)), .p (show ((flat c3 v3).length = v3.length * 1 ∧ v3.length + 1 ≤ 2 ^ 40 ∧ (v3.length + 1) * 8 ≤ 2 ^ 47) from app_ok c3_len (by omega) (by omega)), .i v5 (a0.length), .L c63_len a0 v5 9 1, .i v5 (a0.length), .L c63_len a0 v5 0 9, .c [] (C62 (a0.getD (Int.toNat v5) default).1 a1), .c [] (C60 (F62 (a0.getD (Int.toNat v5) default).1 a1) a2  (by first | exact ner6 (vpL_get hv (by omega)) hx | exact far6 (vpL_get hv (by omega)) hx) (by omega)), .p (show ((flat c3 v4).length = v4.length * 1 ∧ v4.length + 1 ≤ 2 ^ 40 ∧ (v4.length + 1) * 8 ≤ 2 ^ 47) from app_ok c3_len (by omega) (by omega))] [] [0, 2, 4, 8, 9, 10] [1, 5, 7] hcx (m := n) B40_L_0 (K40_L_0) (st40_L_0 a0 a1 a2 (flat c3 v3 ++ [(iv (W ((a0.getD (Int.toNat v5) default).2.1 + (F60 (F61 (a0.getD (Int.toNat v5) default).1 a1) a2))))]) (v3.length + 1) (flat c3 v4 ++ [(iv (W ((a0.getD (Int.toNat v5) default).2.1 + (F60 (F62 (a0.getD (Int.toNat v5) default).1 a1) a2))))]) (v4.length + 1) (W (v5 + 1))) (by kernel_rfl) ?_
     have z0 : (W (v5 + 1)) = (v5 + 1) := W_eq (by omega) (by omega)
     have z1 : (flat c3 v3 ++ [(iv (W ((a0.getD (Int.toNat v5) default).2.1 + (F60 (F61 (a0.getD (Int.toNat v5) default).1 a1) a2))))]) = (flat c3 (v3 ++ [(W ((a0.getD (Int.toNat v5) default).2.1 + (F60 (F61 (a0.getD (Int.toNat v5) default).1 a1) a2)))])) := (flat_append (c := c3) (l := v3) (m := [(W ((a0.getD (Int.toNat v5) default).2.1 + (F60 (F61 (a0.getD (Int.toNat v5) default).1 a1) a2)))])).symm
     have z2 : (v3.length + 1) = (v3 ++ [(W ((a0.getD (Int.toNat v5) default).2.1 + (F60 (F61 (a0.getD (Int.toNat v5) default).1 a1) a2)))]).length := len_app v3 [(W ((a0.getD (Int.toNat v5) default).2.1 + (F60 (F61 (a0.getD (Int.toNat v5) default).1 a1) a2)))] rfl
     have z3 : (flat c3 v4 ++ [(iv (W ((a0.getD (Int.toNat v5) default).2.1 + (F60 (F62 (a0.getD (Int.toNat v5) default).1 a1) a2))))]) = (flat c3 (v4 ++ [(W ((a0.getD (Int.toNat v5) default).2.1 + (F60 (F62 (a0.getD (Int.toNat v5) default).1 a1) a2)))])) := (flat_append (c := c3) (l := v4) (m := [(W ((a0.getD (Int.toNat v5) default).2.1 + (F60 (F62 (a0.getD (Int.toNat v5) default).1 a1) a2)))])).symm
     have z4 : (v4.length + 1) = (v4 ++ [(W ((a0.getD (Int.toNat v5) default).2.1 + (F60 (F62 (a0.getD (Int.toNat v5) default).1 a1) a2)))]).length := len_app v4 [(W ((a0.getD (Int.toNat v5) default).2.1 + (F60 (F62 (a0.getD (Int.toNat v5) default).1 a1) a2)))] rfl
     rw [z0, z1, z2, z3, z4]
     exact ih (v3 ++ [(W ((a0.getD (Int.toNat v5) default).2.1 + (F60 (F61 (a0.getD (Int.toNat v5) default).1 a1) a2)))]) (v4 ++ [(W ((a0.getD (Int.toNat v5) default).2.1 + (F60 (F62 (a0.getD (Int.toNat v5) default).1 a1) a2)))]) (v5 + 1) (by refine ⟨?_, ?_, ?_, ?_⟩ <;> (try simp only [List.length_append, List.length_cons, List.length_nil, Int.toNat_zero]) <;> first | omega | assumption | simp) (by (try simp only [List.length_append, List.length_cons, List.length_nil, Int.toNat_zero]); omega)
    | false =>
     have q0 := of_decide_eq_false h0
     have e := Eq.refl (S40_L_0 a0 a1 a2 (v3, v4, v5)); conv at e => rhs; simp only [S40_L_0, h0, cond_true, cond_false]
     rw [loopF_s, e]
     exact rt [.d h0] [] [2, 3] hcx (by kernel_rfl)

def F40_L (a0 : List (((Int × Int × Int) × (Int × Int × Int) × Int × Int × Int) × Int × Int)) (a1 : Int × Int × Int) (a2 : Int) : List (Int) × List (Int) :=
  (loopF (S40_L_0 a0 a1 a2) (Int.toNat (((a0.length : Nat) : Int) - 0) + 1) (([] : List (Int)), ([] : List (Int)), 0))

theorem C40_L (a0 : List (((Int × Int × Int) × (Int × Int × Int) × Int × Int × Int) × Int × Int)) (a1 : Int × Int × Int) (a2 : Int) (l0 : a0.length ≤ 9223372036854775807) (hv : vpL a0 = 0) (hx : bd 256 a1) (hs : 1 ≤ a2 ∧ a2 ≤ 16) : Con Tryz.prog 40 [(.s 0 0 a0.length 11), (.a (k3 a1)), (iv a2)] [(.live false true (flat c63 a0))] (.t [(.s 1 0 (F40_L a0 a1 a2).1.length 1), (.s 2 0 (F40_L a0 a1 a2).2.length 1)]) [(.live true true (flat c3 (F40_L a0 a1 a2).1)), (.live true true (flat c3 (F40_L a0 a1 a2).2))] := by
  refine con_s Tryz.func40 (by kernel_rfl) fun cx hcx => ?_
  try have hl16 := (vpL_ok hv).1
  have e := Eq.refl (F40_L a0 a1 a2); conv at e => rhs; simp only [F40_L]
  rw [e]
  refine en [] [.slot 8 1, .slot 9 1] [0, 2, 4, 8, 9, 10] [1, 2, 3] hcx B40_L_0 (K40_L_0) (st40_L_0 a0 a1 a2 (flat c3 ([] : List (Int))) 0 (flat c3 ([] : List (Int))) 0 0) (Int.toNat (((a0.length : Nat) : Int) - 0) + 1) (by kernel_rfl) ?_
  exact L40_L_0 a0 a1 a2 l0 hv hx hs hcx (Int.toNat (((a0.length : Nat) : Int) - 0) + 1) ([] : List (Int)) ([] : List (Int)) 0 (by refine ⟨?_, ?_, ?_, ?_⟩ <;> (try simp only [List.length_append, List.length_cons, List.length_nil, Int.toNat_zero]) <;> first | omega | assumption | simp) (by (try simp only [List.length_append, List.length_cons, List.length_nil, Int.toNat_zero]); omega)

end Go.Proofs.YtcnnmgooolnebaaGreat
