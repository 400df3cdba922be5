/-
  Parts of the proofs of the laws: the executor, what functions of the program compute, and that it is what the statements ask. No premise.
-/
import Derived.Test.YtnbpiejjeeomkaaGreatVPdn4
namespace Go.Proofs.YtnbpiejjeeomkaaGreat
open Go.Proofs Go.Aw Go.RowKit
set_option maxRecDepth 100000
set_option linter.unusedVariables false
set_option linter.unusedSimpArgs false

def c52 (x : List (Int × Int)) : List SV := [(.d (flat c36 x) x.length 2)]
theorem c52_len (x : List (Int × Int)) : (c52 x).length = 1 := rfl

noncomputable def B17_L_1 : Code := (loopAtD [1, 1, 1, 1, 0, 1, 0, 1, 1, 0, 1, 1, 0, 1] [0] (bodyOf Tryz.f17) []).1
noncomputable def K17_L_1 (m0 : Nat) : List K := (loopAtD [1, 1, 1, 1, 0, 1, 0, 1, 1, 0, 1, 1, 0, 1] [m0] (bodyOf Tryz.f17) []).2

def st17_L_1 (a0 : List (((Int × Int × Int) × (Int × Int × Int) × Int × Int × Int) × Int)) (a1 : Int) (v10c : List SV) (v10n : Nat) (v11c : List SV) (v11n : Nat) (v12 : Int) (v13 : Int) (v14 : Int) (v15 : Int) (v16 : Int) (v17 : Int) (v18 : Int) (v19 : Int) (v20 : Int) (v21 : Int) (v22 : Int) (v23 : Int) : LS := ⟨slN 58 [(0, (.s 0 0 a0.length 10)), (1, (iv a1)), (7, (.s 1 0 v10n 1)), (9, (.p 2 0)), (10, (.s 3 0 v11n 2)), (23, (.s 0 0 a0.length 10)), (24, (iv ((a0.length : Nat) : Int))), (25, (iv v12)), (29, (.s 0 0 a0.length 10)), (30, (iv ((a0.length : Nat) : Int))), (31, (iv v13))], [(.live false true (flat c85 a0)), (.live true true v10c), (.live true false [(iv v14), (iv v15), (iv v16), (iv v17), (iv v18), (iv v19), (iv v20), (iv v21), (iv v22), (iv v23)]), (.live true true v11c)]⟩

def S17_L_1 (a0 : List (((Int × Int × Int) × (Int × Int × Int) × Int × Int × Int) × Int)) (a1 : Int) : (List (List (Int × Int))) × (List (Int × Int)) × Int × Int × Int × Int × Int × Int × Int × Int × Int × Int × Int × Int → ((List (List (Int × Int))) × (List (Int × Int)) × Int × Int × Int × Int × Int × Int × Int × Int × Int × Int × Int × Int) ⊕ (((List (List (Int × Int))) × Int) ⊕ ((List (List (Int × Int))) × Int))
  | (v10, v11, v12, v13, v14, v15, v16, v17, v18, v19, v20, v21, v22, v23) =>
   (bif (decide ((v13 : Int) < ((a0.length : Nat) : Int))) then
    (bif (((F42 ((v14, v15, v16), (v17, v18, v19), (v20, v21, v22)) (a0.getD (Int.toNat v13) default).1 a1).2 : Int) != 0) then
     (.inr (.inr (([] : List (List (Int × Int))), (F42 ((v14, v15, v16), (v17, v18, v19), (v20, v21, v22)) (a0.getD (Int.toNat v13) default).1 a1).2)))
    else
     (.inl (v10, (v11 ++ [(F42 ((v14, v15, v16), (v17, v18, v19), (v20, v21, v22)) (a0.getD (Int.toNat v13) default).1 a1).1]), v12, (v13 + 1), v14, v15, v16, v17, v18, v19, v20, v21, v22, v23)))
   else
    (.inr (.inl ((v10 ++ [v11]), (v12 + 1)))))

noncomputable def B17_L_0 : Code := (loopAtD [1, 1, 1, 1, 0, 1] [] (bodyOf Tryz.f17) []).1
noncomputable def K17_L_0 : List K := (loopAtD [1, 1, 1, 1, 0, 1] [] (bodyOf Tryz.f17) []).2

def st17_L_0 (a0 : List (((Int × Int × Int) × (Int × Int × Int) × Int × Int × Int) × Int)) (a1 : Int) (v8c : List SV) (v8n : Nat) (v9 : Int) : LS := ⟨slN 58 [(0, (.s 0 0 a0.length 10)), (1, (iv a1)), (7, (.s 1 0 v8n 1)), (23, (.s 0 0 a0.length 10)), (24, (iv ((a0.length : Nat) : Int))), (25, (iv v9))], [(.live false true (flat c85 a0)), (.live true true v8c)]⟩

def S17_L_0 (a0 : List (((Int × Int × Int) × (Int × Int × Int) × Int × Int × Int) × Int)) (a1 : Int) : (List (List (Int × Int))) × Int → ((List (List (Int × Int))) × Int) ⊕ ((List (List (Int × Int))) × Int)
  | (v8, v9) =>
   (bif (decide ((v9 : Int) < ((a0.length : Nat) : Int))) then
    (loopF (S17_L_1 a0 a1) (Int.toNat (((a0.length : Nat) : Int) - 0) + 1) (v8, ([] : List (Int × Int)), v9, 0, (a0.getD (Int.toNat v9) default).1.1.1, (a0.getD (Int.toNat v9) default).1.1.2.1, (a0.getD (Int.toNat v9) default).1.1.2.2, (a0.getD (Int.toNat v9) default).1.2.1.1, (a0.getD (Int.toNat v9) default).1.2.1.2.1, (a0.getD (Int.toNat v9) default).1.2.1.2.2, (a0.getD (Int.toNat v9) default).1.2.2.1, (a0.getD (Int.toNat v9) default).1.2.2.2.1, (a0.getD (Int.toNat v9) default).1.2.2.2.2, (a0.getD (Int.toNat v9) default).2))
   else
    (.inr (v8, 0)))

set_option maxHeartbeats 4000000 in
theorem L17_L_1 (a0 : List (((Int × Int × Int) × (Int × Int × Int) × Int × Int × Int) × Int)) (a1 : Int) (l0 : a0.length ≤ 9223372036854775807) {cx : Cx} (hcx : cx.base = 1)
    (n0 : Nat) (g0 : ∀ (v8 : List (List (Int × Int))) (v9 : Int), (0 ≤ v9) ∧ (v8.length = Int.toNat v9) ∧ (v9 ≤ a0.length) ∧ (a0.length ≤ 96) → Int.toNat (((a0.length : Nat) : Int) - v9) < n0 → Aw.Good Tryz.prog none 9 (bodyPost Tryz.prog Tryz.f17 (RR cx (.t [(.s 1 0 (loopF (S17_L_0 a0 a1) n0 (v8, v9)).1.length 1), (iv (loopF (S17_L_0 a0 a1) n0 (v8, v9)).2)]) [(.live true true (flat c52 (loopF (S17_L_0 a0 a1) n0 (v8, v9)).1))] [])) cx [] (.l B17_L_0 n0 :: K17_L_0) (st17_L_0 a0 a1 (flat c52 v8) v8.length v9)) : ∀ (n : Nat) (v10 : List (List (Int × Int))) (v11 : List (Int × Int)) (v12 : Int) (v13 : Int) (v14 : Int) (v15 : Int) (v16 : Int) (v17 : Int) (v18 : Int) (v19 : Int) (v20 : Int) (v21 : Int) (v22 : Int) (v23 : Int), (0 ≤ v13) ∧ (v11.length = Int.toNat v13) ∧ (v13 ≤ a0.length) ∧ (v10.length = Int.toNat v12) ∧ (0 ≤ v12) ∧ (v12 < a0.length) ∧ (a0.length ≤ 96) ∧ ((0 ≤ v12)) ∧ ((v10.length = Int.toNat v12)) ∧ ((v12 ≤ a0.length)) ∧ ((a0.length ≤ 96)) ∧ (v12 < ((a0.length : Nat) : Int)) ∧ (Int.toNat (((a0.length : Nat) : Int) - v12) < n0 + 1) → Int.toNat (((a0.length : Nat) : Int) - v13) < n → Aw.Good Tryz.prog none 9 (bodyPost Tryz.prog Tryz.f17 (RR cx (.t [(.s 1 0 (thenF (S17_L_0 a0 a1) n0 (loopF (S17_L_1 a0 a1) n (v10, v11, v12, v13, v14, v15, v16, v17, v18, v19, v20, v21, v22, v23))).1.length 1), (iv (thenF (S17_L_0 a0 a1) n0 (loopF (S17_L_1 a0 a1) n (v10, v11, v12, v13, v14, v15, v16, v17, v18, v19, v20, v21, v22, v23))).2)]) [(.live true true (flat c52 (thenF (S17_L_0 a0 a1) n0 (loopF (S17_L_1 a0 a1) n (v10, v11, v12, v13, v14, v15, v16, v17, v18, v19, v20, v21, v22, v23))).1))] [])) cx [] (.l B17_L_1 n :: K17_L_1 n0) (st17_L_1 a0 a1 (flat c52 v10) v10.length (flat c36 v11) v11.length v12 v13 v14 v15 v16 v17 v18 v19 v20 v21 v22 v23) := by
  intro n
  induction n with
  | zero => intro v10 v11 v12 v13 v14 v15 v16 v17 v18 v19 v20 v21 v22 v23 hi hn; exact absurd hn (Nat.not_lt_zero _)
  | succ n ih =>
    intro v10 v11 v12 v13 v14 v15 v16 v17 v18 v19 v20 v21 v22 v23 hi hn
    refine good_round ?_
    cases h0 : (decide ((v13 : Int) < ((a0.length : Nat) : Int))) with
    | true =>
     have q0 := of_decide_eq_true h0
     let t1 : List (St Tryz.prog) := [.d h0, .i v13 (a0.length), .L c85_len a0 v13 0 10, .c [] (C42 ((v14, v15, v16), (v17, v18, v19), (v20, v21, v22)) (a0.getD (Int.toNat v13) default).1 a1)]
     cases h1 : (((F42 ((v14, v15, v16), (v17, v18, v19), (v20, v21, v22)) (a0.getD (Int.toNat v13) default).1 a1).2 : Int) != 0) with
     | true =>
      have q1 := bne_iff_ne.1 h1
      have e := Eq.refl (S17_L_1 a0 a1 (v10, v11, v12, v13, v14, v15, v16, v17, v18, v19, v20, v21, v22, v23)); conv at e => rhs; simp only [S17_L_1, h0, h1, cond_true, cond_false]
      rw [loopF_s, e]
      exact rt (t1 ++ [.d h1]) [.slot 4 1] [6] hcx (by kernel_rfl)
     | false =>
      have q1 := bne_eq_false_iff_eq.1 h1
      have e := Eq.refl (S17_L_1 a0 a1 (v10, v11, v12, v13, v14, v15, v16, v17, v18, v19, v20, v21, v22, v23)); conv at e => rhs; simp only [S17_L_1, h0, h1, cond_true, cond_false]
      rw [loopF_inl e]
      refine ba (t1 ++ [.d h1, .p (show ((flat c36 v11).length = v11.length * 2 ∧ v11.length + 1 ≤ 2 ^ 40 ∧ (v11.length + 1) * 16 ≤ 2 ^ 47) from app_ok c36_len (by omega) (by omega))]) [] [0, 1, 7, 9, 10, 23, 24, 25, 29, 30, 31] [1, 2, 7] hcx (m := n) B17_L_1 (K17_L_1 n0) (st17_L_1 a0 a1 (flat c52 v10) (v10.length) (flat c36 v11 ++ (k2 (F42 ((v14, v15, v16), (v17, v18, v19), (v20, v21, v22)) (a0.getD (Int.toNat v13) default).1 a1).1)) (v11.length + 1) v12 (W (v13 + 1)) v14 v15 v16 v17 v18 v19 v20 v21 v22 v23) (by kernel_rfl) ?_
      have z0 : (W (v13 + 1)) = (v13 + 1) := W_eq (by omega) (by omega)
      have z1 : (flat c36 v11 ++ (k2 (F42 ((v14, v15, v16), (v17, v18, v19), (v20, v21, v22)) (a0.getD (Int.toNat v13) default).1 a1).1)) = (flat c36 (v11 ++ [(F42 ((v14, v15, v16), (v17, v18, v19), (v20, v21, v22)) (a0.getD (Int.toNat v13) default).1 a1).1])) := (flat_append (c := c36) (l := v11) (m := [(F42 ((v14, v15, v16), (v17, v18, v19), (v20, v21, v22)) (a0.getD (Int.toNat v13) default).1 a1).1])).symm
      have z2 : (v11.length + 1) = (v11 ++ [(F42 ((v14, v15, v16), (v17, v18, v19), (v20, v21, v22)) (a0.getD (Int.toNat v13) default).1 a1).1]).length := len_app v11 [(F42 ((v14, v15, v16), (v17, v18, v19), (v20, v21, v22)) (a0.getD (Int.toNat v13) default).1 a1).1] rfl
      rw [z0, z1, z2]
      exact ih v10 (v11 ++ [(F42 ((v14, v15, v16), (v17, v18, v19), (v20, v21, v22)) (a0.getD (Int.toNat v13) default).1 a1).1]) v12 (v13 + 1) v14 v15 v16 v17 v18 v19 v20 v21 v22 v23 (by refine ⟨?_, ?_, ?_, ?_, ?_, ?_, ?_, ?_, ?_, ?_, ?_, ?_, ?_⟩ <;> (try simp only [List.length_append, List.length_cons, List.length_nil, Int.toNat_zero]) <;> first | omega | assumption | exact hi.2.1 | exact hi.2.2.1 | exact hi.2.2.2.1 | exact hi.2.2.2.2.1 | exact hi.2.2.2.2.2.1 | exact hi.2.2.2.2.2.2.1 | exact hi.2.2.2.2.2.2.2.1 | exact hi.2.2.2.2.2.2.2.2.1 | exact hi.2.2.2.2.2.2.2.2.2.1 | exact hi.2.2.2.2.2.2.2.2.2.2.1 | exact hi.2.2.2.2.2.2.2.2.2.2.2.1 | exact hi.2.2.2.2.2.2.2.2.2.2.2.2.1 | simp) (by (try simp only [List.length_append, List.length_cons, List.length_nil, Int.toNat_zero]); omega)
    | false =>
     have q0 := of_decide_eq_false h0
     have e := Eq.refl (S17_L_1 a0 a1 (v10, v11, v12, v13, v14, v15, v16, v17, v18, v19, v20, v21, v22, v23)); conv at e => rhs; simp only [S17_L_1, h0, cond_true, cond_false]
     rw [loopF_s, e]
     refine ba [.d h0, .p (show ((flat c36 v11)).length = v11.length * 2 from by simp [flat_lenc c36_len]), .p (show ((flat c52 v10).length = v10.length * 1 ∧ v10.length + 1 ≤ 2 ^ 40 ∧ (v10.length + 1) * 24 ≤ 2 ^ 47) from app_ok c52_len (by omega) (by omega))] [] [0, 1, 7, 23, 24, 25] [5] hcx (m := n0) B17_L_0 (K17_L_0) (st17_L_0 a0 a1 (flat c52 v10 ++ [(.d (flat c36 v11) v11.length 2)]) (v10.length + 1) (W (v12 + 1))) (by kernel_rfl) ?_
     have z0 : (W (v12 + 1)) = (v12 + 1) := W_eq (by omega) (by omega)
     have z1 : (flat c52 v10 ++ [(.d (flat c36 v11) v11.length 2)]) = (flat c52 (v10 ++ [v11])) := (flat_append (c := c52) (l := v10) (m := [v11])).symm
     have z2 : (v10.length + 1) = (v10 ++ [v11]).length := len_app v10 [v11] rfl
     rw [z0, z1, z2]
     exact g0 (v10 ++ [v11]) (v12 + 1) (by refine ⟨?_, ?_, ?_, ?_⟩ <;> (try simp only [List.length_append, List.length_cons, List.length_nil, Int.toNat_zero]) <;> first | omega | assumption | simp) (by (try simp only [List.length_append, List.length_cons, List.length_nil, Int.toNat_zero]); omega)

set_option maxHeartbeats 4000000 in
theorem L17_L_0 (a0 : List (((Int × Int × Int) × (Int × Int × Int) × Int × Int × Int) × Int)) (a1 : Int) (l0 : a0.length ≤ 9223372036854775807) {cx : Cx} (hcx : cx.base = 1) : ∀ (n : Nat) (v8 : List (List (Int × Int))) (v9 : Int), (0 ≤ v9) ∧ (v8.length = Int.toNat v9) ∧ (v9 ≤ a0.length) ∧ (a0.length ≤ 96) → Int.toNat (((a0.length : Nat) : Int) - v9) < n → Aw.Good Tryz.prog none 9 (bodyPost Tryz.prog Tryz.f17 (RR cx (.t [(.s 1 0 (loopF (S17_L_0 a0 a1) n (v8, v9)).1.length 1), (iv (loopF (S17_L_0 a0 a1) n (v8, v9)).2)]) [(.live true true (flat c52 (loopF (S17_L_0 a0 a1) n (v8, v9)).1))] [])) cx [] (.l B17_L_0 n :: K17_L_0) (st17_L_0 a0 a1 (flat c52 v8) v8.length v9) := by
  intro n
  induction n with
  | zero => intro v8 v9 hi hn; exact absurd hn (Nat.not_lt_zero _)
  | succ n ih =>
    intro v8 v9 hi hn
    refine good_round ?_
    cases h0 : (decide ((v9 : Int) < ((a0.length : Nat) : Int))) with
    | true =>
     have q0 := of_decide_eq_true h0
     have e := Eq.refl (S17_L_0 a0 a1 (v8, v9)); conv at e => rhs; simp only [S17_L_0, h0, cond_true, cond_false]
     rw [loopF_s, e]
     refine en [.d h0, .i v9 (a0.length), .L c85_len a0 v9 0 10] [.slot 10 2] [0, 1, 7, 9, 10, 23, 24, 25, 29, 30, 31] [1, 2, 3] hcx B17_L_1 (K17_L_1 n) (st17_L_1 a0 a1 (flat c52 v8) (v8.length) (flat c36 ([] : List (Int × Int))) 0 v9 0 ((a0.getD (Int.toNat v9) default).1.1.1) ((a0.getD (Int.toNat v9) default).1.1.2.1) ((a0.getD (Int.toNat v9) default).1.1.2.2) ((a0.getD (Int.toNat v9) default).1.2.1.1) ((a0.getD (Int.toNat v9) default).1.2.1.2.1) ((a0.getD (Int.toNat v9) default).1.2.1.2.2) ((a0.getD (Int.toNat v9) default).1.2.2.1) ((a0.getD (Int.toNat v9) default).1.2.2.2.1) ((a0.getD (Int.toNat v9) default).1.2.2.2.2) ((a0.getD (Int.toNat v9) default).2)) (Int.toNat (((a0.length : Nat) : Int) - 0) + 1) (by kernel_rfl) ?_
     exact L17_L_1 a0 a1 l0 hcx n ih (Int.toNat (((a0.length : Nat) : Int) - 0) + 1) v8 ([] : List (Int × Int)) v9 0 ((a0.getD (Int.toNat v9) default).1.1.1) ((a0.getD (Int.toNat v9) default).1.1.2.1) ((a0.getD (Int.toNat v9) default).1.1.2.2) ((a0.getD (Int.toNat v9) default).1.2.1.1) ((a0.getD (Int.toNat v9) default).1.2.1.2.1) ((a0.getD (Int.toNat v9) default).1.2.1.2.2) ((a0.getD (Int.toNat v9) default).1.2.2.1) ((a0.getD (Int.toNat v9) default).1.2.2.2.1) ((a0.getD (Int.toNat v9) default).1.2.2.2.2) ((a0.getD (Int.toNat v9) default).2) (by refine ⟨?_, ?_, ?_, ?_, ?_, ?_, ?_, ?_, ?_, ?_, ?_, ?_, ?_⟩ <;> (try simp only [List.length_append, List.length_cons, List.length_nil, Int.toNat_zero]) <;> first | omega | assumption | exact hi.2.1 | exact hi.2.2.1 | exact hi.2.2.2.1 | exact hi.2.2.2.2.1 | exact hi.2.2.2.2.2.1 | exact hi.2.2.2.2.2.2.1 | exact hi.2.2.2.2.2.2.2.1 | exact hi.2.2.2.2.2.2.2.2.1 | exact hi.2.2.2.2.2.2.2.2.2.1 | exact hi.2.2.2.2.2.2.2.2.2.2.1 | exact hi.2.2.2.2.2.2.2.2.2.2.2.1 | exact hi.2.2.2.2.2.2.2.2.2.2.2.2.1 | simp) (by (try simp only [List.length_append, List.length_cons, List.length_nil, Int.toNat_zero]); omega)
    | false =>
     have q0 := of_decide_eq_false h0
     have e := Eq.refl (S17_L_0 a0 a1 (v8, v9)); conv at e => rhs; simp only [S17_L_0, h0, cond_true, cond_false]
     rw [loopF_s, e]
     exact rt [.d h0] [] [1] hcx (by kernel_rfl)

def F17_L (a0 : List (((Int × Int × Int) × (Int × Int × Int) × Int × Int × Int) × Int)) (a1 : Int) : (List (List (Int × Int))) × Int :=
  (bif (((F41_L a0) : Int) != 0) then
   (([] : List (List (Int × Int))), (F41_L a0))
  else
   (bif (!(F36 a1 0 2)) then
    (([] : List (List (Int × Int))), 1)
   else
    (loopF (S17_L_0 a0 a1) (Int.toNat (((a0.length : Nat) : Int) - 0) + 1) (([] : List (List (Int × Int))), 0))))

theorem C17_L (a0 : List (((Int × Int × Int) × (Int × Int × Int) × Int × Int × Int) × Int)) (a1 : Int) (l0 : a0.length ≤ 9223372036854775807) : Con Tryz.prog 17 [(.s 0 0 a0.length 10), (iv a1)] [(.live false true (flat c85 a0))] (.t [(.s 1 0 (F17_L a0 a1).1.length 1), (iv (F17_L a0 a1).2)]) [(.live true true (flat c52 (F17_L a0 a1).1))] := by
  refine con_s Tryz.func17 (by kernel_rfl) fun cx hcx => ?_
  try have hvl := vch_len (l := a0) (bne_eq_false_iff_eq.1 h0)
  let t0 : List (St Tryz.prog) := [.c [0] (C41_L a0 (by (try simp only [List.length_append, List.length_cons, List.length_nil, Int.toNat_zero]); omega))]
  cases h0 : (((F41_L a0) : Int) != 0) with
  | true =>
   have q0 := bne_iff_ne.1 h0
   try have hvl := vch_len (l := a0) (bne_eq_false_iff_eq.1 h0)
   have e := Eq.refl (F17_L a0 a1); conv at e => rhs; simp only [F17_L, h0, cond_true, cond_false]
   rw [e]
   exact rt (t0 ++ [.d h0]) [.slot 4 1] [1] hcx (by kernel_rfl)
  | false =>
   have q0 := bne_eq_false_iff_eq.1 h0
   try have hvl := vch_len (l := a0) (bne_eq_false_iff_eq.1 h0)
   let t1 : List (St Tryz.prog) := (t0 ++ [.d h0, .c [] (C36 a1 0 2)])
   cases h1 : (!(F36 a1 0 2)) with
   | true =>
    try have hvl := vch_len (l := a0) (bne_eq_false_iff_eq.1 h0)
    have e := Eq.refl (F17_L a0 a1); conv at e => rhs; simp only [F17_L, h0, h1, cond_true, cond_false]
    rw [e]
    exact rt (t1 ++ [.d h1]) [.slot 4 1] [1] hcx (by kernel_rfl)
   | false =>
    try have hvl := vch_len (l := a0) (bne_eq_false_iff_eq.1 h0)
    have e := Eq.refl (F17_L a0 a1); conv at e => rhs; simp only [F17_L, h0, h1, cond_true, cond_false]
    rw [e]
    refine en (t1 ++ [.d h1]) [.slot 7 1] [0, 1, 7, 23, 24, 25] [1] hcx B17_L_0 (K17_L_0) (st17_L_0 a0 a1 (flat c52 ([] : List (List (Int × Int)))) 0 0) (Int.toNat (((a0.length : Nat) : Int) - 0) + 1) (by kernel_rfl) ?_
    exact L17_L_0 a0 a1 l0 hcx (Int.toNat (((a0.length : Nat) : Int) - 0) + 1) ([] : List (List (Int × Int))) 0 (by refine ⟨?_, ?_, ?_, ?_⟩ <;> (try simp only [List.length_append, List.length_cons, List.length_nil, Int.toNat_zero]) <;> first | omega | assumption | simp) (by (try simp only [List.length_append, List.length_cons, List.length_nil, Int.toNat_zero]); omega)

def F39 (a0 : Int) (a1 : Int) (a2 : Int) : Bool :=
  (bif (decide ((a0 : Int) ≥ a1)) then
   (decide ((a0 : Int) ≤ a2))
  else
   false)

theorem C39 (a0 : Int) (a1 : Int) (a2 : Int) : Con Tryz.prog 39 [(iv a0), (iv a1), (iv a2)] [] (.v (.bool (F39 a0 a1 a2))) [] := by
  refine con_s Tryz.func39 (by kernel_rfl) fun cx hcx => ?_
  cases h0 : (decide ((a0 : Int) ≥ a1)) with
  | true =>
   have q0 := of_decide_eq_true h0
   have e := Eq.refl (F39 a0 a1 a2); conv at e => rhs; simp only [F39, h0, cond_true, cond_false]
   rw [e]
   exact rt [.d h0] [] [] hcx (by kernel_rfl)
  | false =>
   have q0 := of_decide_eq_false h0
   have e := Eq.refl (F39 a0 a1 a2); conv at e => rhs; simp only [F39, h0, cond_true, cond_false]
   rw [e]
   exact rt [.d h0] [] [] hcx (by kernel_rfl)

noncomputable def B18_L_1 : Code := (loopAtD [1, 1, 1, 1, 1, 0, 1, 0, 1, 0, 1, 0, 1] [0] (bodyOf Tryz.f18) []).1
noncomputable def K18_L_1 (m0 : Nat) : List K := (loopAtD [1, 1, 1, 1, 1, 0, 1, 0, 1, 0, 1, 0, 1] [m0] (bodyOf Tryz.f18) []).2

def st18_L_1 (a0 : List (((Int × Int × Int) × (Int × Int × Int) × Int × Int × Int) × Int)) (a1 : Int) (v10c : List SV) (v10n : Nat) (v11c : List SV) (v11n : Nat) (v12 : Int) (v13 : Int) : LS := ⟨slN 60 [(0, (.s 0 0 a0.length 10)), (1, (iv a1)), (7, (.s 1 0 v10n 1)), (8, (iv v12)), (9, (.s 2 0 v11n 2)), (10, (iv v13))], [(.live false true (flat c85 a0)), (.live true true v10c), (.live true true v11c)]⟩

def S18_L_1 (a0 : List (((Int × Int × Int) × (Int × Int × Int) × Int × Int × Int) × Int)) (a1 : Int) : (List (List (Int × Int))) × (List (Int × Int)) × Int × Int → ((List (List (Int × Int))) × (List (Int × Int)) × Int × Int) ⊕ (((List (List (Int × Int))) × Int) ⊕ ((List (List (Int × Int))) × Int))
  | (v10, v11, v12, v13) =>
   (bif (decide ((v13 : Int) < ((a0.length : Nat) : Int))) then
    (bif (((F44 (a0.getD (Int.toNat v12) default).1 (a0.getD (Int.toNat v13) default).1 a1).2 : Int) != 0) then
     (.inr (.inr (([] : List (List (Int × Int))), (F44 (a0.getD (Int.toNat v12) default).1 (a0.getD (Int.toNat v13) default).1 a1).2)))
    else
     (.inl (v10, (v11 ++ [(F44 (a0.getD (Int.toNat v12) default).1 (a0.getD (Int.toNat v13) default).1 a1).1]), v12, (v13 + 1))))
   else
    (.inr (.inl ((v10 ++ [v11]), (v12 + 1)))))

noncomputable def B18_L_0 : Code := (loopAtD [1, 1, 1, 1, 1, 0, 1] [] (bodyOf Tryz.f18) []).1
noncomputable def K18_L_0 : List K := (loopAtD [1, 1, 1, 1, 1, 0, 1] [] (bodyOf Tryz.f18) []).2

def st18_L_0 (a0 : List (((Int × Int × Int) × (Int × Int × Int) × Int × Int × Int) × Int)) (a1 : Int) (v8c : List SV) (v8n : Nat) (v9 : Int) : LS := ⟨slN 60 [(0, (.s 0 0 a0.length 10)), (1, (iv a1)), (7, (.s 1 0 v8n 1)), (8, (iv v9))], [(.live false true (flat c85 a0)), (.live true true v8c)]⟩

def S18_L_0 (a0 : List (((Int × Int × Int) × (Int × Int × Int) × Int × Int × Int) × Int)) (a1 : Int) : (List (List (Int × Int))) × Int → ((List (List (Int × Int))) × Int) ⊕ ((List (List (Int × Int))) × Int)
  | (v8, v9) =>
   (bif (decide ((v9 : Int) < ((a0.length : Nat) : Int))) then
    (loopF (S18_L_1 a0 a1) (Int.toNat (((a0.length : Nat) : Int) - 0) + 1) (v8, ([] : List (Int × Int)), v9, 0))
   else
    (.inr (v8, 0)))

set_option maxHeartbeats 4000000 in
theorem L18_L_1 (a0 : List (((Int × Int × Int) × (Int × Int × Int) × Int × Int × Int) × Int)) (a1 : Int) (l0 : a0.length ≤ 9223372036854775807) {cx : Cx} (hcx : cx.base = 1)
    (n0 : Nat) (g0 : ∀ (v8 : List (List (Int × Int))) (v9 : Int), (0 ≤ v9) ∧ (v8.length = Int.toNat v9) ∧ (v9 ≤ a0.length) ∧ (a0.length ≤ 96) → Int.toNat (((a0.length : Nat) : Int) - v9) < n0 → Aw.Good Tryz.prog none 9 (bodyPost Tryz.prog Tryz.f18 (RR cx (.t [(.s 1 0 (loopF (S18_L_0 a0 a1) n0 (v8, v9)).1.length 1), (iv (loopF (S18_L_0 a0 a1) n0 (v8, v9)).2)]) [(.live true true (flat c52 (loopF (S18_L_0 a0 a1) n0 (v8, v9)).1))] [])) cx [] (.l B18_L_0 n0 :: K18_L_0) (st18_L_0 a0 a1 (flat c52 v8) v8.length v9)) : ∀ (n : Nat) (v10 : List (List (Int × Int))) (v11 : List (Int × Int)) (v12 : Int) (v13 : Int), (0 ≤ v13) ∧ (v11.length = Int.toNat v13) ∧ (v13 ≤ a0.length) ∧ (v10.length = Int.toNat v12) ∧ (0 ≤ v12) ∧ (v12 < a0.length) ∧ (a0.length ≤ 96) ∧ ((0 ≤ v12)) ∧ ((v10.length = Int.toNat v12)) ∧ ((v12 ≤ a0.length)) ∧ ((a0.length ≤ 96)) ∧ (v12 < ((a0.length : Nat) : Int)) ∧ (Int.toNat (((a0.length : Nat) : Int) - v12) < n0 + 1) → Int.toNat (((a0.length : Nat) : Int) - v13) < n → Aw.Good Tryz.prog none 9 (bodyPost Tryz.prog Tryz.f18 (RR cx (.t [(.s 1 0 (thenF (S18_L_0 a0 a1) n0 (loopF (S18_L_1 a0 a1) n (v10, v11, v12, v13))).1.length 1), (iv (thenF (S18_L_0 a0 a1) n0 (loopF (S18_L_1 a0 a1) n (v10, v11, v12, v13))).2)]) [(.live true true (flat c52 (thenF (S18_L_0 a0 a1) n0 (loopF (S18_L_1 a0 a1) n (v10, v11, v12, v13))).1))] [])) cx [] (.l B18_L_1 n :: K18_L_1 n0) (st18_L_1 a0 a1 (flat c52 v10) v10.length (flat c36 v11) v11.length v12 v13) := by
  intro n
  induction n with
  | zero => intro v10 v11 v12 v13 hi hn; exact absurd hn (Nat.not_lt_zero _)
  | succ n ih =>
    intro v10 v11 v12 v13 hi hn
    refine good_round ?_
    cases h0 : (decide ((v13 : Int) < ((a0.length : Nat) : Int))) with
    | true =>
     have q0 := of_decide_eq_true h0
     let t1 : List (St Tryz.prog) := [.d h0, .i v12 (a0.length), .L c85_len a0 v12 0 9, .i v13 (a0.length), .L c85_len a0 v13 0 9, .c [] (C44 (a0.getD (Int.toNat v12) default).1 (a0.getD (Int.toNat v13) default).1 a1)]
     cases h1 : (((F44 (a0.getD (Int.toNat v12) default).1 (a0.getD (Int.toNat v13) default).1 a1).2 : Int) != 0) with
     | true =>
      have q1 := bne_iff_ne.1 h1
      have e := Eq.refl (S18_L_1 a0 a1 (v10, v11, v12, v13)); conv at e => rhs; simp only [S18_L_1, h0, h1, cond_true, cond_false]
      rw [loopF_s, e]
      exact rt (t1 ++ [.d h1]) [.slot 4 1] [4] hcx (by kernel_rfl)
     | false =>
      have q1 := bne_eq_false_iff_eq.1 h1
      have e := Eq.refl (S18_L_1 a0 a1 (v10, v11, v12, v13)); conv at e => rhs; simp only [S18_L_1, h0, h1, cond_true, cond_false]
      rw [loopF_inl e]
      refine ba (t1 ++ [.d h1, .p (show ((flat c36 v11).length = v11.length * 2 ∧ v11.length + 1 ≤ 2 ^ 40 ∧ (v11.length + 1) * 16 ≤ 2 ^ 47) from app_ok c36_len (by omega) (by omega))]) [] [0, 1, 7, 8, 9, 10] [1, 5] hcx (m := n) B18_L_1 (K18_L_1 n0) (st18_L_1 a0 a1 (flat c52 v10) (v10.length) (flat c36 v11 ++ (k2 (F44 (a0.getD (Int.toNat v12) default).1 (a0.getD (Int.toNat v13) default).1 a1).1)) (v11.length + 1) v12 (W (v13 + 1))) (by kernel_rfl) ?_
      have z0 : (W (v13 + 1)) = (v13 + 1) := W_eq (by omega) (by omega)
      have z1 : (flat c36 v11 ++ (k2 (F44 (a0.getD (Int.toNat v12) default).1 (a0.getD (Int.toNat v13) default).1 a1).1)) = (flat c36 (v11 ++ [(F44 (a0.getD (Int.toNat v12) default).1 (a0.getD (Int.toNat v13) default).1 a1).1])) := (flat_append (c := c36) (l := v11) (m := [(F44 (a0.getD (Int.toNat v12) default).1 (a0.getD (Int.toNat v13) default).1 a1).1])).symm
      have z2 : (v11.length + 1) = (v11 ++ [(F44 (a0.getD (Int.toNat v12) default).1 (a0.getD (Int.toNat v13) default).1 a1).1]).length := len_app v11 [(F44 (a0.getD (Int.toNat v12) default).1 (a0.getD (Int.toNat v13) default).1 a1).1] rfl
      rw [z0, z1, z2]
      exact ih v10 (v11 ++ [(F44 (a0.getD (Int.toNat v12) default).1 (a0.getD (Int.toNat v13) default).1 a1).1]) v12 (v13 + 1) (by refine ⟨?_, ?_, ?_, ?_, ?_, ?_, ?_, ?_, ?_, ?_, ?_, ?_, ?_⟩ <;> (try simp only [List.length_append, List.length_cons, List.length_nil, Int.toNat_zero]) <;> first | omega | assumption | exact hi.2.1 | exact hi.2.2.1 | exact hi.2.2.2.1 | exact hi.2.2.2.2.1 | exact hi.2.2.2.2.2.1 | exact hi.2.2.2.2.2.2.1 | exact hi.2.2.2.2.2.2.2.1 | exact hi.2.2.2.2.2.2.2.2.1 | exact hi.2.2.2.2.2.2.2.2.2.1 | exact hi.2.2.2.2.2.2.2.2.2.2.1 | exact hi.2.2.2.2.2.2.2.2.2.2.2.1 | exact hi.2.2.2.2.2.2.2.2.2.2.2.2.1 | simp) (by (try simp only [List.length_append, List.length_cons, List.length_nil, Int.toNat_zero]); omega)
    | false =>
     have q0 := of_decide_eq_false h0
     have e := Eq.refl (S18_L_1 a0 a1 (v10, v11, v12, v13)); conv at e => rhs; simp only [S18_L_1, h0, cond_true, cond_false]
     rw [loopF_s, e]
     refine ba [.d h0, .p (show ((flat c36 v11)).length = v11.length * 2 from by simp [flat_lenc c36_len]), .p (show ((flat c52 v10).length = v10.length * 1 ∧ v10.length + 1 ≤ 2 ^ 40 ∧ (v10.length + 1) * 24 ≤ 2 ^ 47) from app_ok c52_len (by omega) (by omega))] [] [0, 1, 7, 8] [4] hcx (m := n0) B18_L_0 (K18_L_0) (st18_L_0 a0 a1 (flat c52 v10 ++ [(.d (flat c36 v11) v11.length 2)]) (v10.length + 1) (W (v12 + 1))) (by kernel_rfl) ?_
     have z0 : (W (v12 + 1)) = (v12 + 1) := W_eq (by omega) (by omega)
     have z1 : (flat c52 v10 ++ [(.d (flat c36 v11) v11.length 2)]) = (flat c52 (v10 ++ [v11])) := (flat_append (c := c52) (l := v10) (m := [v11])).symm
     have z2 : (v10.length + 1) = (v10 ++ [v11]).length := len_app v10 [v11] rfl
     rw [z0, z1, z2]
     exact g0 (v10 ++ [v11]) (v12 + 1) (by refine ⟨?_, ?_, ?_, ?_⟩ <;> (try simp only [List.length_append, List.length_cons, List.length_nil, Int.toNat_zero]) <;> first | omega | assumption | simp) (by (try simp only [List.length_append, List.length_cons, List.length_nil, Int.toNat_zero]); omega)

set_option maxHeartbeats 4000000 in
theorem L18_L_0 (a0 : List (((Int × Int × Int) × (Int × Int × Int) × Int × Int × Int) × Int)) (a1 : Int) (l0 : a0.length ≤ 9223372036854775807) {cx : Cx} (hcx : cx.base = 1) : ∀ (n : Nat) (v8 : List (List (Int × Int))) (v9 : Int), (0 ≤ v9) ∧ (v8.length = Int.toNat v9) ∧ (v9 ≤ a0.length) ∧ (a0.length ≤ 96) → Int.toNat (((a0.length : Nat) : Int) - v9) < n → Aw.Good Tryz.prog none 9 (bodyPost Tryz.prog Tryz.f18 (RR cx (.t [(.s 1 0 (loopF (S18_L_0 a0 a1) n (v8, v9)).1.length 1), (iv (loopF (S18_L_0 a0 a1) n (v8, v9)).2)]) [(.live true true (flat c52 (loopF (S18_L_0 a0 a1) n (v8, v9)).1))] [])) cx [] (.l B18_L_0 n :: K18_L_0) (st18_L_0 a0 a1 (flat c52 v8) v8.length v9) := by
  intro n
  induction n with
  | zero => intro v8 v9 hi hn; exact absurd hn (Nat.not_lt_zero _)
  | succ n ih =>
    intro v8 v9 hi hn
    refine good_round ?_
    cases h0 : (decide ((v9 : Int) < ((a0.length : Nat) : Int))) with
    | true =>
     have q0 := of_decide_eq_true h0
     have e := Eq.refl (S18_L_0 a0 a1 (v8, v9)); conv at e => rhs; simp only [S18_L_0, h0, cond_true, cond_false]
     rw [loopF_s, e]
     refine en [.d h0] [.slot 9 2] [0, 1, 7, 8, 9, 10] [1, 2] hcx B18_L_1 (K18_L_1 n) (st18_L_1 a0 a1 (flat c52 v8) (v8.length) (flat c36 ([] : List (Int × Int))) 0 v9 0) (Int.toNat (((a0.length : Nat) : Int) - 0) + 1) (by kernel_rfl) ?_
     exact L18_L_1 a0 a1 l0 hcx n ih (Int.toNat (((a0.length : Nat) : Int) - 0) + 1) v8 ([] : List (Int × Int)) v9 0 (by refine ⟨?_, ?_, ?_, ?_, ?_, ?_, ?_, ?_, ?_, ?_, ?_, ?_, ?_⟩ <;> (try simp only [List.length_append, List.length_cons, List.length_nil, Int.toNat_zero]) <;> first | omega | assumption | exact hi.2.1 | exact hi.2.2.1 | exact hi.2.2.2.1 | exact hi.2.2.2.2.1 | exact hi.2.2.2.2.2.1 | exact hi.2.2.2.2.2.2.1 | exact hi.2.2.2.2.2.2.2.1 | exact hi.2.2.2.2.2.2.2.2.1 | exact hi.2.2.2.2.2.2.2.2.2.1 | exact hi.2.2.2.2.2.2.2.2.2.2.1 | exact hi.2.2.2.2.2.2.2.2.2.2.2.1 | exact hi.2.2.2.2.2.2.2.2.2.2.2.2.1 | simp) (by (try simp only [List.length_append, List.length_cons, List.length_nil, Int.toNat_zero]); omega)
    | false =>
     have q0 := of_decide_eq_false h0
     have e := Eq.refl (S18_L_0 a0 a1 (v8, v9)); conv at e => rhs; simp only [S18_L_0, h0, cond_true, cond_false]
     rw [loopF_s, e]
     exact rt [.d h0] [] [1] hcx (by kernel_rfl)

def F18_L (a0 : List (((Int × Int × Int) × (Int × Int × Int) × Int × Int × Int) × Int)) (a1 : Int) : (List (List (Int × Int))) × Int :=
  (bif (((F43_L a0) : Int) != 0) then
   (([] : List (List (Int × Int))), (F43_L a0))
  else
   (bif (!(F39 a1 0 2)) then
    (([] : List (List (Int × Int))), 1)
   else
    (loopF (S18_L_0 a0 a1) (Int.toNat (((a0.length : Nat) : Int) - 0) + 1) (([] : List (List (Int × Int))), 0))))

theorem C18_L (a0 : List (((Int × Int × Int) × (Int × Int × Int) × Int × Int × Int) × Int)) (a1 : Int) (l0 : a0.length ≤ 9223372036854775807) : Con Tryz.prog 18 [(.s 0 0 a0.length 10), (iv a1)] [(.live false true (flat c85 a0))] (.t [(.s 1 0 (F18_L a0 a1).1.length 1), (iv (F18_L a0 a1).2)]) [(.live true true (flat c52 (F18_L a0 a1).1))] := by
  refine con_s Tryz.func18 (by kernel_rfl) fun cx hcx => ?_
  try have hvl := vch_lenr (l := a0) (bne_eq_false_iff_eq.1 h0)
  let t0 : List (St Tryz.prog) := [.c [0] (C43_L a0 (by (try simp only [List.length_append, List.length_cons, List.length_nil, Int.toNat_zero]); omega))]
  cases h0 : (((F43_L a0) : Int) != 0) with
  | true =>
   have q0 := bne_iff_ne.1 h0
   try have hvl := vch_lenr (l := a0) (bne_eq_false_iff_eq.1 h0)
   have e := Eq.refl (F18_L a0 a1); conv at e => rhs; simp only [F18_L, h0, cond_true, cond_false]
   rw [e]
   exact rt (t0 ++ [.d h0]) [.slot 4 1] [1] hcx (by kernel_rfl)
  | false =>
   have q0 := bne_eq_false_iff_eq.1 h0
   try have hvl := vch_lenr (l := a0) (bne_eq_false_iff_eq.1 h0)
   let t1 : List (St Tryz.prog) := (t0 ++ [.d h0, .c [] (C39 a1 0 2)])
   cases h1 : (!(F39 a1 0 2)) with
   | true =>
    try have hvl := vch_lenr (l := a0) (bne_eq_false_iff_eq.1 h0)
    have e := Eq.refl (F18_L a0 a1); conv at e => rhs; simp only [F18_L, h0, h1, cond_true, cond_false]
    rw [e]
    exact rt (t1 ++ [.d h1]) [.slot 4 1] [1] hcx (by kernel_rfl)
   | false =>
    try have hvl := vch_lenr (l := a0) (bne_eq_false_iff_eq.1 h0)
    have e := Eq.refl (F18_L a0 a1); conv at e => rhs; simp only [F18_L, h0, h1, cond_true, cond_false]
    rw [e]
    refine en (t1 ++ [.d h1]) [.slot 7 1] [0, 1, 7, 8] [1] hcx B18_L_0 (K18_L_0) (st18_L_0 a0 a1 (flat c52 ([] : List (List (Int × Int)))) 0 0) (Int.toNat (((a0.length : Nat) : Int) - 0) + 1) (by kernel_rfl) ?_
    exact L18_L_0 a0 a1 l0 hcx (Int.toNat (((a0.length : Nat) : Int) - 0) + 1) ([] : List (List (Int × Int))) 0 (by refine ⟨?_, ?_, ?_, ?_⟩ <;> (try simp only [List.length_append, List.length_cons, List.length_nil, Int.toNat_zero]) <;> first | omega | assumption | simp) (by (try simp only [List.length_append, List.length_cons, List.length_nil, Int.toNat_zero]); omega)

noncomputable def B22_L_L_0 : Code := (loopAtD [1, 1, 0, 1] [] (bodyOf Tryz.f22) []).1
noncomputable def K22_L_L_0 : List K := (loopAtD [1, 1, 0, 1] [] (bodyOf Tryz.f22) []).2

def st22_L_L_0 (a0 : List (Int × Int)) (a1 : List (Int × Int)) (v1 : Int) : LS := ⟨slN 26 [(0, (.s 0 0 a0.length 2)), (1, (.s 1 0 a1.length 2)), (5, (iv v1))], [(.live false true (flat c36 a0)), (.live false true (flat c36 a1))]⟩

def S22_L_L_0 (a0 : List (Int × Int)) (a1 : List (Int × Int)) : Int → (Int) ⊕ (Bool)
  | v1 =>
   (bif (decide ((v1 : Int) < ((a0.length : Nat) : Int))) then
    (bif (!((((a0.getD (Int.toNat v1) default).1 : Int) == (a1.getD (Int.toNat v1) default).1) && ((((a0.getD (Int.toNat v1) default).2 : Int) == (a1.getD (Int.toNat v1) default).2) && true))) then
     (.inr false)
    else
     (.inl (v1 + 1)))
   else
    (.inr true))

set_option maxHeartbeats 4000000 in
theorem L22_L_L_0 (a0 : List (Int × Int)) (a1 : List (Int × Int)) (l0 : a0.length ≤ 9223372036854775807) (l1 : a1.length ≤ 9223372036854775807) {cx : Cx} (hcx : cx.base = 2) : ∀ (n : Nat) (v1 : Int), (0 ≤ v1) ∧ (a0.length = a1.length) → Int.toNat (((a0.length : Nat) : Int) - v1) < n → Aw.Good Tryz.prog none 9 (bodyPost Tryz.prog Tryz.f22 (RR cx (.v (.bool (loopF (S22_L_L_0 a0 a1) n v1))) [] [])) cx [] (.l B22_L_L_0 n :: K22_L_L_0) (st22_L_L_0 a0 a1 v1) := by
  intro n
  induction n with
  | zero => intro v1 hi hn; exact absurd hn (Nat.not_lt_zero _)
  | succ n ih =>
    intro v1 hi hn
    refine good_round ?_
    cases h0 : (decide ((v1 : Int) < ((a0.length : Nat) : Int))) with
    | true =>
     have q0 := of_decide_eq_true h0
     let t1 : List (St Tryz.prog) := [.d h0, .i v1 (a0.length), .L c36_len a0 v1 0 2, .i v1 (a1.length), .L c36_len a1 v1 0 2]
     cases h1 : (!((((a0.getD (Int.toNat v1) default).1 : Int) == (a1.getD (Int.toNat v1) default).1) && ((((a0.getD (Int.toNat v1) default).2 : Int) == (a1.getD (Int.toNat v1) default).2) && true))) with
     | true =>
      have e := Eq.refl (S22_L_L_0 a0 a1 v1); conv at e => rhs; simp only [S22_L_L_0, h0, h1, cond_true, cond_false]
      rw [loopF_s, e]
      exact rt (t1 ++ [.d h1]) [] [] hcx (by kernel_rfl)
     | false =>
      have e := Eq.refl (S22_L_L_0 a0 a1 v1); conv at e => rhs; simp only [S22_L_L_0, h0, h1, cond_true, cond_false]
      rw [loopF_inl e]
      refine ba (t1 ++ [.d h1]) [] [0, 1, 5] [] hcx (m := n) B22_L_L_0 (K22_L_L_0) (st22_L_L_0 a0 a1 (W (v1 + 1))) (by kernel_rfl) ?_
      have z0 : (W (v1 + 1)) = (v1 + 1) := W_eq (by omega) (by omega)
      rw [z0]
      exact ih (v1 + 1) (by refine ⟨?_, ?_⟩ <;> (try simp only [List.length_append, List.length_cons, List.length_nil, Int.toNat_zero]) <;> first | omega | assumption | simp) (by (try simp only [List.length_append, List.length_cons, List.length_nil, Int.toNat_zero]); omega)
    | false =>
     have q0 := of_decide_eq_false h0
     have e := Eq.refl (S22_L_L_0 a0 a1 v1); conv at e => rhs; simp only [S22_L_L_0, h0, cond_true, cond_false]
     rw [loopF_s, e]
     exact rt [.d h0] [] [] hcx (by kernel_rfl)

def F22_L_L (a0 : List (Int × Int)) (a1 : List (Int × Int)) : Bool :=
  (bif ((((a0.length : Nat) : Int) : Int) != ((a1.length : Nat) : Int)) then
   false
  else
   (loopF (S22_L_L_0 a0 a1) (Int.toNat (((a0.length : Nat) : Int) - 0) + 1) 0))

theorem C22_L_L (a0 : List (Int × Int)) (a1 : List (Int × Int)) (l0 : a0.length ≤ 9223372036854775807) (l1 : a1.length ≤ 9223372036854775807) : Con Tryz.prog 22 [(.s 0 0 a0.length 2), (.s 1 0 a1.length 2)] [(.live false true (flat c36 a0)), (.live false true (flat c36 a1))] (.v (.bool (F22_L_L a0 a1))) [] := by
  refine con_s Tryz.func22 (by kernel_rfl) fun cx hcx => ?_
  cases h0 : ((((a0.length : Nat) : Int) : Int) != ((a1.length : Nat) : Int)) with
  | true =>
   have q0 := bne_iff_ne.1 h0
   have e := Eq.refl (F22_L_L a0 a1); conv at e => rhs; simp only [F22_L_L, h0, cond_true, cond_false]
   rw [e]
   exact rt [.d h0] [] [] hcx (by kernel_rfl)
  | false =>
   have q0 := bne_eq_false_iff_eq.1 h0
   have e := Eq.refl (F22_L_L a0 a1); conv at e => rhs; simp only [F22_L_L, h0, cond_true, cond_false]
   rw [e]
   refine en [.d h0] [] [0, 1, 5] [] hcx B22_L_L_0 (K22_L_L_0) (st22_L_L_0 a0 a1 0) (Int.toNat (((a0.length : Nat) : Int) - 0) + 1) (by kernel_rfl) ?_
   exact L22_L_L_0 a0 a1 l0 l1 hcx (Int.toNat (((a0.length : Nat) : Int) - 0) + 1) 0 (by refine ⟨?_, ?_⟩ <;> (try simp only [List.length_append, List.length_cons, List.length_nil, Int.toNat_zero]) <;> first | omega | assumption | simp) (by (try simp only [List.length_append, List.length_cons, List.length_nil, Int.toNat_zero]); omega)

/-! ### The dense operator -/
theorem rows_at {l : List (List (Int × Int))} (h : ∀ r ∈ l, r.length ≤ 1048576) (i : Nat) : (l.getD i default).length ≤ 1048576 := by
  by_cases hi : i < l.length
  · rw [List.getD_eq_getElem?_getD, List.getElem?_eq_getElem hi, Option.getD_some]; exact h _ (List.getElem_mem hi)
  · rw [List.getD_eq_getElem?_getD, List.getElem?_eq_none (by omega)]; exact Nat.zero_le _
theorem w5e (n lo hi : Int) : F36 n lo hi = F39 n lo hi := by
  unfold F36 F39
  by_cases h1 : lo ≤ n <;> by_cases h2 : n ≤ hi <;> simp [h1, h2]
theorem dn_in (l : List (PN × Int)) (d : Int) : ∀ (n : Nat) (out : List (List (Int × Int))) (row : List (Int × Int)) (i j : Int),
    loopF (S17_L_1 l d) n (out, row, i, j, (l.getD (Int.toNat i) default).1.1.1, (l.getD (Int.toNat i) default).1.1.2.1, (l.getD (Int.toNat i) default).1.1.2.2, (l.getD (Int.toNat i) default).1.2.1.1, (l.getD (Int.toNat i) default).1.2.1.2.1, (l.getD (Int.toNat i) default).1.2.1.2.2, (l.getD (Int.toNat i) default).1.2.2.1, (l.getD (Int.toNat i) default).1.2.2.2.1, (l.getD (Int.toNat i) default).1.2.2.2.2, (l.getD (Int.toNat i) default).2) = loopF (S18_L_1 l d) n (out, row, i, j)
  | 0, out, row, i, j => rfl
  | n + 1, out, row, i, j => by
    have ih := dn_in l d n
    by_cases h : j < ((l.length : Nat) : Int)
    · by_cases he : (F44 (l.getD (Int.toNat i) default).1 (l.getD (Int.toNat j) default).1 d).2 = 0
      · have e2 : S18_L_1 l d (out, row, i, j) = .inl (out, row ++ [(F44 (l.getD (Int.toNat i) default).1 (l.getD (Int.toNat j) default).1 d).1], i, j + 1) := by
          simp only [S18_L_1]
          rw [decide_eq_true h, cond_true, he]; rfl
        have e1 : S17_L_1 l d (out, row, i, j, (l.getD (Int.toNat i) default).1.1.1, (l.getD (Int.toNat i) default).1.1.2.1, (l.getD (Int.toNat i) default).1.1.2.2, (l.getD (Int.toNat i) default).1.2.1.1, (l.getD (Int.toNat i) default).1.2.1.2.1, (l.getD (Int.toNat i) default).1.2.1.2.2, (l.getD (Int.toNat i) default).1.2.2.1, (l.getD (Int.toNat i) default).1.2.2.2.1, (l.getD (Int.toNat i) default).1.2.2.2.2, (l.getD (Int.toNat i) default).2) = .inl (out, row ++ [(F44 (l.getD (Int.toNat i) default).1 (l.getD (Int.toNat j) default).1 d).1], i, j + 1, (l.getD (Int.toNat i) default).1.1.1, (l.getD (Int.toNat i) default).1.1.2.1, (l.getD (Int.toNat i) default).1.1.2.2, (l.getD (Int.toNat i) default).1.2.1.1, (l.getD (Int.toNat i) default).1.2.1.2.1, (l.getD (Int.toNat i) default).1.2.1.2.2, (l.getD (Int.toNat i) default).1.2.2.1, (l.getD (Int.toNat i) default).1.2.2.2.1, (l.getD (Int.toNat i) default).1.2.2.2.2, (l.getD (Int.toNat i) default).2) := by
          simp only [S17_L_1, Between_eq]
          rw [decide_eq_true h, cond_true, he]; rfl
        rw [loopF_inl e1, loopF_inl e2]; exact ih _ _ _ _
      · have e2 : S18_L_1 l d (out, row, i, j) = .inr (.inr ([], (F44 (l.getD (Int.toNat i) default).1 (l.getD (Int.toNat j) default).1 d).2)) := by
          simp only [S18_L_1]
          rw [decide_eq_true h, cond_true, bne_iff_ne.2 he, cond_true]
        have e1 : S17_L_1 l d (out, row, i, j, (l.getD (Int.toNat i) default).1.1.1, (l.getD (Int.toNat i) default).1.1.2.1, (l.getD (Int.toNat i) default).1.1.2.2, (l.getD (Int.toNat i) default).1.2.1.1, (l.getD (Int.toNat i) default).1.2.1.2.1, (l.getD (Int.toNat i) default).1.2.1.2.2, (l.getD (Int.toNat i) default).1.2.2.1, (l.getD (Int.toNat i) default).1.2.2.2.1, (l.getD (Int.toNat i) default).1.2.2.2.2, (l.getD (Int.toNat i) default).2) = .inr (.inr ([], (F44 (l.getD (Int.toNat i) default).1 (l.getD (Int.toNat j) default).1 d).2)) := by
          simp only [S17_L_1, Between_eq]
          rw [decide_eq_true h, cond_true]
          rw [show ((F44 (((l.getD (Int.toNat i) default).1.1.1, (l.getD (Int.toNat i) default).1.1.2.1, (l.getD (Int.toNat i) default).1.1.2.2), ((l.getD (Int.toNat i) default).1.2.1.1, (l.getD (Int.toNat i) default).1.2.1.2.1, (l.getD (Int.toNat i) default).1.2.1.2.2), ((l.getD (Int.toNat i) default).1.2.2.1, (l.getD (Int.toNat i) default).1.2.2.2.1, (l.getD (Int.toNat i) default).1.2.2.2.2)) (l.getD (Int.toNat j) default).1 d).2 != 0) = true from bne_iff_ne.2 he, cond_true]
        rw [loopF_inr e1, loopF_inr e2]
    · have e2 : S18_L_1 l d (out, row, i, j) = .inr (.inl (out ++ [row], i + 1)) := by
        simp only [S18_L_1]
        rw [decide_eq_false h, cond_false]
      rw [loopF_inr e2]
      refine loopF_inr ?_
      simp only [S17_L_1]
      rw [decide_eq_false h, cond_false]
theorem Dense_eq (l : List (PN × Int)) (d : Int) : F17_L l d = F18_L l d := by
  have e : S17_L_0 l d = S18_L_0 l d := by
    funext ⟨out, i⟩
    simp only [S17_L_0, S18_L_0]
    rw [dn_in]
  unfold F17_L F18_L
  rw [e, vch_eq, w5e]
section
variable {l : List (PN × Int)} {d : Int}
theorem rows_in : ∀ (n : Nat) (out : List (List (Int × Int))) (row : List (Int × Int)) (i j : Int), (∀ r ∈ out, r.length ≤ l.length) → 0 ≤ j → row.length ≤ j.toNat → j ≤ l.length →
    match loopF (S18_L_1 l d) n (out, row, i, j) with
    | .inl (o, _) => ∀ r ∈ o, r.length ≤ l.length
    | .inr (o, _) => ∀ r ∈ o, r.length ≤ l.length
  | 0, out, row, i, j, _, _, _, _ => by
    show ∀ r ∈ ([] : List (List (Int × Int))), r.length ≤ l.length
    intro r hr; simp at hr
  | n + 1, out, row, i, j, ho, hj, hr, hl => by
    by_cases h : j < ((l.length : Nat) : Int)
    · by_cases he : (F44 (l.getD (Int.toNat i) default).1 (l.getD (Int.toNat j) default).1 d).2 = 0
      · have e2 : S18_L_1 l d (out, row, i, j) = .inl (out, row ++ [(F44 (l.getD (Int.toNat i) default).1 (l.getD (Int.toNat j) default).1 d).1], i, j + 1) := by
          simp only [S18_L_1]
          rw [decide_eq_true h, cond_true, he]; rfl
        rw [loopF_inl e2]
        exact rows_in n out _ i (j + 1) ho (by omega) (by simp only [List.length_append, List.length_cons, List.length_nil]; omega) (by omega)
      · have e2 : S18_L_1 l d (out, row, i, j) = .inr (.inr ([], (F44 (l.getD (Int.toNat i) default).1 (l.getD (Int.toNat j) default).1 d).2)) := by
          simp only [S18_L_1]
          rw [decide_eq_true h, cond_true, bne_iff_ne.2 he, cond_true]
        rw [loopF_inr e2]
        intro r hr; simp at hr
    · have e2 : S18_L_1 l d (out, row, i, j) = .inr (.inl (out ++ [row], i + 1)) := by
        simp only [S18_L_1]
        rw [decide_eq_false h, cond_false]
      rw [loopF_inr e2]
      intro r hr2
      rcases List.mem_append.1 hr2 with hr2 | hr2
      · exact ho r hr2
      · rw [List.mem_singleton.1 hr2]; omega
theorem rows_out : ∀ (n : Nat) (out : List (List (Int × Int))) (i : Int), (∀ r ∈ out, r.length ≤ l.length) → ∀ r ∈ (loopF (S18_L_0 l d) n (out, i)).1, r.length ≤ l.length
  | 0, out, i, _ => by
    show ∀ r ∈ ([] : List (List (Int × Int))), r.length ≤ l.length
    intro r hr; simp at hr
  | n + 1, out, i, ho => by
    by_cases h : i < ((l.length : Nat) : Int)
    · have hin := rows_in (l := l) (d := d) (Int.toNat (((l.length : Nat) : Int) - 0) + 1) out [] i 0 ho (by omega) (by simp) (by omega)
      have e : S18_L_0 l d (out, i) = loopF (S18_L_1 l d) (Int.toNat (((l.length : Nat) : Int) - 0) + 1) (out, [], i, 0) := by
        simp only [S18_L_0]; rw [decide_eq_true h, cond_true]
      cases q : loopF (S18_L_1 l d) (Int.toNat (((l.length : Nat) : Int) - 0) + 1) (out, [], i, 0) with
      | inl u => obtain ⟨u1, u2⟩ := u; rw [q] at hin; rw [loopF_inl (e.trans q)]; exact rows_out n u1 u2 hin
      | inr u => obtain ⟨u1, u2⟩ := u; rw [q] at hin; rw [loopF_inr (e.trans q)]; exact hin
    · have e : S18_L_0 l d (out, i) = .inr (out, 0) := by
        simp only [S18_L_0]; rw [decide_eq_false h, cond_false]
      rw [loopF_inr e]; exact ho
end
theorem dnr_rows (l : List (PN × Int)) (d : Int) : ∀ r ∈ (F18_L l d).1, r.length ≤ 1048576 := by
  unfold F18_L
  by_cases h : F43_L l = 0
  · have hl := vch_lenr h
    rw [h]
    simp only [bne_self_eq_false, cond_false]
    cases (!(F39 d 0 2)) with
    | true => intro r hr; simp at hr
    | false =>
      intro r hr
      have := rows_out (l := l) (d := d) _ _ _ (fun r hr => by simp at hr) r hr
      omega
  · rw [bne_iff_ne.2 h]; intro r hr; simp at hr
theorem dn_rows (l : List (PN × Int)) (d : Int) : ∀ r ∈ (F17_L l d).1, r.length ≤ 1048576 := by rw [Dense_eq]; exact dnr_rows l d
theorem all_loop {S : Int → Int ⊕ Bool} {N : Nat} (h1 : ∀ i : Nat, i < N → S (i : Int) = .inl ((i + 1 : Nat) : Int)) (h2 : S (N : Int) = .inr true) : ∀ (d i n : Nat), d = N - i → i ≤ N → d < n → loopF S n (i : Int) = true
  | 0, i, n, hd, hi, hn => by
    obtain ⟨n, rfl⟩ : ∃ m, n = m + 1 := ⟨n - 1, by omega⟩
    have : i = N := by omega
    subst this
    exact loopF_inr h2
  | d + 1, i, n, hd, hi, hn => by
    obtain ⟨n, rfl⟩ : ∃ m, n = m + 1 := ⟨n - 1, by omega⟩
    rw [loopF_inl (h1 i (by omega))]
    exact all_loop h1 h2 d (i + 1) n (by omega) (by omega) (by omega)
theorem spans_refl (l : List (Int × Int)) : F22_L_L l l = true := by
  unfold F22_L_L
  rw [show ((((l.length : Nat) : Int) : Int) != ((l.length : Nat) : Int)) = false by simp, cond_false]
  refine all_loop (N := l.length) (fun i hi => ?_) ?_ l.length 0 _ (by omega) (by omega) (by omega)
  · simp only [S22_L_L_0]
    rw [decide_eq_true (show ((i : Nat) : Int) < (l.length : Nat) by omega), cond_true]
    simp
  · simp only [S22_L_L_0]
    rw [decide_eq_false (Int.lt_irrefl _), cond_false]
section
variable {l : List (PN × Int)} {d : Int}
theorem len_in : ∀ (n : Nat) (out : List (List (Int × Int))) (row : List (Int × Int)) (i j : Int), Int.toNat (((l.length : Nat) : Int) - j) < n →
    match loopF (S18_L_1 l d) n (out, row, i, j) with
    | .inl (o, i2) => o.length = out.length + 1 ∧ i2 = i + 1
    | .inr (o, _) => o = []
  | 0, out, row, i, j, hn => absurd hn (Nat.not_lt_zero _)
  | n + 1, out, row, i, j, hn => by
    by_cases h : j < ((l.length : Nat) : Int)
    · by_cases he : (F44 (l.getD (Int.toNat i) default).1 (l.getD (Int.toNat j) default).1 d).2 = 0
      · have e2 : S18_L_1 l d (out, row, i, j) = .inl (out, row ++ [(F44 (l.getD (Int.toNat i) default).1 (l.getD (Int.toNat j) default).1 d).1], i, j + 1) := by
          simp only [S18_L_1]
          rw [decide_eq_true h, cond_true, he]; rfl
        rw [loopF_inl e2]
        exact len_in n out _ i (j + 1) (by omega)
      · have e2 : S18_L_1 l d (out, row, i, j) = .inr (.inr ([], (F44 (l.getD (Int.toNat i) default).1 (l.getD (Int.toNat j) default).1 d).2)) := by
          simp only [S18_L_1]
          rw [decide_eq_true h, cond_true, bne_iff_ne.2 he, cond_true]
        rw [loopF_inr e2]
    · have e2 : S18_L_1 l d (out, row, i, j) = .inr (.inl (out ++ [row], i + 1)) := by
        simp only [S18_L_1]
        rw [decide_eq_false h, cond_false]
      rw [loopF_inr e2]
      exact ⟨by simp, rfl⟩
theorem len_out : ∀ (n : Nat) (out : List (List (Int × Int))) (i : Int), 0 ≤ i → out.length ≤ i.toNat → i ≤ l.length → (loopF (S18_L_0 l d) n (out, i)).1.length ≤ l.length
  | 0, out, i, _, _, _ => Nat.zero_le _
  | n + 1, out, i, h0, ho, hl => by
    by_cases h : i < ((l.length : Nat) : Int)
    · have hin := len_in (l := l) (d := d) (Int.toNat (((l.length : Nat) : Int) - 0) + 1) out [] i 0 (by omega)
      have e : S18_L_0 l d (out, i) = loopF (S18_L_1 l d) (Int.toNat (((l.length : Nat) : Int) - 0) + 1) (out, [], i, 0) := by
        simp only [S18_L_0]; rw [decide_eq_true h, cond_true]
      cases q : loopF (S18_L_1 l d) (Int.toNat (((l.length : Nat) : Int) - 0) + 1) (out, [], i, 0) with
      | inl u =>
        obtain ⟨u1, u2⟩ := u
        rw [q] at hin; rw [loopF_inl (e.trans q)]
        obtain ⟨g1, g2⟩ := hin
        subst g2
        exact len_out n u1 (i + 1) (by omega) (by omega) (by omega)
      | inr u =>
        obtain ⟨u1, u2⟩ := u
        rw [q] at hin; rw [loopF_inr (e.trans q)]
        have hin : u1 = [] := hin
        subst hin
        exact Nat.zero_le _
    · have e : S18_L_0 l d (out, i) = .inr (out, 0) := by
        simp only [S18_L_0]; rw [decide_eq_false h, cond_false]
      rw [loopF_inr e]
      show out.length ≤ l.length
      omega
end
theorem dnr_len (l : List (PN × Int)) (d : Int) : (F18_L l d).1.length ≤ 1048576 := by
  unfold F18_L
  by_cases h : F43_L l = 0
  · have hl := vch_lenr h
    rw [h]
    simp only [bne_self_eq_false, cond_false]
    cases (!(F39 d 0 2)) with
    | true => exact Nat.zero_le _
    | false =>
      have := len_out (l := l) (d := d) (Int.toNat (((l.length : Nat) : Int) - 0) + 1) [] 0 (by omega) (by simp) (by omega)
      rw [cond_false]; omega
  · rw [bne_iff_ne.2 h]; exact Nat.zero_le _
theorem dn_len (l : List (PN × Int)) (d : Int) : (F17_L l d).1.length ≤ 1048576 := by rw [Dense_eq]; exact dnr_len l d

end Go.Proofs.YtnbpiejjeeomkaaGreat

namespace Go.Proofs.YtnbpiejjeeomkaaGreat
open Go.Proofs Go.Aw Go.RowKit
set_option maxRecDepth 100000
set_option linter.unusedVariables false
set_option linter.unusedSimpArgs false

noncomputable def B19_L_L_0 : Code := (loopAtD [1, 1, 0, 1] [] (bodyOf Tryz.f19) []).1
noncomputable def K19_L_L_0 : List K := (loopAtD [1, 1, 0, 1] [] (bodyOf Tryz.f19) []).2

def st19_L_L_0 (a0 : List (List (Int × Int))) (a1 : List (List (Int × Int))) (v1 : Int) : LS := ⟨slN 27 [(0, (.s 0 0 a0.length 1)), (1, (.s 1 0 a1.length 1)), (5, (iv v1))], [(.live false true (flat c52 a0)), (.live false true (flat c52 a1))]⟩

def S19_L_L_0 (a0 : List (List (Int × Int))) (a1 : List (List (Int × Int))) : Int → (Int) ⊕ (Bool)
  | v1 =>
   (bif (decide ((v1 : Int) < ((a0.length : Nat) : Int))) then
    (bif (!(F22_L_L (a0.getD (Int.toNat v1) default) (a1.getD (Int.toNat v1) default))) then
     (.inr false)
    else
     (.inl (v1 + 1)))
   else
    (.inr true))

set_option maxHeartbeats 4000000 in
theorem L19_L_L_0 (a0 : List (List (Int × Int))) (a1 : List (List (Int × Int))) (l0 : a0.length ≤ 9223372036854775807) (l1 : a1.length ≤ 9223372036854775807) (hr0 : ∀ r ∈ a0, r.length ≤ 1048576) (hr1 : ∀ r ∈ a1, r.length ≤ 1048576) {cx : Cx} (hcx : cx.base = 2) : ∀ (n : Nat) (v1 : Int), (0 ≤ v1) ∧ (a0.length = a1.length) → Int.toNat (((a0.length : Nat) : Int) - v1) < n → Aw.Good Tryz.prog none 9 (bodyPost Tryz.prog Tryz.f19 (RR cx (.v (.bool (loopF (S19_L_L_0 a0 a1) n v1))) [] [])) cx [] (.l B19_L_L_0 n :: K19_L_L_0) (st19_L_L_0 a0 a1 v1) := by
  intro n
  induction n with
  | zero => intro v1 hi hn; exact absurd hn (Nat.not_lt_zero _)
  | succ n ih =>
    intro v1 hi hn
    refine good_round ?_
    have hq0 := rows_at hr0 (Int.toNat v1)
    have hq1 := rows_at hr1 (Int.toNat v1)
    cases h0 : (decide ((v1 : Int) < ((a0.length : Nat) : Int))) with
    | true =>
     have q0 := of_decide_eq_true h0
     let t1 : List (St Tryz.prog) := [.d h0, .i v1 (a0.length), .L c52_len a0 v1 0 1, .p (d_plain (c := c36) (fun _ => rfl) (a0.getD (Int.toNat v1) default)), .i v1 (a1.length), .L c52_len a1 v1 0 1, .p (d_plain (c := c36) (fun _ => rfl) (a1.getD (Int.toNat v1) default)), .c [2, 3] (C22_L_L (a0.getD (Int.toNat v1) default) (a1.getD (Int.toNat v1) default) (by (try simp only [List.length_append, List.length_cons, List.length_nil, Int.toNat_zero]); omega) (by (try simp only [List.length_append, List.length_cons, List.length_nil, Int.toNat_zero]); omega))]
     cases h1 : (!(F22_L_L (a0.getD (Int.toNat v1) default) (a1.getD (Int.toNat v1) default))) with
     | true =>
      have e := Eq.refl (S19_L_L_0 a0 a1 v1); conv at e => rhs; simp only [S19_L_L_0, h0, h1, cond_true, cond_false]
      rw [loopF_s, e]
      exact rt (t1 ++ [.d h1]) [] [] hcx (by kernel_rfl)
     | false =>
      have e := Eq.refl (S19_L_L_0 a0 a1 v1); conv at e => rhs; simp only [S19_L_L_0, h0, h1, cond_true, cond_false]
      rw [loopF_inl e]
      refine ba (t1 ++ [.d h1]) [] [0, 1, 5] [] hcx (m := n) B19_L_L_0 (K19_L_L_0) (st19_L_L_0 a0 a1 (W (v1 + 1))) (by kernel_rfl) ?_
      have z0 : (W (v1 + 1)) = (v1 + 1) := W_eq (by omega) (by omega)
      rw [z0]
      exact ih (v1 + 1) (by refine ⟨?_, ?_⟩ <;> (try simp only [List.length_append, List.length_cons, List.length_nil, Int.toNat_zero]) <;> first | omega | assumption | simp) (by (try simp only [List.length_append, List.length_cons, List.length_nil, Int.toNat_zero]); omega)
    | false =>
     have q0 := of_decide_eq_false h0
     have e := Eq.refl (S19_L_L_0 a0 a1 v1); conv at e => rhs; simp only [S19_L_L_0, h0, cond_true, cond_false]
     rw [loopF_s, e]
     exact rt [.d h0] [] [] hcx (by kernel_rfl)

def F19_L_L (a0 : List (List (Int × Int))) (a1 : List (List (Int × Int))) : Bool :=
  (bif ((((a0.length : Nat) : Int) : Int) != ((a1.length : Nat) : Int)) then
   false
  else
   (loopF (S19_L_L_0 a0 a1) (Int.toNat (((a0.length : Nat) : Int) - 0) + 1) 0))

theorem C19_L_L (a0 : List (List (Int × Int))) (a1 : List (List (Int × Int))) (l0 : a0.length ≤ 9223372036854775807) (l1 : a1.length ≤ 9223372036854775807) (hr0 : ∀ r ∈ a0, r.length ≤ 1048576) (hr1 : ∀ r ∈ a1, r.length ≤ 1048576) : Con Tryz.prog 19 [(.s 0 0 a0.length 1), (.s 1 0 a1.length 1)] [(.live false true (flat c52 a0)), (.live false true (flat c52 a1))] (.v (.bool (F19_L_L a0 a1))) [] := by
  refine con_s Tryz.func19 (by kernel_rfl) fun cx hcx => ?_
  cases h0 : ((((a0.length : Nat) : Int) : Int) != ((a1.length : Nat) : Int)) with
  | true =>
   have q0 := bne_iff_ne.1 h0
   have e := Eq.refl (F19_L_L a0 a1); conv at e => rhs; simp only [F19_L_L, h0, cond_true, cond_false]
   rw [e]
   exact rt [.d h0] [] [] hcx (by kernel_rfl)
  | false =>
   have q0 := bne_eq_false_iff_eq.1 h0
   have e := Eq.refl (F19_L_L a0 a1); conv at e => rhs; simp only [F19_L_L, h0, cond_true, cond_false]
   rw [e]
   refine en [.d h0] [] [0, 1, 5] [] hcx B19_L_L_0 (K19_L_L_0) (st19_L_L_0 a0 a1 0) (Int.toNat (((a0.length : Nat) : Int) - 0) + 1) (by kernel_rfl) ?_
   exact L19_L_L_0 a0 a1 l0 l1 hr0 hr1 hcx (Int.toNat (((a0.length : Nat) : Int) - 0) + 1) 0 (by refine ⟨?_, ?_⟩ <;> (try simp only [List.length_append, List.length_cons, List.length_nil, Int.toNat_zero]) <;> first | omega | assumption | simp) (by (try simp only [List.length_append, List.length_cons, List.length_nil, Int.toNat_zero]); omega)

def F4_L (a0 : List (((Int × Int × Int) × (Int × Int × Int) × Int × Int × Int) × Int)) (a1 : Int) : Bool :=
  (bif (decide ((((a0.length : Nat) : Int) : Int) > 10)) then
   (bif (decide ((((a0.length : Nat) : Int) : Int) ≤ 96)) then
    F10
   else
    (bif (decide ((((a0.length : Nat) : Int) : Int) > 200)) then
     F10
    else
     (bif (((F17_L a0 a1).2 : Int) == (F18_L a0 a1).2) then
      (bif (F19_L_L (F17_L a0 a1).1 (F18_L a0 a1).1) then
       F10
      else
       false)
     else
      false)))
  else
   (bif (decide ((((a0.length : Nat) : Int) : Int) > 200)) then
    F10
   else
    (bif (((F17_L a0 a1).2 : Int) == (F18_L a0 a1).2) then
     (bif (F19_L_L (F17_L a0 a1).1 (F18_L a0 a1).1) then
      F10
     else
      false)
    else
     false)))

theorem C4_L (a0 : List (((Int × Int × Int) × (Int × Int × Int) × Int × Int × Int) × Int)) (a1 : Int) (l0 : a0.length ≤ 9223372036854775807) : Con Tryz.prog 4 [(.s 0 0 a0.length 10), (iv a1)] [(.live false true (flat c85 a0))] (.v (.bool (F4_L a0 a1))) [] := by
  refine con_s Tryz.func4 (by kernel_rfl) fun cx hcx => ?_
  have hdl1 := dn_len a0 a1
  have hdl2 := dnr_len a0 a1
  cases h0 : (decide ((((a0.length : Nat) : Int) : Int) > 10)) with
  | true =>
   have q0 := of_decide_eq_true h0
   let t1 : List (St Tryz.prog) := [.d h0]
   cases h1 : (decide ((((a0.length : Nat) : Int) : Int) ≤ 96)) with
   | true =>
    have q1 := of_decide_eq_true h1
    have e := Eq.refl (F4_L a0 a1); conv at e => rhs; simp only [F4_L, h0, h1, cond_true, cond_false]
    rw [e]
    exact rt (t1 ++ [.d h1, .c [] (C10)]) [] [] hcx (by kernel_rfl)
   | false =>
    have q1 := of_decide_eq_false h1
    let t2 : List (St Tryz.prog) := (t1 ++ [.d h1])
    cases h2 : (decide ((((a0.length : Nat) : Int) : Int) > 200)) with
    | true =>
     have q2 := of_decide_eq_true h2
     have e := Eq.refl (F4_L a0 a1); conv at e => rhs; simp only [F4_L, h0, h1, h2, cond_true, cond_false]
     rw [e]
     exact rt (t2 ++ [.d h2, .c [] (C10)]) [] [] hcx (by kernel_rfl)
    | false =>
     have q2 := of_decide_eq_false h2
     let t3 : List (St Tryz.prog) := (t2 ++ [.d h2, .c [0] (C17_L a0 a1 (by (try simp only [List.length_append, List.length_cons, List.length_nil, Int.toNat_zero]); omega)), .c [0] (C18_L a0 a1 (by (try simp only [List.length_append, List.length_cons, List.length_nil, Int.toNat_zero]); omega))])
     cases h3 : (((F17_L a0 a1).2 : Int) == (F18_L a0 a1).2) with
     | true =>
      have q3 := eq_of_beq h3
      let t4 : List (St Tryz.prog) := (t3 ++ [.d h3, .c [1, 2] (C19_L_L (F17_L a0 a1).1 (F18_L a0 a1).1 (by (try simp only [List.length_append, List.length_cons, List.length_nil, Int.toNat_zero]); omega) (by (try simp only [List.length_append, List.length_cons, List.length_nil, Int.toNat_zero]); omega) (dn_rows _ _) (dnr_rows _ _))])
      cases h4 : (F19_L_L (F17_L a0 a1).1 (F18_L a0 a1).1) with
      | true =>
       have e := Eq.refl (F4_L a0 a1); conv at e => rhs; simp only [F4_L, h0, h1, h2, h3, h4, cond_true, cond_false]
       rw [e]
       exact rt (t4 ++ [.d h4, .c [] (C10)]) [] [] hcx (by kernel_rfl)
      | false =>
       have e := Eq.refl (F4_L a0 a1); conv at e => rhs; simp only [F4_L, h0, h1, h2, h3, h4, cond_true, cond_false]
       rw [e]
       exact rt (t4 ++ [.d h4]) [] [] hcx (by kernel_rfl)
     | false =>
      have q3 := ne_of_beq_false h3
      have e := Eq.refl (F4_L a0 a1); conv at e => rhs; simp only [F4_L, h0, h1, h2, h3, cond_true, cond_false]
      rw [e]
      exact rt (t3 ++ [.d h3]) [] [] hcx (by kernel_rfl)
  | false =>
   have q0 := of_decide_eq_false h0
   let t1 : List (St Tryz.prog) := [.d h0]
   cases h1 : (decide ((((a0.length : Nat) : Int) : Int) > 200)) with
   | true =>
    have q1 := of_decide_eq_true h1
    have e := Eq.refl (F4_L a0 a1); conv at e => rhs; simp only [F4_L, h0, h1, cond_true, cond_false]
    rw [e]
    exact rt (t1 ++ [.d h1, .c [] (C10)]) [] [] hcx (by kernel_rfl)
   | false =>
    have q1 := of_decide_eq_false h1
    let t2 : List (St Tryz.prog) := (t1 ++ [.d h1, .c [0] (C17_L a0 a1 (by (try simp only [List.length_append, List.length_cons, List.length_nil, Int.toNat_zero]); omega)), .c [0] (C18_L a0 a1 (by (try simp only [List.length_append, List.length_cons, List.length_nil, Int.toNat_zero]); omega))])
    cases h2 : (((F17_L a0 a1).2 : Int) == (F18_L a0 a1).2) with
    | true =>
     have q2 := eq_of_beq h2
     let t3 : List (St Tryz.prog) := (t2 ++ [.d h2, .c [1, 2] (C19_L_L (F17_L a0 a1).1 (F18_L a0 a1).1 (by (try simp only [List.length_append, List.length_cons, List.length_nil, Int.toNat_zero]); omega) (by (try simp only [List.length_append, List.length_cons, List.length_nil, Int.toNat_zero]); omega) (dn_rows _ _) (dnr_rows _ _))])
     cases h3 : (F19_L_L (F17_L a0 a1).1 (F18_L a0 a1).1) with
     | true =>
      have e := Eq.refl (F4_L a0 a1); conv at e => rhs; simp only [F4_L, h0, h1, h2, h3, cond_true, cond_false]
      rw [e]
      exact rt (t3 ++ [.d h3, .c [] (C10)]) [] [] hcx (by kernel_rfl)
     | false =>
      have e := Eq.refl (F4_L a0 a1); conv at e => rhs; simp only [F4_L, h0, h1, h2, h3, cond_true, cond_false]
      rw [e]
      exact rt (t3 ++ [.d h3]) [] [] hcx (by kernel_rfl)
    | false =>
     have q2 := ne_of_beq_false h2
     have e := Eq.refl (F4_L a0 a1); conv at e => rhs; simp only [F4_L, h0, h1, h2, cond_true, cond_false]
     rw [e]
     exact rt (t2 ++ [.d h2]) [] [] hcx (by kernel_rfl)

end Go.Proofs.YtnbpiejjeeomkaaGreat
