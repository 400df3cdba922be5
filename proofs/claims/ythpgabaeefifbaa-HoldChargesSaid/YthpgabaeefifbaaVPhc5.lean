/-
  Parts of the proofs of the laws: the executor, what functions of the program compute, and that it is what the statements ask. No premise.
-/
import Derived.Test.YthpgabaeefifbaaVPhc4
namespace Go.Proofs.Ythpgabaeefifbaa
open Go.Proofs Go.Aw Go.RowKit
set_option maxRecDepth 100000
set_option linter.unusedVariables false
set_option linter.unusedSimpArgs false

theorem row_im {α : Type} {n : Nat} {t : List (List α)} (h : ∀ r ∈ t, r.length = n) (j : Int) : (0 ≤ j ∧ j < ((t.length : Nat) : Int)) → (t.getD (Int.toNat j) default).length = n := fun g => by
  have hlt : Int.toNat j < t.length := by omega
  rw [List.getD_eq_getElem?_getD, List.getElem?_eq_getElem hlt, Option.getD_some]
  exact h _ (List.getElem_mem hlt)
theorem row_le {α : Type} {n : Nat} {t : List (List α)} (h : ∀ r ∈ t, r.length ≤ n) (j : Int) : (0 ≤ j ∧ j < ((t.length : Nat) : Int)) → (t.getD (Int.toNat j) default).length ≤ n := fun g => by
  have hlt : Int.toNat j < t.length := by omega
  rw [List.getD_eq_getElem?_getD, List.getElem?_eq_getElem hlt, Option.getD_some]
  exact h _ (List.getElem_mem hlt)

noncomputable def B66_L_L_0 : Code := (loopAtD [1, 1, 0, 1] [] (bodyOf Try.f66) []).1
noncomputable def K66_L_L_0 : List K := (loopAtD [1, 1, 0, 1] [] (bodyOf Try.f66) []).2

def st66_L_L_0 (a0 : List (Int × Int)) (a1 : List (Int)) (v2c : List SV) (v2n : Nat) (v3 : Int) : LS := ⟨slN 40 [(1, (.s 1 0 a1.length 1)), (4, (.p 2 0)), (6, (.s 3 0 v2n 2)), (11, (.s 0 0 a0.length 2)), (12, (iv ((a0.length : Nat) : Int))), (13, (iv v3))], [(.live false true (flat c39 a0)), (.live false true (flat c3 a1)), (.live true false [(iv 0), (iv 0)]), (.live true true v2c)]⟩

/-- a round of loop 0 of facet/hold.add; the variables: v2 = s6, v3 = s13 -/
def S66_L_L_0 (a0 : List (Int × Int)) (a1 : List (Int)) : (List (Int × Int)) × Int → ((List (Int × Int)) × Int) ⊕ ((Int × Int) × Int)
  | (v2, v3) =>
   (bif (decide ((v3 : Int) < ((a0.length : Nat) : Int))) then
    (bif (((F85 (a0.getD (Int.toNat v3) default) (a1.getD (Int.toNat v3) default)).2 : Int) != 0) then
     (.inr ((0, 0), (F85 (a0.getD (Int.toNat v3) default) (a1.getD (Int.toNat v3) default)).2))
    else
     (.inl ((v2 ++ [(F85 (a0.getD (Int.toNat v3) default) (a1.getD (Int.toNat v3) default)).1]), (v3 + 1))))
   else
    (.inr ((F86_L v2).1, (F86_L v2).2)))

set_option maxHeartbeats 4000000 in
theorem L66_L_L_0 (a0 : List (Int × Int)) (a1 : List (Int)) (l0 : a0.length ≤ 9223372036854775807) (l1 : a1.length ≤ 9223372036854775807) (hl : a0.length ≤ a1.length) (hn : a0.length ≤ 9216) {cx : Cx} (hcx : cx.base = 2) : ∀ (n : Nat) (v2 : List (Int × Int)) (v3 : Int), (0 ≤ v3) ∧ (v2.length = Int.toNat v3) ∧ (v3 ≤ a0.length) → Int.toNat (((a0.length : Nat) : Int) - v3) < n → Aw.Good Try.prog none 9 (bodyPost Try.prog Try.f66 (RR cx (.t [(.a (k2 (loopF (S66_L_L_0 a0 a1) n (v2, v3)).1)), (iv (loopF (S66_L_L_0 a0 a1) n (v2, v3)).2)]) [] [])) cx [] (.l B66_L_L_0 n :: K66_L_L_0) (st66_L_L_0 a0 a1 (flat c39 v2) v2.length v3) := by
  intro n
  induction n with
  | zero => intro v2 v3 hi hn; exact absurd hn (Nat.not_lt_zero _)
  | succ n ih =>
    intro v2 v3 hi hn
    refine good_round ?_
    cases h0 : (decide ((v3 : Int) < ((a0.length : Nat) : Int))) with
    | true =>
     have q0 := of_decide_eq_true h0
     let t1 : List (St Try.prog) := [.d h0, .i v3 (a0.length), .L c39_len a0 v3 0 2, .i v3 (a1.length), .L c3_len a1 v3 0 1, .c [] (C85 (a0.getD (Int.toNat v3) default) (a1.getD (Int.toNat v3) default))]
     cases h1 : (((F85 (a0.getD (Int.toNat v3) default) (a1.getD (Int.toNat v3) default)).2 : Int) != 0) with
     | true =>
      have q1 := bne_iff_ne.1 h1
      have e := Eq.refl (S66_L_L_0 a0 a1 (v2, v3)); conv at e => rhs; simp only [S66_L_L_0, h0, h1, cond_true, cond_false]
      rw [loopF_s, e]
      exact rt (t1 ++ [.d h1]) [] [] hcx (by kernel_rfl)
     | false =>
      have q1 := bne_eq_false_iff_eq.1 h1
      have e := Eq.refl (S66_L_L_0 a0 a1 (v2, v3)); conv at e => rhs; simp only [S66_L_L_0, h0, h1, cond_true, cond_false]
      rw [loopF_inl e]
      refine ba (t1 ++ [.d h1, .p (show ((flat c39 v2).length = v2.length * 2 ∧ v2.length + 1 ≤ 2 ^ 40 ∧ (v2.length + 1) * 16 ≤ 2 ^ 47) from app_ok c39_len (by omega) (by omega))]) [] [1, 4, 6, 11, 12, 13] [2, 7] hcx (m := n) B66_L_L_0 (K66_L_L_0) (st66_L_L_0 a0 a1 (flat c39 v2 ++ (k2 (F85 (a0.getD (Int.toNat v3) default) (a1.getD (Int.toNat v3) default)).1)) (v2.length + 1) (W (v3 + 1))) (by kernel_rfl) ?_
      have z0 : (W (v3 + 1)) = (v3 + 1) := W_eq (by omega) (by omega)
      have z1 : (flat c39 v2 ++ (k2 (F85 (a0.getD (Int.toNat v3) default) (a1.getD (Int.toNat v3) default)).1)) = (flat c39 (v2 ++ [(F85 (a0.getD (Int.toNat v3) default) (a1.getD (Int.toNat v3) default)).1])) := (flat_append (c := c39) (l := v2) (m := [(F85 (a0.getD (Int.toNat v3) default) (a1.getD (Int.toNat v3) default)).1])).symm
      have z2 : (v2.length + 1) = (v2 ++ [(F85 (a0.getD (Int.toNat v3) default) (a1.getD (Int.toNat v3) default)).1]).length := len_app v2 [(F85 (a0.getD (Int.toNat v3) default) (a1.getD (Int.toNat v3) default)).1] rfl
      rw [z0, z1, z2]
      exact ih (v2 ++ [(F85 (a0.getD (Int.toNat v3) default) (a1.getD (Int.toNat v3) default)).1]) (v3 + 1) (by refine ⟨?_, ?_, ?_⟩ <;> (try simp only [List.length_append, List.length_cons, List.length_nil, Int.toNat_zero]) <;> first | omega | assumption | simp) (by (try simp only [List.length_append, List.length_cons, List.length_nil, Int.toNat_zero]); omega)
    | false =>
     have q0 := of_decide_eq_false h0
     have e := Eq.refl (S66_L_L_0 a0 a1 (v2, v3)); conv at e => rhs; simp only [S66_L_L_0, h0, cond_true, cond_false]
     rw [loopF_s, e]
     exact rt [.d h0, .c [3] (C86_L v2 (by (try simp only [List.length_append, List.length_cons, List.length_nil, Int.toNat_zero]); omega))] [] [] hcx (by kernel_rfl)

/-- facet/hold.add at ('L', 'L') -/
def F66_L_L (a0 : List (Int × Int)) (a1 : List (Int)) : (Int × Int) × Int :=
  (loopF (S66_L_L_0 a0 a1) (Int.toNat (((a0.length : Nat) : Int) - 0) + 1) (([] : List (Int × Int)), 0))

theorem C66_L_L (a0 : List (Int × Int)) (a1 : List (Int)) (l0 : a0.length ≤ 9223372036854775807) (l1 : a1.length ≤ 9223372036854775807) (hl : a0.length ≤ a1.length) (hn : a0.length ≤ 9216) : Con Try.prog 66 [(.s 0 0 a0.length 2), (.s 1 0 a1.length 1)] [(.live false true (flat c39 a0)), (.live false true (flat c3 a1))] (.t [(.a (k2 (F66_L_L a0 a1).1)), (iv (F66_L_L a0 a1).2)]) [] := by
  refine con_s Try.func66 (by kernel_rfl) fun cx hcx => ?_
  have e := Eq.refl (F66_L_L a0 a1); conv at e => rhs; simp only [F66_L_L]
  rw [e]
  refine en [] [.slot 6 2] [1, 4, 6, 11, 12, 13] [2, 3] hcx B66_L_L_0 (K66_L_L_0) (st66_L_L_0 a0 a1 (flat c39 ([] : List (Int × Int))) 0 0) (Int.toNat (((a0.length : Nat) : Int) - 0) + 1) (by kernel_rfl) ?_
  exact L66_L_L_0 a0 a1 l0 l1 hl hn hcx (Int.toNat (((a0.length : Nat) : Int) - 0) + 1) ([] : List (Int × Int)) 0 (by refine ⟨?_, ?_, ?_⟩ <;> (try simp only [List.length_append, List.length_cons, List.length_nil, Int.toNat_zero]) <;> first | omega | assumption | simp) (by (try simp only [List.length_append, List.length_cons, List.length_nil, Int.toNat_zero]); omega)

/-- []api.Span, as cells -/
def c88 (x : List (Int × Int)) : List SV := [(.d (flat c39 x) x.length 2)]
theorem c88_len (x : List (Int × Int)) : (c88 x).length = 1 := rfl

noncomputable def B48_f49_1 : Code := (loopAtD [1, 1, 1, 1, 0, 1, 0, 1, 1, 0, 1, 1, 0, 1] [0] (bodyOf Try.f48) []).1
noncomputable def K48_f49_1 (m0 : Nat) : List K := (loopAtD [1, 1, 1, 1, 0, 1, 0, 1, 1, 0, 1, 1, 0, 1] [m0] (bodyOf Try.f48) []).2

def st48_f49_1 (a0 : (List (Int × Int × Int)) × List (Int × Int × Int)) (a1 : Int) (v10c : List SV) (v10n : Nat) (v11c : List SV) (v11n : Nat) (v12 : Int) (v13 : Int) (v14 : Int) (v15 : Int) (v16 : Int) (v17 : Int) (v18 : Int) (v19 : Int) (v20 : Int) (v21 : Int) (v22 : Int) : LS := ⟨slN 60 [(1, (iv a1)), (2, (.v (.func (.func 49) #[] #[]))), (8, (.s 2 0 (F60 (a0.1, a0.2)).1.length 9)), (10, (.s 3 0 v10n 1)), (12, (.p 4 0)), (13, (.s 5 0 v11n 2)), (26, (.s 2 0 (F60 (a0.1, a0.2)).1.length 9)), (27, (iv (((F60 (a0.1, a0.2)).1.length : Nat) : Int))), (28, (iv v12)), (32, (.s 2 0 (F60 (a0.1, a0.2)).1.length 9)), (33, (iv (((F60 (a0.1, a0.2)).1.length : Nat) : Int))), (34, (iv v13))], [(.live false true (flat c37 a0.1)), (.live false true (flat c46 a0.2)), (.live true true (flat c62 (F60 (a0.1, a0.2)).1)), (.live true true v10c), (.live true false [(iv v14), (iv v15), (iv v16), (iv v17), (iv v18), (iv v19), (iv v20), (iv v21), (iv v22)]), (.live true true v11c)]⟩

/-- a round of loop 1 of facet/hold.table; the variables: v10 = s10, v11 = s13, v12 = s28, v13 = s34, v14 = s12_0, v15 = s12_1, v16 = s12_2, v17 = s12_3, v18 = s12_4, v19 = s12_5, v20 = s12_6, v21 = s12_7, v22 = s12_8 -/
def S48_f49_1 (a0 : (List (Int × Int × Int)) × List (Int × Int × Int)) (a1 : Int) : (List (List (Int × Int))) × (List (Int × Int)) × Int × Int × Int × Int × Int × Int × Int × Int × Int × Int × Int → ((List (List (Int × Int))) × (List (Int × Int)) × Int × Int × Int × Int × Int × Int × Int × Int × Int × Int × Int) ⊕ (((List (List (Int × Int))) × Int) ⊕ ((List (List (Int × Int))) × Int))
  | (v10, v11, v12, v13, v14, v15, v16, v17, v18, v19, v20, v21, v22) =>
   (bif (decide ((v13 : Int) < (((F60 (a0.1, a0.2)).1.length : Nat) : Int))) then
    (bif (((F49 ((F60 (a0.1, a0.2)).1.getD (Int.toNat v13) default) ((v14, v15, v16), (v17, v18, v19), (v20, v21, v22)) a1).2 : Int) != 0) then
     (.inr (.inr (([] : List (List (Int × Int))), (F49 ((F60 (a0.1, a0.2)).1.getD (Int.toNat v13) default) ((v14, v15, v16), (v17, v18, v19), (v20, v21, v22)) a1).2)))
    else
     (.inl (v10, (v11 ++ [(F49 ((F60 (a0.1, a0.2)).1.getD (Int.toNat v13) default) ((v14, v15, v16), (v17, v18, v19), (v20, v21, v22)) a1).1]), v12, (v13 + 1), v14, v15, v16, v17, v18, v19, v20, v21, v22)))
   else
    (.inr (.inl ((v10 ++ [v11]), (v12 + 1)))))

noncomputable def B48_f49_0 : Code := (loopAtD [1, 1, 1, 1, 0, 1] [] (bodyOf Try.f48) []).1
noncomputable def K48_f49_0 : List K := (loopAtD [1, 1, 1, 1, 0, 1] [] (bodyOf Try.f48) []).2

def st48_f49_0 (a0 : (List (Int × Int × Int)) × List (Int × Int × Int)) (a1 : Int) (v8c : List SV) (v8n : Nat) (v9 : Int) : LS := ⟨slN 60 [(1, (iv a1)), (2, (.v (.func (.func 49) #[] #[]))), (8, (.s 2 0 (F60 (a0.1, a0.2)).1.length 9)), (10, (.s 3 0 v8n 1)), (26, (.s 2 0 (F60 (a0.1, a0.2)).1.length 9)), (27, (iv (((F60 (a0.1, a0.2)).1.length : Nat) : Int))), (28, (iv v9))], [(.live false true (flat c37 a0.1)), (.live false true (flat c46 a0.2)), (.live true true (flat c62 (F60 (a0.1, a0.2)).1)), (.live true true v8c)]⟩

/-- a round of loop 0 of facet/hold.table; the variables: v8 = s10, v9 = s28 -/
def S48_f49_0 (a0 : (List (Int × Int × Int)) × List (Int × Int × Int)) (a1 : Int) : (List (List (Int × Int))) × Int → ((List (List (Int × Int))) × Int) ⊕ ((List (List (Int × Int))) × Int)
  | (v8, v9) =>
   (bif (decide ((v9 : Int) < (((F60 (a0.1, a0.2)).1.length : Nat) : Int))) then
    (loopF (S48_f49_1 a0 a1) (Int.toNat ((((F60 (a0.1, a0.2)).1.length : Nat) : Int) - 0) + 1) (v8, ([] : List (Int × Int)), v9, 0, ((F60 (a0.1, a0.2)).1.getD (Int.toNat v9) default).1.1, ((F60 (a0.1, a0.2)).1.getD (Int.toNat v9) default).1.2.1, ((F60 (a0.1, a0.2)).1.getD (Int.toNat v9) default).1.2.2, ((F60 (a0.1, a0.2)).1.getD (Int.toNat v9) default).2.1.1, ((F60 (a0.1, a0.2)).1.getD (Int.toNat v9) default).2.1.2.1, ((F60 (a0.1, a0.2)).1.getD (Int.toNat v9) default).2.1.2.2, ((F60 (a0.1, a0.2)).1.getD (Int.toNat v9) default).2.2.1, ((F60 (a0.1, a0.2)).1.getD (Int.toNat v9) default).2.2.2.1, ((F60 (a0.1, a0.2)).1.getD (Int.toNat v9) default).2.2.2.2))
   else
    (.inr (v8, 0)))

set_option maxHeartbeats 4000000 in
theorem L48_f49_1 (a0 : (List (Int × Int × Int)) × List (Int × Int × Int)) (a1 : Int) (l0_1 : a0.1.length ≤ 9223372036854775807) (l0_2 : a0.2.length ≤ 9223372036854775807) {cx : Cx} (hcx : cx.base = 2)
    (n0 : Nat) (g0 : ∀ (v8 : List (List (Int × Int))) (v9 : Int), (0 ≤ v9) ∧ (v8.length = Int.toNat v9) ∧ (v9 ≤ (F60 (a0.1, a0.2)).1.length) → Int.toNat ((((F60 (a0.1, a0.2)).1.length : Nat) : Int) - v9) < n0 → Aw.Good Try.prog none 9 (bodyPost Try.prog Try.f48 (RR cx (.t [(.s 2 0 (loopF (S48_f49_0 a0 a1) n0 (v8, v9)).1.length 1), (iv (loopF (S48_f49_0 a0 a1) n0 (v8, v9)).2)]) [(.live true true (flat c88 (loopF (S48_f49_0 a0 a1) n0 (v8, v9)).1))] [])) cx [] (.l B48_f49_0 n0 :: K48_f49_0) (st48_f49_0 a0 a1 (flat c88 v8) v8.length v9)) : ∀ (n : Nat) (v10 : List (List (Int × Int))) (v11 : List (Int × Int)) (v12 : Int) (v13 : Int) (v14 : Int) (v15 : Int) (v16 : Int) (v17 : Int) (v18 : Int) (v19 : Int) (v20 : Int) (v21 : Int) (v22 : Int), (0 ≤ v13) ∧ (v11.length = Int.toNat v13) ∧ (v13 ≤ (F60 (a0.1, a0.2)).1.length) ∧ (v10.length = Int.toNat v12) ∧ (0 ≤ v12) ∧ (v12 < (F60 (a0.1, a0.2)).1.length) ∧ ((0 ≤ v12)) ∧ ((v10.length = Int.toNat v12)) ∧ ((v12 ≤ (F60 (a0.1, a0.2)).1.length)) ∧ (v12 < (((F60 (a0.1, a0.2)).1.length : Nat) : Int)) ∧ (Int.toNat ((((F60 (a0.1, a0.2)).1.length : Nat) : Int) - v12) < n0 + 1) → Int.toNat ((((F60 (a0.1, a0.2)).1.length : Nat) : Int) - v13) < n → Aw.Good Try.prog none 9 (bodyPost Try.prog Try.f48 (RR cx (.t [(.s 2 0 (thenF (S48_f49_0 a0 a1) n0 (loopF (S48_f49_1 a0 a1) n (v10, v11, v12, v13, v14, v15, v16, v17, v18, v19, v20, v21, v22))).1.length 1), (iv (thenF (S48_f49_0 a0 a1) n0 (loopF (S48_f49_1 a0 a1) n (v10, v11, v12, v13, v14, v15, v16, v17, v18, v19, v20, v21, v22))).2)]) [(.live true true (flat c88 (thenF (S48_f49_0 a0 a1) n0 (loopF (S48_f49_1 a0 a1) n (v10, v11, v12, v13, v14, v15, v16, v17, v18, v19, v20, v21, v22))).1))] [])) cx [] (.l B48_f49_1 n :: K48_f49_1 n0) (st48_f49_1 a0 a1 (flat c88 v10) v10.length (flat c39 v11) v11.length v12 v13 v14 v15 v16 v17 v18 v19 v20 v21 v22) := by
  intro n
  induction n with
  | zero => intro v10 v11 v12 v13 v14 v15 v16 v17 v18 v19 v20 v21 v22 hi hn; exact absurd hn (Nat.not_lt_zero _)
  | succ n ih =>
    intro v10 v11 v12 v13 v14 v15 v16 v17 v18 v19 v20 v21 v22 hi hn
    refine good_round ?_
    have hpl := pan_len (a0.1, a0.2)
    cases h0 : (decide ((v13 : Int) < (((F60 (a0.1, a0.2)).1.length : Nat) : Int))) with
    | true =>
     have q0 := of_decide_eq_true h0
     let t1 : List (St Try.prog) := [.d h0, .i v13 ((F60 (a0.1, a0.2)).1.length), .L c62_len (F60 (a0.1, a0.2)).1 v13 0 9, .c [] (C49 ((F60 (a0.1, a0.2)).1.getD (Int.toNat v13) default) ((v14, v15, v16), (v17, v18, v19), (v20, v21, v22)) a1)]
     cases h1 : (((F49 ((F60 (a0.1, a0.2)).1.getD (Int.toNat v13) default) ((v14, v15, v16), (v17, v18, v19), (v20, v21, v22)) a1).2 : Int) != 0) with
     | true =>
      have q1 := bne_iff_ne.1 h1
      have e := Eq.refl (S48_f49_1 a0 a1 (v10, v11, v12, v13, v14, v15, v16, v17, v18, v19, v20, v21, v22)); conv at e => rhs; simp only [S48_f49_1, h0, h1, cond_true, cond_false]
      rw [loopF_s, e]
      exact rt (t1 ++ [.d h1]) [.slot 6 1] [8] hcx (by kernel_rfl)
     | false =>
      have q1 := bne_eq_false_iff_eq.1 h1
      have e := Eq.refl (S48_f49_1 a0 a1 (v10, v11, v12, v13, v14, v15, v16, v17, v18, v19, v20, v21, v22)); conv at e => rhs; simp only [S48_f49_1, h0, h1, cond_true, cond_false]
      rw [loopF_inl e]
      refine ba (t1 ++ [.d h1, .p (show ((flat c39 v11).length = v11.length * 2 ∧ v11.length + 1 ≤ 2 ^ 40 ∧ (v11.length + 1) * 16 ≤ 2 ^ 47) from app_ok c39_len (by omega) (by omega))]) [] [1, 2, 8, 10, 12, 13, 26, 27, 28, 32, 33, 34] [2, 3, 4, 9] hcx (m := n) B48_f49_1 (K48_f49_1 n0) (st48_f49_1 a0 a1 (flat c88 v10) (v10.length) (flat c39 v11 ++ (k2 (F49 ((F60 (a0.1, a0.2)).1.getD (Int.toNat v13) default) ((v14, v15, v16), (v17, v18, v19), (v20, v21, v22)) a1).1)) (v11.length + 1) v12 (W (v13 + 1)) v14 v15 v16 v17 v18 v19 v20 v21 v22) (by kernel_rfl) ?_
      have z0 : (W (v13 + 1)) = (v13 + 1) := W_eq (by omega) (by omega)
      have z1 : (flat c39 v11 ++ (k2 (F49 ((F60 (a0.1, a0.2)).1.getD (Int.toNat v13) default) ((v14, v15, v16), (v17, v18, v19), (v20, v21, v22)) a1).1)) = (flat c39 (v11 ++ [(F49 ((F60 (a0.1, a0.2)).1.getD (Int.toNat v13) default) ((v14, v15, v16), (v17, v18, v19), (v20, v21, v22)) a1).1])) := (flat_append (c := c39) (l := v11) (m := [(F49 ((F60 (a0.1, a0.2)).1.getD (Int.toNat v13) default) ((v14, v15, v16), (v17, v18, v19), (v20, v21, v22)) a1).1])).symm
      have z2 : (v11.length + 1) = (v11 ++ [(F49 ((F60 (a0.1, a0.2)).1.getD (Int.toNat v13) default) ((v14, v15, v16), (v17, v18, v19), (v20, v21, v22)) a1).1]).length := len_app v11 [(F49 ((F60 (a0.1, a0.2)).1.getD (Int.toNat v13) default) ((v14, v15, v16), (v17, v18, v19), (v20, v21, v22)) a1).1] rfl
      rw [z0, z1, z2]
      exact ih v10 (v11 ++ [(F49 ((F60 (a0.1, a0.2)).1.getD (Int.toNat v13) default) ((v14, v15, v16), (v17, v18, v19), (v20, v21, v22)) a1).1]) v12 (v13 + 1) v14 v15 v16 v17 v18 v19 v20 v21 v22 (by refine ⟨?_, ?_, ?_, ?_, ?_, ?_, ?_, ?_, ?_, ?_, ?_⟩ <;> (try simp only [List.length_append, List.length_cons, List.length_nil, Int.toNat_zero]) <;> first | omega | assumption | exact hi.2.1 | exact hi.2.2.1 | exact hi.2.2.2.1 | exact hi.2.2.2.2.1 | exact hi.2.2.2.2.2.1 | exact hi.2.2.2.2.2.2.1 | exact hi.2.2.2.2.2.2.2.1 | exact hi.2.2.2.2.2.2.2.2.1 | exact hi.2.2.2.2.2.2.2.2.2.1 | exact hi.2.2.2.2.2.2.2.2.2.2.1 | simp) (by (try simp only [List.length_append, List.length_cons, List.length_nil, Int.toNat_zero]); omega)
    | false =>
     have q0 := of_decide_eq_false h0
     have e := Eq.refl (S48_f49_1 a0 a1 (v10, v11, v12, v13, v14, v15, v16, v17, v18, v19, v20, v21, v22)); conv at e => rhs; simp only [S48_f49_1, h0, cond_true, cond_false]
     rw [loopF_s, e]
     refine ba [.d h0, .p (show ((flat c39 v11)).length = v11.length * 2 from by simp [flat_lenc c39_len]), .p (show ((flat c88 v10).length = v10.length * 1 ∧ v10.length + 1 ≤ 2 ^ 40 ∧ (v10.length + 1) * 24 ≤ 2 ^ 47) from app_ok c88_len (by omega) (by omega))] [] [1, 2, 8, 10, 26, 27, 28] [2, 7] hcx (m := n0) B48_f49_0 (K48_f49_0) (st48_f49_0 a0 a1 (flat c88 v10 ++ [(.d (flat c39 v11) v11.length 2)]) (v10.length + 1) (W (v12 + 1))) (by kernel_rfl) ?_
     have z0 : (W (v12 + 1)) = (v12 + 1) := W_eq (by omega) (by omega)
     have z1 : (flat c88 v10 ++ [(.d (flat c39 v11) v11.length 2)]) = (flat c88 (v10 ++ [v11])) := (flat_append (c := c88) (l := v10) (m := [v11])).symm
     have z2 : (v10.length + 1) = (v10 ++ [v11]).length := len_app v10 [v11] rfl
     rw [z0, z1, z2]
     exact g0 (v10 ++ [v11]) (v12 + 1) (by refine ⟨?_, ?_, ?_⟩ <;> (try simp only [List.length_append, List.length_cons, List.length_nil, Int.toNat_zero]) <;> first | omega | assumption | simp) (by (try simp only [List.length_append, List.length_cons, List.length_nil, Int.toNat_zero]); omega)

set_option maxHeartbeats 4000000 in
theorem L48_f49_0 (a0 : (List (Int × Int × Int)) × List (Int × Int × Int)) (a1 : Int) (l0_1 : a0.1.length ≤ 9223372036854775807) (l0_2 : a0.2.length ≤ 9223372036854775807) {cx : Cx} (hcx : cx.base = 2) : ∀ (n : Nat) (v8 : List (List (Int × Int))) (v9 : Int), (0 ≤ v9) ∧ (v8.length = Int.toNat v9) ∧ (v9 ≤ (F60 (a0.1, a0.2)).1.length) → Int.toNat ((((F60 (a0.1, a0.2)).1.length : Nat) : Int) - v9) < n → Aw.Good Try.prog none 9 (bodyPost Try.prog Try.f48 (RR cx (.t [(.s 2 0 (loopF (S48_f49_0 a0 a1) n (v8, v9)).1.length 1), (iv (loopF (S48_f49_0 a0 a1) n (v8, v9)).2)]) [(.live true true (flat c88 (loopF (S48_f49_0 a0 a1) n (v8, v9)).1))] [])) cx [] (.l B48_f49_0 n :: K48_f49_0) (st48_f49_0 a0 a1 (flat c88 v8) v8.length v9) := by
  intro n
  induction n with
  | zero => intro v8 v9 hi hn; exact absurd hn (Nat.not_lt_zero _)
  | succ n ih =>
    intro v8 v9 hi hn
    refine good_round ?_
    have hpl := pan_len (a0.1, a0.2)
    cases h0 : (decide ((v9 : Int) < (((F60 (a0.1, a0.2)).1.length : Nat) : Int))) with
    | true =>
     have q0 := of_decide_eq_true h0
     have e := Eq.refl (S48_f49_0 a0 a1 (v8, v9)); conv at e => rhs; simp only [S48_f49_0, h0, cond_true, cond_false]
     rw [loopF_s, e]
     refine en [.d h0, .i v9 ((F60 (a0.1, a0.2)).1.length), .L c62_len (F60 (a0.1, a0.2)).1 v9 0 9] [.slot 13 2] [1, 2, 8, 10, 12, 13, 26, 27, 28, 32, 33, 34] [2, 3, 4, 5] hcx B48_f49_1 (K48_f49_1 n) (st48_f49_1 a0 a1 (flat c88 v8) (v8.length) (flat c39 ([] : List (Int × Int))) 0 v9 0 (((F60 (a0.1, a0.2)).1.getD (Int.toNat v9) default).1.1) (((F60 (a0.1, a0.2)).1.getD (Int.toNat v9) default).1.2.1) (((F60 (a0.1, a0.2)).1.getD (Int.toNat v9) default).1.2.2) (((F60 (a0.1, a0.2)).1.getD (Int.toNat v9) default).2.1.1) (((F60 (a0.1, a0.2)).1.getD (Int.toNat v9) default).2.1.2.1) (((F60 (a0.1, a0.2)).1.getD (Int.toNat v9) default).2.1.2.2) (((F60 (a0.1, a0.2)).1.getD (Int.toNat v9) default).2.2.1) (((F60 (a0.1, a0.2)).1.getD (Int.toNat v9) default).2.2.2.1) (((F60 (a0.1, a0.2)).1.getD (Int.toNat v9) default).2.2.2.2)) (Int.toNat ((((F60 (a0.1, a0.2)).1.length : Nat) : Int) - 0) + 1) (by kernel_rfl) ?_
     exact L48_f49_1 a0 a1 l0_1 l0_2 hcx n ih (Int.toNat ((((F60 (a0.1, a0.2)).1.length : Nat) : Int) - 0) + 1) v8 ([] : List (Int × Int)) v9 0 (((F60 (a0.1, a0.2)).1.getD (Int.toNat v9) default).1.1) (((F60 (a0.1, a0.2)).1.getD (Int.toNat v9) default).1.2.1) (((F60 (a0.1, a0.2)).1.getD (Int.toNat v9) default).1.2.2) (((F60 (a0.1, a0.2)).1.getD (Int.toNat v9) default).2.1.1) (((F60 (a0.1, a0.2)).1.getD (Int.toNat v9) default).2.1.2.1) (((F60 (a0.1, a0.2)).1.getD (Int.toNat v9) default).2.1.2.2) (((F60 (a0.1, a0.2)).1.getD (Int.toNat v9) default).2.2.1) (((F60 (a0.1, a0.2)).1.getD (Int.toNat v9) default).2.2.2.1) (((F60 (a0.1, a0.2)).1.getD (Int.toNat v9) default).2.2.2.2) (by refine ⟨?_, ?_, ?_, ?_, ?_, ?_, ?_, ?_, ?_, ?_, ?_⟩ <;> (try simp only [List.length_append, List.length_cons, List.length_nil, Int.toNat_zero]) <;> first | omega | assumption | exact hi.2.1 | exact hi.2.2.1 | exact hi.2.2.2.1 | exact hi.2.2.2.2.1 | exact hi.2.2.2.2.2.1 | exact hi.2.2.2.2.2.2.1 | exact hi.2.2.2.2.2.2.2.1 | exact hi.2.2.2.2.2.2.2.2.1 | exact hi.2.2.2.2.2.2.2.2.2.1 | exact hi.2.2.2.2.2.2.2.2.2.2.1 | simp) (by (try simp only [List.length_append, List.length_cons, List.length_nil, Int.toNat_zero]); omega)
    | false =>
     have q0 := of_decide_eq_false h0
     have e := Eq.refl (S48_f49_0 a0 a1 (v8, v9)); conv at e => rhs; simp only [S48_f49_0, h0, cond_true, cond_false]
     rw [loopF_s, e]
     exact rt [.d h0] [] [3] hcx (by kernel_rfl)

/-- facet/hold.table at ('f49',) -/
def F48_f49 (a0 : (List (Int × Int × Int)) × List (Int × Int × Int)) (a1 : Int) : (List (List (Int × Int))) × Int :=
  (bif (((F60 (a0.1, a0.2)).2 : Int) != 0) then
   (([] : List (List (Int × Int))), (F60 (a0.1, a0.2)).2)
  else
   (loopF (S48_f49_0 a0 a1) (Int.toNat ((((F60 (a0.1, a0.2)).1.length : Nat) : Int) - 0) + 1) (([] : List (List (Int × Int))), 0)))

theorem C48_f49 (a0 : (List (Int × Int × Int)) × List (Int × Int × Int)) (a1 : Int) (l0_1 : a0.1.length ≤ 9223372036854775807) (l0_2 : a0.2.length ≤ 9223372036854775807) : Con Try.prog 48 [(.a [(.s 0 0 a0.1.length 3), (.s 1 0 a0.2.length 3)]), (iv a1), (.v (.func (.func 49) #[] #[]))] [(.live false true (flat c37 a0.1)), (.live false true (flat c46 a0.2))] (.t [(.s 2 0 (F48_f49 a0 a1).1.length 1), (iv (F48_f49 a0 a1).2)]) [(.live true true (flat c88 (F48_f49 a0 a1).1))] := by
  refine con_s Try.func48 (by kernel_rfl) fun cx hcx => ?_
  have hpl := pan_len (a0.1, a0.2)
  let t0 : List (St Try.prog) := [.c [0, 1] (C60 (a0.1, a0.2) (by (try simp only [List.length_append, List.length_cons, List.length_nil, Int.toNat_zero]); omega) (by (try simp only [List.length_append, List.length_cons, List.length_nil, Int.toNat_zero]); omega))]
  cases h0 : (((F60 (a0.1, a0.2)).2 : Int) != 0) with
  | true =>
   have q0 := bne_iff_ne.1 h0
   have e := Eq.refl (F48_f49 a0 a1); conv at e => rhs; simp only [F48_f49, h0, cond_true, cond_false]
   rw [e]
   exact rt (t0 ++ [.d h0]) [.slot 6 1] [4] hcx (by kernel_rfl)
  | false =>
   have q0 := bne_eq_false_iff_eq.1 h0
   have e := Eq.refl (F48_f49 a0 a1); conv at e => rhs; simp only [F48_f49, h0, cond_true, cond_false]
   rw [e]
   refine en (t0 ++ [.d h0]) [.slot 10 1] [1, 2, 8, 10, 26, 27, 28] [3, 4] hcx B48_f49_0 (K48_f49_0) (st48_f49_0 a0 a1 (flat c88 ([] : List (List (Int × Int)))) 0 0) (Int.toNat ((((F60 (a0.1, a0.2)).1.length : Nat) : Int) - 0) + 1) (by kernel_rfl) ?_
   exact L48_f49_0 a0 a1 l0_1 l0_2 hcx (Int.toNat ((((F60 (a0.1, a0.2)).1.length : Nat) : Int) - 0) + 1) ([] : List (List (Int × Int))) 0 (by refine ⟨?_, ?_, ?_⟩ <;> (try simp only [List.length_append, List.length_cons, List.length_nil, Int.toNat_zero]) <;> first | omega | assumption | simp) (by (try simp only [List.length_append, List.length_cons, List.length_nil, Int.toNat_zero]); omega)

noncomputable def B48_f50_1 : Code := (loopAtD [1, 1, 1, 1, 0, 1, 0, 1, 1, 0, 1, 1, 0, 1] [0] (bodyOf Try.f48) []).1
noncomputable def K48_f50_1 (m0 : Nat) : List K := (loopAtD [1, 1, 1, 1, 0, 1, 0, 1, 1, 0, 1, 1, 0, 1] [m0] (bodyOf Try.f48) []).2

def st48_f50_1 (a0 : (List (Int × Int × Int)) × List (Int × Int × Int)) (a1 : Int) (v10c : List SV) (v10n : Nat) (v11c : List SV) (v11n : Nat) (v12 : Int) (v13 : Int) (v14 : Int) (v15 : Int) (v16 : Int) (v17 : Int) (v18 : Int) (v19 : Int) (v20 : Int) (v21 : Int) (v22 : Int) : LS := ⟨slN 60 [(1, (iv a1)), (2, (.v (.func (.func 50) #[] #[]))), (8, (.s 2 0 (F60 (a0.1, a0.2)).1.length 9)), (10, (.s 3 0 v10n 1)), (12, (.p 4 0)), (13, (.s 5 0 v11n 2)), (26, (.s 2 0 (F60 (a0.1, a0.2)).1.length 9)), (27, (iv (((F60 (a0.1, a0.2)).1.length : Nat) : Int))), (28, (iv v12)), (32, (.s 2 0 (F60 (a0.1, a0.2)).1.length 9)), (33, (iv (((F60 (a0.1, a0.2)).1.length : Nat) : Int))), (34, (iv v13))], [(.live false true (flat c37 a0.1)), (.live false true (flat c46 a0.2)), (.live true true (flat c62 (F60 (a0.1, a0.2)).1)), (.live true true v10c), (.live true false [(iv v14), (iv v15), (iv v16), (iv v17), (iv v18), (iv v19), (iv v20), (iv v21), (iv v22)]), (.live true true v11c)]⟩

/-- a round of loop 1 of facet/hold.table; the variables: v10 = s10, v11 = s13, v12 = s28, v13 = s34, v14 = s12_0, v15 = s12_1, v16 = s12_2, v17 = s12_3, v18 = s12_4, v19 = s12_5, v20 = s12_6, v21 = s12_7, v22 = s12_8 -/
def S48_f50_1 (a0 : (List (Int × Int × Int)) × List (Int × Int × Int)) (a1 : Int) : (List (List (Int × Int))) × (List (Int × Int)) × Int × Int × Int × Int × Int × Int × Int × Int × Int × Int × Int → ((List (List (Int × Int))) × (List (Int × Int)) × Int × Int × Int × Int × Int × Int × Int × Int × Int × Int × Int) ⊕ (((List (List (Int × Int))) × Int) ⊕ ((List (List (Int × Int))) × Int))
  | (v10, v11, v12, v13, v14, v15, v16, v17, v18, v19, v20, v21, v22) =>
   (bif (decide ((v13 : Int) < (((F60 (a0.1, a0.2)).1.length : Nat) : Int))) then
    (bif (((F50 ((F60 (a0.1, a0.2)).1.getD (Int.toNat v13) default) ((v14, v15, v16), (v17, v18, v19), (v20, v21, v22)) a1).2 : Int) != 0) then
     (.inr (.inr (([] : List (List (Int × Int))), (F50 ((F60 (a0.1, a0.2)).1.getD (Int.toNat v13) default) ((v14, v15, v16), (v17, v18, v19), (v20, v21, v22)) a1).2)))
    else
     (.inl (v10, (v11 ++ [(F50 ((F60 (a0.1, a0.2)).1.getD (Int.toNat v13) default) ((v14, v15, v16), (v17, v18, v19), (v20, v21, v22)) a1).1]), v12, (v13 + 1), v14, v15, v16, v17, v18, v19, v20, v21, v22)))
   else
    (.inr (.inl ((v10 ++ [v11]), (v12 + 1)))))

noncomputable def B48_f50_0 : Code := (loopAtD [1, 1, 1, 1, 0, 1] [] (bodyOf Try.f48) []).1
noncomputable def K48_f50_0 : List K := (loopAtD [1, 1, 1, 1, 0, 1] [] (bodyOf Try.f48) []).2

def st48_f50_0 (a0 : (List (Int × Int × Int)) × List (Int × Int × Int)) (a1 : Int) (v8c : List SV) (v8n : Nat) (v9 : Int) : LS := ⟨slN 60 [(1, (iv a1)), (2, (.v (.func (.func 50) #[] #[]))), (8, (.s 2 0 (F60 (a0.1, a0.2)).1.length 9)), (10, (.s 3 0 v8n 1)), (26, (.s 2 0 (F60 (a0.1, a0.2)).1.length 9)), (27, (iv (((F60 (a0.1, a0.2)).1.length : Nat) : Int))), (28, (iv v9))], [(.live false true (flat c37 a0.1)), (.live false true (flat c46 a0.2)), (.live true true (flat c62 (F60 (a0.1, a0.2)).1)), (.live true true v8c)]⟩

/-- a round of loop 0 of facet/hold.table; the variables: v8 = s10, v9 = s28 -/
def S48_f50_0 (a0 : (List (Int × Int × Int)) × List (Int × Int × Int)) (a1 : Int) : (List (List (Int × Int))) × Int → ((List (List (Int × Int))) × Int) ⊕ ((List (List (Int × Int))) × Int)
  | (v8, v9) =>
   (bif (decide ((v9 : Int) < (((F60 (a0.1, a0.2)).1.length : Nat) : Int))) then
    (loopF (S48_f50_1 a0 a1) (Int.toNat ((((F60 (a0.1, a0.2)).1.length : Nat) : Int) - 0) + 1) (v8, ([] : List (Int × Int)), v9, 0, ((F60 (a0.1, a0.2)).1.getD (Int.toNat v9) default).1.1, ((F60 (a0.1, a0.2)).1.getD (Int.toNat v9) default).1.2.1, ((F60 (a0.1, a0.2)).1.getD (Int.toNat v9) default).1.2.2, ((F60 (a0.1, a0.2)).1.getD (Int.toNat v9) default).2.1.1, ((F60 (a0.1, a0.2)).1.getD (Int.toNat v9) default).2.1.2.1, ((F60 (a0.1, a0.2)).1.getD (Int.toNat v9) default).2.1.2.2, ((F60 (a0.1, a0.2)).1.getD (Int.toNat v9) default).2.2.1, ((F60 (a0.1, a0.2)).1.getD (Int.toNat v9) default).2.2.2.1, ((F60 (a0.1, a0.2)).1.getD (Int.toNat v9) default).2.2.2.2))
   else
    (.inr (v8, 0)))

set_option maxHeartbeats 4000000 in
theorem L48_f50_1 (a0 : (List (Int × Int × Int)) × List (Int × Int × Int)) (a1 : Int) (l0_1 : a0.1.length ≤ 9223372036854775807) (l0_2 : a0.2.length ≤ 9223372036854775807) {cx : Cx} (hcx : cx.base = 2)
    (n0 : Nat) (g0 : ∀ (v8 : List (List (Int × Int))) (v9 : Int), (0 ≤ v9) ∧ (v8.length = Int.toNat v9) ∧ (v9 ≤ (F60 (a0.1, a0.2)).1.length) → Int.toNat ((((F60 (a0.1, a0.2)).1.length : Nat) : Int) - v9) < n0 → Aw.Good Try.prog none 9 (bodyPost Try.prog Try.f48 (RR cx (.t [(.s 2 0 (loopF (S48_f50_0 a0 a1) n0 (v8, v9)).1.length 1), (iv (loopF (S48_f50_0 a0 a1) n0 (v8, v9)).2)]) [(.live true true (flat c88 (loopF (S48_f50_0 a0 a1) n0 (v8, v9)).1))] [])) cx [] (.l B48_f50_0 n0 :: K48_f50_0) (st48_f50_0 a0 a1 (flat c88 v8) v8.length v9)) : ∀ (n : Nat) (v10 : List (List (Int × Int))) (v11 : List (Int × Int)) (v12 : Int) (v13 : Int) (v14 : Int) (v15 : Int) (v16 : Int) (v17 : Int) (v18 : Int) (v19 : Int) (v20 : Int) (v21 : Int) (v22 : Int), (0 ≤ v13) ∧ (v11.length = Int.toNat v13) ∧ (v13 ≤ (F60 (a0.1, a0.2)).1.length) ∧ (v10.length = Int.toNat v12) ∧ (0 ≤ v12) ∧ (v12 < (F60 (a0.1, a0.2)).1.length) ∧ ((0 ≤ v12)) ∧ ((v10.length = Int.toNat v12)) ∧ ((v12 ≤ (F60 (a0.1, a0.2)).1.length)) ∧ (v12 < (((F60 (a0.1, a0.2)).1.length : Nat) : Int)) ∧ (Int.toNat ((((F60 (a0.1, a0.2)).1.length : Nat) : Int) - v12) < n0 + 1) → Int.toNat ((((F60 (a0.1, a0.2)).1.length : Nat) : Int) - v13) < n → Aw.Good Try.prog none 9 (bodyPost Try.prog Try.f48 (RR cx (.t [(.s 2 0 (thenF (S48_f50_0 a0 a1) n0 (loopF (S48_f50_1 a0 a1) n (v10, v11, v12, v13, v14, v15, v16, v17, v18, v19, v20, v21, v22))).1.length 1), (iv (thenF (S48_f50_0 a0 a1) n0 (loopF (S48_f50_1 a0 a1) n (v10, v11, v12, v13, v14, v15, v16, v17, v18, v19, v20, v21, v22))).2)]) [(.live true true (flat c88 (thenF (S48_f50_0 a0 a1) n0 (loopF (S48_f50_1 a0 a1) n (v10, v11, v12, v13, v14, v15, v16, v17, v18, v19, v20, v21, v22))).1))] [])) cx [] (.l B48_f50_1 n :: K48_f50_1 n0) (st48_f50_1 a0 a1 (flat c88 v10) v10.length (flat c39 v11) v11.length v12 v13 v14 v15 v16 v17 v18 v19 v20 v21 v22) := by
  intro n
  induction n with
  | zero => intro v10 v11 v12 v13 v14 v15 v16 v17 v18 v19 v20 v21 v22 hi hn; exact absurd hn (Nat.not_lt_zero _)
  | succ n ih =>
    intro v10 v11 v12 v13 v14 v15 v16 v17 v18 v19 v20 v21 v22 hi hn
    refine good_round ?_
    have hpl := pan_len (a0.1, a0.2)
    cases h0 : (decide ((v13 : Int) < (((F60 (a0.1, a0.2)).1.length : Nat) : Int))) with
    | true =>
     have q0 := of_decide_eq_true h0
     let t1 : List (St Try.prog) := [.d h0, .i v13 ((F60 (a0.1, a0.2)).1.length), .L c62_len (F60 (a0.1, a0.2)).1 v13 0 9, .c [] (C50 ((F60 (a0.1, a0.2)).1.getD (Int.toNat v13) default) ((v14, v15, v16), (v17, v18, v19), (v20, v21, v22)) a1)]
     cases h1 : (((F50 ((F60 (a0.1, a0.2)).1.getD (Int.toNat v13) default) ((v14, v15, v16), (v17, v18, v19), (v20, v21, v22)) a1).2 : Int) != 0) with
     | true =>
      have q1 := bne_iff_ne.1 h1
      have e := Eq.refl (S48_f50_1 a0 a1 (v10, v11, v12, v13, v14, v15, v16, v17, v18, v19, v20, v21, v22)); conv at e => rhs; simp only [S48_f50_1, h0, h1, cond_true, cond_false]
      rw [loopF_s, e]
      exact rt (t1 ++ [.d h1]) [.slot 6 1] [8] hcx (by kernel_rfl)
     | false =>
      have q1 := bne_eq_false_iff_eq.1 h1
      have e := Eq.refl (S48_f50_1 a0 a1 (v10, v11, v12, v13, v14, v15, v16, v17, v18, v19, v20, v21, v22)); conv at e => rhs; simp only [S48_f50_1, h0, h1, cond_true, cond_false]
      rw [loopF_inl e]
      refine ba (t1 ++ [.d h1, .p (show ((flat c39 v11).length = v11.length * 2 ∧ v11.length + 1 ≤ 2 ^ 40 ∧ (v11.length + 1) * 16 ≤ 2 ^ 47) from app_ok c39_len (by omega) (by omega))]) [] [1, 2, 8, 10, 12, 13, 26, 27, 28, 32, 33, 34] [2, 3, 4, 9] hcx (m := n) B48_f50_1 (K48_f50_1 n0) (st48_f50_1 a0 a1 (flat c88 v10) (v10.length) (flat c39 v11 ++ (k2 (F50 ((F60 (a0.1, a0.2)).1.getD (Int.toNat v13) default) ((v14, v15, v16), (v17, v18, v19), (v20, v21, v22)) a1).1)) (v11.length + 1) v12 (W (v13 + 1)) v14 v15 v16 v17 v18 v19 v20 v21 v22) (by kernel_rfl) ?_
      have z0 : (W (v13 + 1)) = (v13 + 1) := W_eq (by omega) (by omega)
      have z1 : (flat c39 v11 ++ (k2 (F50 ((F60 (a0.1, a0.2)).1.getD (Int.toNat v13) default) ((v14, v15, v16), (v17, v18, v19), (v20, v21, v22)) a1).1)) = (flat c39 (v11 ++ [(F50 ((F60 (a0.1, a0.2)).1.getD (Int.toNat v13) default) ((v14, v15, v16), (v17, v18, v19), (v20, v21, v22)) a1).1])) := (flat_append (c := c39) (l := v11) (m := [(F50 ((F60 (a0.1, a0.2)).1.getD (Int.toNat v13) default) ((v14, v15, v16), (v17, v18, v19), (v20, v21, v22)) a1).1])).symm
      have z2 : (v11.length + 1) = (v11 ++ [(F50 ((F60 (a0.1, a0.2)).1.getD (Int.toNat v13) default) ((v14, v15, v16), (v17, v18, v19), (v20, v21, v22)) a1).1]).length := len_app v11 [(F50 ((F60 (a0.1, a0.2)).1.getD (Int.toNat v13) default) ((v14, v15, v16), (v17, v18, v19), (v20, v21, v22)) a1).1] rfl
      rw [z0, z1, z2]
      exact ih v10 (v11 ++ [(F50 ((F60 (a0.1, a0.2)).1.getD (Int.toNat v13) default) ((v14, v15, v16), (v17, v18, v19), (v20, v21, v22)) a1).1]) v12 (v13 + 1) v14 v15 v16 v17 v18 v19 v20 v21 v22 (by refine ⟨?_, ?_, ?_, ?_, ?_, ?_, ?_, ?_, ?_, ?_, ?_⟩ <;> (try simp only [List.length_append, List.length_cons, List.length_nil, Int.toNat_zero]) <;> first | omega | assumption | exact hi.2.1 | exact hi.2.2.1 | exact hi.2.2.2.1 | exact hi.2.2.2.2.1 | exact hi.2.2.2.2.2.1 | exact hi.2.2.2.2.2.2.1 | exact hi.2.2.2.2.2.2.2.1 | exact hi.2.2.2.2.2.2.2.2.1 | exact hi.2.2.2.2.2.2.2.2.2.1 | exact hi.2.2.2.2.2.2.2.2.2.2.1 | simp) (by (try simp only [List.length_append, List.length_cons, List.length_nil, Int.toNat_zero]); omega)
    | false =>
     have q0 := of_decide_eq_false h0
     have e := Eq.refl (S48_f50_1 a0 a1 (v10, v11, v12, v13, v14, v15, v16, v17, v18, v19, v20, v21, v22)); conv at e => rhs; simp only [S48_f50_1, h0, cond_true, cond_false]
     rw [loopF_s, e]
     refine ba [.d h0, .p (show ((flat c39 v11)).length = v11.length * 2 from by simp [flat_lenc c39_len]), .p (show ((flat c88 v10).length = v10.length * 1 ∧ v10.length + 1 ≤ 2 ^ 40 ∧ (v10.length + 1) * 24 ≤ 2 ^ 47) from app_ok c88_len (by omega) (by omega))] [] [1, 2, 8, 10, 26, 27, 28] [2, 7] hcx (m := n0) B48_f50_0 (K48_f50_0) (st48_f50_0 a0 a1 (flat c88 v10 ++ [(.d (flat c39 v11) v11.length 2)]) (v10.length + 1) (W (v12 + 1))) (by kernel_rfl) ?_
     have z0 : (W (v12 + 1)) = (v12 + 1) := W_eq (by omega) (by omega)
     have z1 : (flat c88 v10 ++ [(.d (flat c39 v11) v11.length 2)]) = (flat c88 (v10 ++ [v11])) := (flat_append (c := c88) (l := v10) (m := [v11])).symm
     have z2 : (v10.length + 1) = (v10 ++ [v11]).length := len_app v10 [v11] rfl
     rw [z0, z1, z2]
     exact g0 (v10 ++ [v11]) (v12 + 1) (by refine ⟨?_, ?_, ?_⟩ <;> (try simp only [List.length_append, List.length_cons, List.length_nil, Int.toNat_zero]) <;> first | omega | assumption | simp) (by (try simp only [List.length_append, List.length_cons, List.length_nil, Int.toNat_zero]); omega)

set_option maxHeartbeats 4000000 in
theorem L48_f50_0 (a0 : (List (Int × Int × Int)) × List (Int × Int × Int)) (a1 : Int) (l0_1 : a0.1.length ≤ 9223372036854775807) (l0_2 : a0.2.length ≤ 9223372036854775807) {cx : Cx} (hcx : cx.base = 2) : ∀ (n : Nat) (v8 : List (List (Int × Int))) (v9 : Int), (0 ≤ v9) ∧ (v8.length = Int.toNat v9) ∧ (v9 ≤ (F60 (a0.1, a0.2)).1.length) → Int.toNat ((((F60 (a0.1, a0.2)).1.length : Nat) : Int) - v9) < n → Aw.Good Try.prog none 9 (bodyPost Try.prog Try.f48 (RR cx (.t [(.s 2 0 (loopF (S48_f50_0 a0 a1) n (v8, v9)).1.length 1), (iv (loopF (S48_f50_0 a0 a1) n (v8, v9)).2)]) [(.live true true (flat c88 (loopF (S48_f50_0 a0 a1) n (v8, v9)).1))] [])) cx [] (.l B48_f50_0 n :: K48_f50_0) (st48_f50_0 a0 a1 (flat c88 v8) v8.length v9) := by
  intro n
  induction n with
  | zero => intro v8 v9 hi hn; exact absurd hn (Nat.not_lt_zero _)
  | succ n ih =>
    intro v8 v9 hi hn
    refine good_round ?_
    have hpl := pan_len (a0.1, a0.2)
    cases h0 : (decide ((v9 : Int) < (((F60 (a0.1, a0.2)).1.length : Nat) : Int))) with
    | true =>
     have q0 := of_decide_eq_true h0
     have e := Eq.refl (S48_f50_0 a0 a1 (v8, v9)); conv at e => rhs; simp only [S48_f50_0, h0, cond_true, cond_false]
     rw [loopF_s, e]
     refine en [.d h0, .i v9 ((F60 (a0.1, a0.2)).1.length), .L c62_len (F60 (a0.1, a0.2)).1 v9 0 9] [.slot 13 2] [1, 2, 8, 10, 12, 13, 26, 27, 28, 32, 33, 34] [2, 3, 4, 5] hcx B48_f50_1 (K48_f50_1 n) (st48_f50_1 a0 a1 (flat c88 v8) (v8.length) (flat c39 ([] : List (Int × Int))) 0 v9 0 (((F60 (a0.1, a0.2)).1.getD (Int.toNat v9) default).1.1) (((F60 (a0.1, a0.2)).1.getD (Int.toNat v9) default).1.2.1) (((F60 (a0.1, a0.2)).1.getD (Int.toNat v9) default).1.2.2) (((F60 (a0.1, a0.2)).1.getD (Int.toNat v9) default).2.1.1) (((F60 (a0.1, a0.2)).1.getD (Int.toNat v9) default).2.1.2.1) (((F60 (a0.1, a0.2)).1.getD (Int.toNat v9) default).2.1.2.2) (((F60 (a0.1, a0.2)).1.getD (Int.toNat v9) default).2.2.1) (((F60 (a0.1, a0.2)).1.getD (Int.toNat v9) default).2.2.2.1) (((F60 (a0.1, a0.2)).1.getD (Int.toNat v9) default).2.2.2.2)) (Int.toNat ((((F60 (a0.1, a0.2)).1.length : Nat) : Int) - 0) + 1) (by kernel_rfl) ?_
     exact L48_f50_1 a0 a1 l0_1 l0_2 hcx n ih (Int.toNat ((((F60 (a0.1, a0.2)).1.length : Nat) : Int) - 0) + 1) v8 ([] : List (Int × Int)) v9 0 (((F60 (a0.1, a0.2)).1.getD (Int.toNat v9) default).1.1) (((F60 (a0.1, a0.2)).1.getD (Int.toNat v9) default).1.2.1) (((F60 (a0.1, a0.2)).1.getD (Int.toNat v9) default).1.2.2) (((F60 (a0.1, a0.2)).1.getD (Int.toNat v9) default).2.1.1) (((F60 (a0.1, a0.2)).1.getD (Int.toNat v9) default).2.1.2.1) (((F60 (a0.1, a0.2)).1.getD (Int.toNat v9) default).2.1.2.2) (((F60 (a0.1, a0.2)).1.getD (Int.toNat v9) default).2.2.1) (((F60 (a0.1, a0.2)).1.getD (Int.toNat v9) default).2.2.2.1) (((F60 (a0.1, a0.2)).1.getD (Int.toNat v9) default).2.2.2.2) (by refine ⟨?_, ?_, ?_, ?_, ?_, ?_, ?_, ?_, ?_, ?_, ?_⟩ <;> (try simp only [List.length_append, List.length_cons, List.length_nil, Int.toNat_zero]) <;> first | omega | assumption | exact hi.2.1 | exact hi.2.2.1 | exact hi.2.2.2.1 | exact hi.2.2.2.2.1 | exact hi.2.2.2.2.2.1 | exact hi.2.2.2.2.2.2.1 | exact hi.2.2.2.2.2.2.2.1 | exact hi.2.2.2.2.2.2.2.2.1 | exact hi.2.2.2.2.2.2.2.2.2.1 | exact hi.2.2.2.2.2.2.2.2.2.2.1 | simp) (by (try simp only [List.length_append, List.length_cons, List.length_nil, Int.toNat_zero]); omega)
    | false =>
     have q0 := of_decide_eq_false h0
     have e := Eq.refl (S48_f50_0 a0 a1 (v8, v9)); conv at e => rhs; simp only [S48_f50_0, h0, cond_true, cond_false]
     rw [loopF_s, e]
     exact rt [.d h0] [] [3] hcx (by kernel_rfl)

/-- facet/hold.table at ('f50',) -/
def F48_f50 (a0 : (List (Int × Int × Int)) × List (Int × Int × Int)) (a1 : Int) : (List (List (Int × Int))) × Int :=
  (bif (((F60 (a0.1, a0.2)).2 : Int) != 0) then
   (([] : List (List (Int × Int))), (F60 (a0.1, a0.2)).2)
  else
   (loopF (S48_f50_0 a0 a1) (Int.toNat ((((F60 (a0.1, a0.2)).1.length : Nat) : Int) - 0) + 1) (([] : List (List (Int × Int))), 0)))

theorem C48_f50 (a0 : (List (Int × Int × Int)) × List (Int × Int × Int)) (a1 : Int) (l0_1 : a0.1.length ≤ 9223372036854775807) (l0_2 : a0.2.length ≤ 9223372036854775807) : Con Try.prog 48 [(.a [(.s 0 0 a0.1.length 3), (.s 1 0 a0.2.length 3)]), (iv a1), (.v (.func (.func 50) #[] #[]))] [(.live false true (flat c37 a0.1)), (.live false true (flat c46 a0.2))] (.t [(.s 2 0 (F48_f50 a0 a1).1.length 1), (iv (F48_f50 a0 a1).2)]) [(.live true true (flat c88 (F48_f50 a0 a1).1))] := by
  refine con_s Try.func48 (by kernel_rfl) fun cx hcx => ?_
  have hpl := pan_len (a0.1, a0.2)
  let t0 : List (St Try.prog) := [.c [0, 1] (C60 (a0.1, a0.2) (by (try simp only [List.length_append, List.length_cons, List.length_nil, Int.toNat_zero]); omega) (by (try simp only [List.length_append, List.length_cons, List.length_nil, Int.toNat_zero]); omega))]
  cases h0 : (((F60 (a0.1, a0.2)).2 : Int) != 0) with
  | true =>
   have q0 := bne_iff_ne.1 h0
   have e := Eq.refl (F48_f50 a0 a1); conv at e => rhs; simp only [F48_f50, h0, cond_true, cond_false]
   rw [e]
   exact rt (t0 ++ [.d h0]) [.slot 6 1] [4] hcx (by kernel_rfl)
  | false =>
   have q0 := bne_eq_false_iff_eq.1 h0
   have e := Eq.refl (F48_f50 a0 a1); conv at e => rhs; simp only [F48_f50, h0, cond_true, cond_false]
   rw [e]
   refine en (t0 ++ [.d h0]) [.slot 10 1] [1, 2, 8, 10, 26, 27, 28] [3, 4] hcx B48_f50_0 (K48_f50_0) (st48_f50_0 a0 a1 (flat c88 ([] : List (List (Int × Int)))) 0 0) (Int.toNat ((((F60 (a0.1, a0.2)).1.length : Nat) : Int) - 0) + 1) (by kernel_rfl) ?_
   exact L48_f50_0 a0 a1 l0_1 l0_2 hcx (Int.toNat ((((F60 (a0.1, a0.2)).1.length : Nat) : Int) - 0) + 1) ([] : List (List (Int × Int))) 0 (by refine ⟨?_, ?_, ?_⟩ <;> (try simp only [List.length_append, List.length_cons, List.length_nil, Int.toNat_zero]) <;> first | omega | assumption | simp) (by (try simp only [List.length_append, List.length_cons, List.length_nil, Int.toNat_zero]); omega)

noncomputable def B52_L_L_0 : Code := (loopAtD [1, 1, 0, 1] [] (bodyOf Try.f52) []).1
noncomputable def K52_L_L_0 : List K := (loopAtD [1, 1, 0, 1] [] (bodyOf Try.f52) []).2

def st52_L_L_0 (a0 : List (List (Int × Int))) (a1 : List (Int)) (v2c : List SV) (v2n : Nat) (v3 : Int) : LS := ⟨slN 32 [(1, (.s 1 0 a1.length 1)), (6, (.s 2 0 v2n 2)), (11, (.s 0 0 a0.length 1)), (12, (iv ((a0.length : Nat) : Int))), (13, (iv v3))], [(.live false true (flat c88 a0)), (.live false true (flat c3 a1)), (.live true true v2c)]⟩

/-- a round of loop 0 of facet/hold.potentials; the variables: v2 = s6, v3 = s13 -/
def S52_L_L_0 (a0 : List (List (Int × Int))) (a1 : List (Int)) : (List (Int × Int)) × Int → ((List (Int × Int)) × Int) ⊕ ((List (Int × Int)) × Int)
  | (v2, v3) =>
   (bif (decide ((v3 : Int) < ((a0.length : Nat) : Int))) then
    (bif (((F66_L_L (a0.getD (Int.toNat v3) default) a1).2 : Int) != 0) then
     (.inr (([] : List (Int × Int)), (F66_L_L (a0.getD (Int.toNat v3) default) a1).2))
    else
     (.inl ((v2 ++ [(F66_L_L (a0.getD (Int.toNat v3) default) a1).1]), (v3 + 1))))
   else
    (.inr (v2, 0)))

set_option maxHeartbeats 4000000 in
theorem L52_L_L_0 (a0 : List (List (Int × Int))) (a1 : List (Int)) (l0 : a0.length ≤ 9223372036854775807) (l1 : a1.length ≤ 9223372036854775807) (hr : ∀ r ∈ a0, r.length ≤ a1.length) (hn : a0.length ≤ 96) (hm : a1.length ≤ 96) {cx : Cx} (hcx : cx.base = 2) : ∀ (n : Nat) (v2 : List (Int × Int)) (v3 : Int), (0 ≤ v3) ∧ (v2.length = Int.toNat v3) ∧ (v3 ≤ a0.length) → Int.toNat (((a0.length : Nat) : Int) - v3) < n → Aw.Good Try.prog none 9 (bodyPost Try.prog Try.f52 (RR cx (.t [(.s 2 0 (loopF (S52_L_L_0 a0 a1) n (v2, v3)).1.length 2), (iv (loopF (S52_L_L_0 a0 a1) n (v2, v3)).2)]) [(.live true true (flat c39 (loopF (S52_L_L_0 a0 a1) n (v2, v3)).1))] [])) cx [] (.l B52_L_L_0 n :: K52_L_L_0) (st52_L_L_0 a0 a1 (flat c39 v2) v2.length v3) := by
  intro n
  induction n with
  | zero => intro v2 v3 hi hn; exact absurd hn (Nat.not_lt_zero _)
  | succ n ih =>
    intro v2 v3 hi hn
    refine good_round ?_
    have hrl := row_le hr v3
    cases h0 : (decide ((v3 : Int) < ((a0.length : Nat) : Int))) with
    | true =>
     have q0 := of_decide_eq_true h0
     let t1 : List (St Try.prog) := [.d h0, .i v3 (a0.length), .L c88_len a0 v3 0 1, .p (d_plain (c := c39) (fun _ => rfl) (a0.getD (Int.toNat v3) default)), .c [3, 1] (C66_L_L (a0.getD (Int.toNat v3) default) a1 (by (try simp only [List.length_append, List.length_cons, List.length_nil, Int.toNat_zero]); omega) (by (try simp only [List.length_append, List.length_cons, List.length_nil, Int.toNat_zero]); omega) (by omega) (by omega))]
     cases h1 : (((F66_L_L (a0.getD (Int.toNat v3) default) a1).2 : Int) != 0) with
     | true =>
      have q1 := bne_iff_ne.1 h1
      have e := Eq.refl (S52_L_L_0 a0 a1 (v2, v3)); conv at e => rhs; simp only [S52_L_L_0, h0, h1, cond_true, cond_false]
      rw [loopF_s, e]
      exact rt (t1 ++ [.d h1]) [.slot 4 2] [5] hcx (by kernel_rfl)
     | false =>
      have q1 := bne_eq_false_iff_eq.1 h1
      have e := Eq.refl (S52_L_L_0 a0 a1 (v2, v3)); conv at e => rhs; simp only [S52_L_L_0, h0, h1, cond_true, cond_false]
      rw [loopF_inl e]
      refine ba (t1 ++ [.d h1, .p (show ((flat c39 v2).length = v2.length * 2 ∧ v2.length + 1 ≤ 2 ^ 40 ∧ (v2.length + 1) * 16 ≤ 2 ^ 47) from app_ok c39_len (by omega) (by omega))]) [] [1, 6, 11, 12, 13] [6] hcx (m := n) B52_L_L_0 (K52_L_L_0) (st52_L_L_0 a0 a1 (flat c39 v2 ++ (k2 (F66_L_L (a0.getD (Int.toNat v3) default) a1).1)) (v2.length + 1) (W (v3 + 1))) (by kernel_rfl) ?_
      have z0 : (W (v3 + 1)) = (v3 + 1) := W_eq (by omega) (by omega)
      have z1 : (flat c39 v2 ++ (k2 (F66_L_L (a0.getD (Int.toNat v3) default) a1).1)) = (flat c39 (v2 ++ [(F66_L_L (a0.getD (Int.toNat v3) default) a1).1])) := (flat_append (c := c39) (l := v2) (m := [(F66_L_L (a0.getD (Int.toNat v3) default) a1).1])).symm
      have z2 : (v2.length + 1) = (v2 ++ [(F66_L_L (a0.getD (Int.toNat v3) default) a1).1]).length := len_app v2 [(F66_L_L (a0.getD (Int.toNat v3) default) a1).1] rfl
      rw [z0, z1, z2]
      exact ih (v2 ++ [(F66_L_L (a0.getD (Int.toNat v3) default) a1).1]) (v3 + 1) (by refine ⟨?_, ?_, ?_⟩ <;> (try simp only [List.length_append, List.length_cons, List.length_nil, Int.toNat_zero]) <;> first | omega | assumption | simp) (by (try simp only [List.length_append, List.length_cons, List.length_nil, Int.toNat_zero]); omega)
    | false =>
     have q0 := of_decide_eq_false h0
     have e := Eq.refl (S52_L_L_0 a0 a1 (v2, v3)); conv at e => rhs; simp only [S52_L_L_0, h0, cond_true, cond_false]
     rw [loopF_s, e]
     exact rt [.d h0] [] [2] hcx (by kernel_rfl)

/-- facet/hold.potentials at ('L', 'L') -/
def F52_L_L (a0 : List (List (Int × Int))) (a1 : List (Int)) : (List (Int × Int)) × Int :=
  (loopF (S52_L_L_0 a0 a1) (Int.toNat (((a0.length : Nat) : Int) - 0) + 1) (([] : List (Int × Int)), 0))

theorem C52_L_L (a0 : List (List (Int × Int))) (a1 : List (Int)) (l0 : a0.length ≤ 9223372036854775807) (l1 : a1.length ≤ 9223372036854775807) (hr : ∀ r ∈ a0, r.length ≤ a1.length) (hn : a0.length ≤ 96) (hm : a1.length ≤ 96) : Con Try.prog 52 [(.s 0 0 a0.length 1), (.s 1 0 a1.length 1)] [(.live false true (flat c88 a0)), (.live false true (flat c3 a1))] (.t [(.s 2 0 (F52_L_L a0 a1).1.length 2), (iv (F52_L_L a0 a1).2)]) [(.live true true (flat c39 (F52_L_L a0 a1).1))] := by
  refine con_s Try.func52 (by kernel_rfl) fun cx hcx => ?_
  have e := Eq.refl (F52_L_L a0 a1); conv at e => rhs; simp only [F52_L_L]
  rw [e]
  refine en [] [.slot 6 2] [1, 6, 11, 12, 13] [2] hcx B52_L_L_0 (K52_L_L_0) (st52_L_L_0 a0 a1 (flat c39 ([] : List (Int × Int))) 0 0) (Int.toNat (((a0.length : Nat) : Int) - 0) + 1) (by kernel_rfl) ?_
  exact L52_L_L_0 a0 a1 l0 l1 hr hn hm hcx (Int.toNat (((a0.length : Nat) : Int) - 0) + 1) ([] : List (Int × Int)) 0 (by refine ⟨?_, ?_, ?_⟩ <;> (try simp only [List.length_append, List.length_cons, List.length_nil, Int.toNat_zero]) <;> first | omega | assumption | simp) (by (try simp only [List.length_append, List.length_cons, List.length_nil, Int.toNat_zero]); omega)

noncomputable def B54_L_L_1 : Code := (loopAtD [1, 1, 1, 0, 1, 0, 1, 1, 0, 1, 1] [0] (bodyOf Try.f54) []).1
noncomputable def K54_L_L_1 (m0 : Nat) : List K := (loopAtD [1, 1, 1, 0, 1, 0, 1, 1, 0, 1, 1] [m0] (bodyOf Try.f54) []).2

def st54_L_L_1 (a0 : List (List (Int × Int))) (a1 : List (Int)) (v14c : List SV) (v14n : Nat) (v15c : List SV) (v15n : Nat) (v16 : Int) (v17 : Int) (v18 : Int) (v19 : Int) : LS := ⟨slN 49 [(0, (.s 0 0 a0.length 1)), (1, (.s 1 0 a1.length 1)), (4, (.p 2 0)), (6, (.s 3 0 v14n 2)), (7, (.s 4 0 v15n 1)), (8, (iv v16)), (9, (iv v17)), (12, (.s 1 0 a1.length 1)), (13, (iv ((a1.length : Nat) : Int))), (14, (iv v18)), (19, (.s 1 0 a1.length 1)), (20, (iv ((a1.length : Nat) : Int))), (21, (iv v19))], [(.live false true (flat c88 a0)), (.live false true (flat c3 a1)), (.live true false [(iv 0), (iv 0)]), (.live true true v14c), (.live true true v15c)]⟩

/-- a round of loop 1 of facet/hold.energy; the variables: v14 = s6, v15 = s7, v16 = s8, v17 = s9, v18 = s14, v19 = s21 -/
def S54_L_L_1 (a0 : List (List (Int × Int))) (a1 : List (Int)) : (List (Int × Int)) × List (Int) × Int × Int × Int × Int → ((List (Int × Int)) × List (Int) × Int × Int × Int × Int) ⊕ (((List (Int × Int)) × List (Int) × Int) ⊕ ((Int × Int) × Int))
  | (v14, v15, v16, v17, v18, v19) =>
   (bif (decide ((v19 : Int) < ((a1.length : Nat) : Int))) then
    (.inl ((v14 ++ [((a0.getD (Int.toNat v19) default).getD (Int.toNat v16) default)]), (v15 ++ [(W (v17 * (a1.getD (Int.toNat v19) default)))]), v16, v17, v18, (v19 + 1)))
   else
    (.inr (.inl (v14, v15, (v18 + 1)))))

noncomputable def B54_L_L_0 : Code := (loopAtD [1, 1, 1, 0, 1] [] (bodyOf Try.f54) []).1
noncomputable def K54_L_L_0 : List K := (loopAtD [1, 1, 1, 0, 1] [] (bodyOf Try.f54) []).2

def st54_L_L_0 (a0 : List (List (Int × Int))) (a1 : List (Int)) (v11c : List SV) (v11n : Nat) (v12c : List SV) (v12n : Nat) (v13 : Int) : LS := ⟨slN 49 [(0, (.s 0 0 a0.length 1)), (1, (.s 1 0 a1.length 1)), (4, (.p 2 0)), (6, (.s 3 0 v11n 2)), (7, (.s 4 0 v12n 1)), (12, (.s 1 0 a1.length 1)), (13, (iv ((a1.length : Nat) : Int))), (14, (iv v13))], [(.live false true (flat c88 a0)), (.live false true (flat c3 a1)), (.live true false [(iv 0), (iv 0)]), (.live true true v11c), (.live true true v12c)]⟩

/-- a round of loop 0 of facet/hold.energy; the variables: v11 = s6, v12 = s7, v13 = s14 -/
def S54_L_L_0 (a0 : List (List (Int × Int))) (a1 : List (Int)) : (List (Int × Int)) × List (Int) × Int → ((List (Int × Int)) × List (Int) × Int) ⊕ ((Int × Int) × Int)
  | (v11, v12, v13) =>
   (bif (decide ((v13 : Int) < ((a1.length : Nat) : Int))) then
    (loopF (S54_L_L_1 a0 a1) (Int.toNat (((a1.length : Nat) : Int) - 0) + 1) (v11, v12, v13, (a1.getD (Int.toNat v13) default), v13, 0))
   else
    (.inr ((F66_L_L v11 v12).1, (F66_L_L v11 v12).2)))

set_option maxHeartbeats 4000000 in
theorem L54_L_L_1 (a0 : List (List (Int × Int))) (a1 : List (Int)) (l0 : a0.length ≤ 9223372036854775807) (l1 : a1.length ≤ 9223372036854775807) (hl : a0.length = a1.length) (hr : ∀ r ∈ a0, r.length = a1.length) (hm : a1.length ≤ 96) {cx : Cx} (hcx : cx.base = 2)
    (n0 : Nat) (g0 : ∀ (v11 : List (Int × Int)) (v12 : List (Int)) (v13 : Int), (0 ≤ v13) ∧ (v11.length ≤ 96 * Int.toNat v13) ∧ (v12.length = v11.length) ∧ (v13 ≤ a1.length) → Int.toNat (((a1.length : Nat) : Int) - v13) < n0 → Aw.Good Try.prog none 9 (bodyPost Try.prog Try.f54 (RR cx (.t [(.a (k2 (loopF (S54_L_L_0 a0 a1) n0 (v11, v12, v13)).1)), (iv (loopF (S54_L_L_0 a0 a1) n0 (v11, v12, v13)).2)]) [] [])) cx [] (.l B54_L_L_0 n0 :: K54_L_L_0) (st54_L_L_0 a0 a1 (flat c39 v11) v11.length (flat c3 v12) v12.length v13)) : ∀ (n : Nat) (v14 : List (Int × Int)) (v15 : List (Int)) (v16 : Int) (v17 : Int) (v18 : Int) (v19 : Int), (0 ≤ v19) ∧ (v14.length ≤ 96 * Int.toNat v18 + Int.toNat v19) ∧ (v15.length = v14.length) ∧ (0 ≤ v16) ∧ (v16 < a1.length) ∧ (0 ≤ v18) ∧ (v18 < a1.length) ∧ (v19 ≤ a1.length) ∧ ((0 ≤ v18)) ∧ ((v15.length = v14.length)) ∧ ((v18 ≤ a1.length)) ∧ (v18 < ((a1.length : Nat) : Int)) ∧ (Int.toNat (((a1.length : Nat) : Int) - v18) < n0 + 1) → Int.toNat (((a1.length : Nat) : Int) - v19) < n → Aw.Good Try.prog none 9 (bodyPost Try.prog Try.f54 (RR cx (.t [(.a (k2 (thenF (S54_L_L_0 a0 a1) n0 (loopF (S54_L_L_1 a0 a1) n (v14, v15, v16, v17, v18, v19))).1)), (iv (thenF (S54_L_L_0 a0 a1) n0 (loopF (S54_L_L_1 a0 a1) n (v14, v15, v16, v17, v18, v19))).2)]) [] [])) cx [] (.l B54_L_L_1 n :: K54_L_L_1 n0) (st54_L_L_1 a0 a1 (flat c39 v14) v14.length (flat c3 v15) v15.length v16 v17 v18 v19) := by
  intro n
  induction n with
  | zero => intro v14 v15 v16 v17 v18 v19 hi hn; exact absurd hn (Nat.not_lt_zero _)
  | succ n ih =>
    intro v14 v15 v16 v17 v18 v19 hi hn
    refine good_round ?_
    have hrl := row_im hr v19
    cases h0 : (decide ((v19 : Int) < ((a1.length : Nat) : Int))) with
    | true =>
     have q0 := of_decide_eq_true h0
     have e := Eq.refl (S54_L_L_1 a0 a1 (v14, v15, v16, v17, v18, v19)); conv at e => rhs; simp only [S54_L_L_1, h0, cond_true, cond_false]
     rw [loopF_inl e]
     refine ba [.d h0, .i v19 (a1.length), .L c3_len a1 v19 0 1, .i v19 (a0.length), .L c88_len a0 v19 0 1, .p (d_plain (c := c39) (fun _ => rfl) (a0.getD (Int.toNat v19) default)), .i v16 ((a0.getD (Int.toNat v19) default).length), .L c39_len (a0.getD (Int.toNat v19) default) v16 0 2, .p (show ((flat c39 v14).length = v14.length * 2 ∧ v14.length + 1 ≤ 2 ^ 40 ∧ (v14.length + 1) * 16 ≤ 2 ^ 47) from app_ok c39_len (by omega) (by omega)), .p (show ((flat c3 v15).length = v15.length * 1 ∧ v15.length + 1 ≤ 2 ^ 40 ∧ (v15.length + 1) * 8 ≤ 2 ^ 47) from app_ok c3_len (by omega) (by omega))] [] [0, 1, 4, 6, 7, 8, 9, 12, 13, 14, 19, 20, 21] [2, 7, 9] hcx (m := n) B54_L_L_1 (K54_L_L_1 n0) (st54_L_L_1 a0 a1 (flat c39 v14 ++ (k2 ((a0.getD (Int.toNat v19) default).getD (Int.toNat v16) default))) (v14.length + 1) (flat c3 v15 ++ [(iv (W (v17 * (a1.getD (Int.toNat v19) default))))]) (v15.length + 1) v16 v17 v18 (W (v19 + 1))) (by kernel_rfl) ?_
     have z0 : (W (v19 + 1)) = (v19 + 1) := W_eq (by omega) (by omega)
     have z1 : (flat c39 v14 ++ (k2 ((a0.getD (Int.toNat v19) default).getD (Int.toNat v16) default))) = (flat c39 (v14 ++ [((a0.getD (Int.toNat v19) default).getD (Int.toNat v16) default)])) := (flat_append (c := c39) (l := v14) (m := [((a0.getD (Int.toNat v19) default).getD (Int.toNat v16) default)])).symm
     have z2 : (v14.length + 1) = (v14 ++ [((a0.getD (Int.toNat v19) default).getD (Int.toNat v16) default)]).length := len_app v14 [((a0.getD (Int.toNat v19) default).getD (Int.toNat v16) default)] rfl
     have z3 : (flat c3 v15 ++ [(iv (W (v17 * (a1.getD (Int.toNat v19) default))))]) = (flat c3 (v15 ++ [(W (v17 * (a1.getD (Int.toNat v19) default)))])) := (flat_append (c := c3) (l := v15) (m := [(W (v17 * (a1.getD (Int.toNat v19) default)))])).symm
     have z4 : (v15.length + 1) = (v15 ++ [(W (v17 * (a1.getD (Int.toNat v19) default)))]).length := len_app v15 [(W (v17 * (a1.getD (Int.toNat v19) default)))] rfl
     rw [z0, z1, z2, z3, z4]
     exact ih (v14 ++ [((a0.getD (Int.toNat v19) default).getD (Int.toNat v16) default)]) (v15 ++ [(W (v17 * (a1.getD (Int.toNat v19) default)))]) v16 v17 v18 (v19 + 1) (by refine ⟨?_, ?_, ?_, ?_, ?_, ?_, ?_, ?_, ?_, ?_, ?_, ?_, ?_⟩ <;> (try simp only [List.length_append, List.length_cons, List.length_nil, Int.toNat_zero]) <;> first | omega | assumption | exact hi.2.1 | exact hi.2.2.1 | exact hi.2.2.2.1 | exact hi.2.2.2.2.1 | exact hi.2.2.2.2.2.1 | exact hi.2.2.2.2.2.2.1 | exact hi.2.2.2.2.2.2.2.1 | exact hi.2.2.2.2.2.2.2.2.1 | exact hi.2.2.2.2.2.2.2.2.2.1 | exact hi.2.2.2.2.2.2.2.2.2.2.1 | exact hi.2.2.2.2.2.2.2.2.2.2.2.1 | exact hi.2.2.2.2.2.2.2.2.2.2.2.2.1 | simp) (by (try simp only [List.length_append, List.length_cons, List.length_nil, Int.toNat_zero]); omega)
    | false =>
     have q0 := of_decide_eq_false h0
     have e := Eq.refl (S54_L_L_1 a0 a1 (v14, v15, v16, v17, v18, v19)); conv at e => rhs; simp only [S54_L_L_1, h0, cond_true, cond_false]
     rw [loopF_s, e]
     refine ba [.d h0] [] [0, 1, 4, 6, 7, 12, 13, 14] [2, 3, 4] hcx (m := n0) B54_L_L_0 (K54_L_L_0) (st54_L_L_0 a0 a1 (flat c39 v14) (v14.length) (flat c3 v15) (v15.length) (W (v18 + 1))) (by kernel_rfl) ?_
     have z0 : (W (v18 + 1)) = (v18 + 1) := W_eq (by omega) (by omega)
     rw [z0]
     exact g0 v14 v15 (v18 + 1) (by refine ⟨?_, ?_, ?_, ?_⟩ <;> (try simp only [List.length_append, List.length_cons, List.length_nil, Int.toNat_zero]) <;> first | omega | assumption | simp) (by (try simp only [List.length_append, List.length_cons, List.length_nil, Int.toNat_zero]); omega)

set_option maxHeartbeats 4000000 in
theorem L54_L_L_0 (a0 : List (List (Int × Int))) (a1 : List (Int)) (l0 : a0.length ≤ 9223372036854775807) (l1 : a1.length ≤ 9223372036854775807) (hl : a0.length = a1.length) (hr : ∀ r ∈ a0, r.length = a1.length) (hm : a1.length ≤ 96) {cx : Cx} (hcx : cx.base = 2) : ∀ (n : Nat) (v11 : List (Int × Int)) (v12 : List (Int)) (v13 : Int), (0 ≤ v13) ∧ (v11.length ≤ 96 * Int.toNat v13) ∧ (v12.length = v11.length) ∧ (v13 ≤ a1.length) → Int.toNat (((a1.length : Nat) : Int) - v13) < n → Aw.Good Try.prog none 9 (bodyPost Try.prog Try.f54 (RR cx (.t [(.a (k2 (loopF (S54_L_L_0 a0 a1) n (v11, v12, v13)).1)), (iv (loopF (S54_L_L_0 a0 a1) n (v11, v12, v13)).2)]) [] [])) cx [] (.l B54_L_L_0 n :: K54_L_L_0) (st54_L_L_0 a0 a1 (flat c39 v11) v11.length (flat c3 v12) v12.length v13) := by
  intro n
  induction n with
  | zero => intro v11 v12 v13 hi hn; exact absurd hn (Nat.not_lt_zero _)
  | succ n ih =>
    intro v11 v12 v13 hi hn
    refine good_round ?_
    cases h0 : (decide ((v13 : Int) < ((a1.length : Nat) : Int))) with
    | true =>
     have q0 := of_decide_eq_true h0
     have e := Eq.refl (S54_L_L_0 a0 a1 (v11, v12, v13)); conv at e => rhs; simp only [S54_L_L_0, h0, cond_true, cond_false]
     rw [loopF_s, e]
     refine en [.d h0, .i v13 (a1.length), .L c3_len a1 v13 0 1] [] [0, 1, 4, 6, 7, 8, 9, 12, 13, 14, 19, 20, 21] [2, 3, 4] hcx B54_L_L_1 (K54_L_L_1 n) (st54_L_L_1 a0 a1 (flat c39 v11) (v11.length) (flat c3 v12) (v12.length) v13 (a1.getD (Int.toNat v13) default) v13 0) (Int.toNat (((a1.length : Nat) : Int) - 0) + 1) (by kernel_rfl) ?_
     exact L54_L_L_1 a0 a1 l0 l1 hl hr hm hcx n ih (Int.toNat (((a1.length : Nat) : Int) - 0) + 1) v11 v12 v13 (a1.getD (Int.toNat v13) default) v13 0 (by refine ⟨?_, ?_, ?_, ?_, ?_, ?_, ?_, ?_, ?_, ?_, ?_, ?_, ?_⟩ <;> (try simp only [List.length_append, List.length_cons, List.length_nil, Int.toNat_zero]) <;> first | omega | assumption | exact hi.2.1 | exact hi.2.2.1 | exact hi.2.2.2.1 | exact hi.2.2.2.2.1 | exact hi.2.2.2.2.2.1 | exact hi.2.2.2.2.2.2.1 | exact hi.2.2.2.2.2.2.2.1 | exact hi.2.2.2.2.2.2.2.2.1 | exact hi.2.2.2.2.2.2.2.2.2.1 | exact hi.2.2.2.2.2.2.2.2.2.2.1 | exact hi.2.2.2.2.2.2.2.2.2.2.2.1 | exact hi.2.2.2.2.2.2.2.2.2.2.2.2.1 | simp) (by (try simp only [List.length_append, List.length_cons, List.length_nil, Int.toNat_zero]); omega)
    | false =>
     have q0 := of_decide_eq_false h0
     have e := Eq.refl (S54_L_L_0 a0 a1 (v11, v12, v13)); conv at e => rhs; simp only [S54_L_L_0, h0, cond_true, cond_false]
     rw [loopF_s, e]
     exact rt [.d h0, .c [3, 4] (C66_L_L v11 v12 (by (try simp only [List.length_append, List.length_cons, List.length_nil, Int.toNat_zero]); omega) (by (try simp only [List.length_append, List.length_cons, List.length_nil, Int.toNat_zero]); omega) (by omega) (by omega))] [] [] hcx (by kernel_rfl)

/-- facet/hold.energy at ('L', 'L') -/
def F54_L_L (a0 : List (List (Int × Int))) (a1 : List (Int)) : (Int × Int) × Int :=
  (loopF (S54_L_L_0 a0 a1) (Int.toNat (((a1.length : Nat) : Int) - 0) + 1) (([] : List (Int × Int)), ([] : List (Int)), 0))

theorem C54_L_L (a0 : List (List (Int × Int))) (a1 : List (Int)) (l0 : a0.length ≤ 9223372036854775807) (l1 : a1.length ≤ 9223372036854775807) (hl : a0.length = a1.length) (hr : ∀ r ∈ a0, r.length = a1.length) (hm : a1.length ≤ 96) : Con Try.prog 54 [(.s 0 0 a0.length 1), (.s 1 0 a1.length 1)] [(.live false true (flat c88 a0)), (.live false true (flat c3 a1))] (.t [(.a (k2 (F54_L_L a0 a1).1)), (iv (F54_L_L a0 a1).2)]) [] := by
  refine con_s Try.func54 (by kernel_rfl) fun cx hcx => ?_
  have e := Eq.refl (F54_L_L a0 a1); conv at e => rhs; simp only [F54_L_L]
  rw [e]
  refine en [] [.slot 6 2, .slot 7 1] [0, 1, 4, 6, 7, 12, 13, 14] [2, 3, 4] hcx B54_L_L_0 (K54_L_L_0) (st54_L_L_0 a0 a1 (flat c39 ([] : List (Int × Int))) 0 (flat c3 ([] : List (Int))) 0 0) (Int.toNat (((a1.length : Nat) : Int) - 0) + 1) (by kernel_rfl) ?_
  exact L54_L_L_0 a0 a1 l0 l1 hl hr hm hcx (Int.toNat (((a1.length : Nat) : Int) - 0) + 1) ([] : List (Int × Int)) ([] : List (Int)) 0 (by refine ⟨?_, ?_, ?_, ?_⟩ <;> (try simp only [List.length_append, List.length_cons, List.length_nil, Int.toNat_zero]) <;> first | omega | assumption | simp) (by (try simp only [List.length_append, List.length_cons, List.length_nil, Int.toNat_zero]); omega)

end Go.Proofs.Ythpgabaeefifbaa

namespace Go.Proofs.Ythpgabaeefifbaa
open Go.Proofs Go.Aw Go.RowKit
set_option maxRecDepth 100000
set_option linter.unusedVariables false
set_option linter.unusedSimpArgs false

/-! ### Tables -/
abbrev TB := List (List (Int × Int))
theorem tab_gen {S1 : TB × List (Int × Int) × Int × Int × Int × Int × Int × Int × Int × Int × Int × Int × Int → (TB × List (Int × Int) × Int × Int × Int × Int × Int × Int × Int × Int × Int × Int × Int) ⊕ ((TB × Int) ⊕ (TB × Int))} {S0 : TB × Int → (TB × Int) ⊕ (TB × Int)}
    (L : List PN) (of : PN → PN → (Int × Int) × Int) (hof : ∀ p ∈ L, ∀ q ∈ L, (of p q).2 = 0)
    (hS1 : ∀ (out : TB) (row : List (Int × Int)) (i j : Int) (q : PN), S1 (out, row, i, j, q.1.1, q.1.2.1, q.1.2.2, q.2.1.1, q.2.1.2.1, q.2.1.2.2, q.2.2.1, q.2.2.2.1, q.2.2.2.2) =
      bif decide (j < ((L.length : Nat) : Int)) then (bif ((of (L.getD (Int.toNat j) default) q).2 != 0) then .inr (.inr ([], (of (L.getD (Int.toNat j) default) q).2)) else .inl (out, row ++ [(of (L.getD (Int.toNat j) default) q).1], i, j + 1, q.1.1, q.1.2.1, q.1.2.2, q.2.1.1, q.2.1.2.1, q.2.1.2.2, q.2.2.1, q.2.2.2.1, q.2.2.2.2)) else .inr (.inl (out ++ [row], i + 1)))
    (hS0 : ∀ (out : TB) (i : Int), S0 (out, i) = bif decide (i < ((L.length : Nat) : Int)) then loopF S1 (Int.toNat (((L.length : Nat) : Int) - 0) + 1) (out, [], i, 0, (L.getD (Int.toNat i) default).1.1, (L.getD (Int.toNat i) default).1.2.1, (L.getD (Int.toNat i) default).1.2.2, (L.getD (Int.toNat i) default).2.1.1, (L.getD (Int.toNat i) default).2.1.2.1, (L.getD (Int.toNat i) default).2.1.2.2, (L.getD (Int.toNat i) default).2.2.1, (L.getD (Int.toNat i) default).2.2.2.1, (L.getD (Int.toNat i) default).2.2.2.2) else .inr (out, 0)) :
    loopF S0 (Int.toNat (((L.length : Nat) : Int) - 0) + 1) ([], 0) = (L.map fun q => L.map fun p => (of p q).1, 0) := by
  have snoc : ∀ {α β : Type} (g : α → β) (l : List α) (v : List β), l.foldl (fun v c => v ++ [g c]) v = v ++ l.map g := by
    intro α β g l
    induction l with
    | nil => intro v; simp
    | cons c l ih => intro v; rw [List.foldl_cons, ih]; simp
  have inner : ∀ (out : TB) (i : Int) (q : PN), q ∈ L → loopF S1 (Int.toNat (((L.length : Nat) : Int) - 0) + 1) (out, [], i, 0, q.1.1, q.1.2.1, q.1.2.2, q.2.1.1, q.2.1.2.1, q.2.1.2.2, q.2.2.1, q.2.2.2.1, q.2.2.2.2) = .inl (out ++ [L.map fun p => (of p q).1], i + 1) := by
    intro out i q hq
    rw [each_loop (fun row j => (out, row, i, j, q.1.1, q.1.2.1, q.1.2.2, q.2.1.1, q.2.1.2.1, q.2.1.2.2, q.2.2.1, q.2.2.2.1, q.2.2.2.2)) (fun row p => .inl (row ++ [(of p q).1])) (fun row => .inl (out ++ [row], i + 1)) (L := L) (fun _ _ => True) ?_ (fun _ _ _ _ _ _ _ => trivial) ?_ (by omega) trivial]
    · rw [foldE_inl, snoc]; rfl
    · intro j c hc row _
      obtain ⟨hlt, hce⟩ := List.getElem?_eq_some_iff.1 hc
      rw [hS1, decide_eq_true (by omega), cond_true, getD_of hc, hof c (List.mem_of_getElem? hc) q hq]
      rfl
    · intro row _
      rw [hS1, decide_eq_false (by omega), cond_false]
  rw [each_loop (fun out i => (out, i)) (fun out q => .inl (out ++ [L.map fun p => (of p q).1])) (fun out => (out, 0)) (L := L) (fun _ _ => True) ?_ (fun _ _ _ _ _ _ _ => trivial) ?_ (by omega) trivial]
  · rw [foldE_inl, snoc]; rfl
  · intro i c hc out _
    obtain ⟨hlt, hce⟩ := List.getElem?_eq_some_iff.1 hc
    rw [hS0, decide_eq_true (by omega), cond_true, getD_of hc, inner out i c (List.mem_of_getElem? hc)]
    rfl
  · intro out _
    rw [hS0, decide_eq_false (by omega), cond_false]
abbrev pans (m : ME) : List PN := m.2.map (F41 m)
theorem pan_v {m : ME} (h : F13 m = 0) : F60 m = (pans m, 0) := by
  rw [pan_f, h]; rfl
theorem tab_b {m : ME} {d : Int} (h : F13 m = 0) (hd : 0 ≤ d ∧ d ≤ 2) : F48_f49 m d = ((pans m).map fun q => (pans m).map fun p => (F49 p q d).1, 0) := by
  have hP := pan_v h
  have g := tab_gen (S1 := S48_f49_1 m d) (S0 := S48_f49_0 m d) (F60 m).1 (fun p q => F49 p q d) (by
    rw [hP]; exact fun p hp q hq => (Between_okP (vld_pk h hd hp hq)).1) (fun out row i j q => rfl) (fun out i => rfl)
  unfold F48_f49
  show (bif ((F60 m).2 != 0) then _ else _) = _
  rw [show ((F60 m).2 != 0) = false from by rw [hP]; rfl, cond_false]
  refine Eq.trans g ?_
  rw [hP]
theorem tab_m {m : ME} {d : Int} (h : F13 m = 0) (hd : 0 ≤ d ∧ d ≤ 2) : F48_f50 m d = ((pans m).map fun q => (pans m).map fun p => (F50 p q d).1, 0) := by
  have hP := pan_v h
  have g := tab_gen (S1 := S48_f50_1 m d) (S0 := S48_f50_0 m d) (F60 m).1 (fun p q => F50 p q d) (by
    rw [hP]; exact fun p hp q hq => (Mutual_okP (vld_pk h hd hp hq)).1) (fun out row i j q => rfl) (fun out i => rfl)
  unfold F48_f50
  show (bif ((F60 m).2 != 0) then _ else _) = _
  rw [show ((F60 m).2 != 0) = false from by rw [hP]; rfl, cond_false]
  refine Eq.trans g ?_
  rw [hP]
/-! ### Charges -/
def okC (q : List Int) : Prop := ∀ c ∈ q, 0 ≤ c ∧ c ≤ 100
def totW (q : List Int) (v : Int) : Int := q.foldl (fun v c => W (v + c)) v
theorem totW_eq : ∀ (q : List Int) (v : Int), okC q → 0 ≤ v → v + 100 * (q.length : Int) ≤ 1000000 → totW q v = v + q.sum ∧ v ≤ v + q.sum ∧ v + q.sum ≤ v + 100 * (q.length : Int)
  | [], v, _, _, _ => by simp [totW]
  | c :: q, v, h, h0, h1 => by
    have hc := h c List.mem_cons_self
    simp only [List.length_cons] at h1
    have ih := totW_eq q (v + c) (fun x hx => h x (List.mem_cons_of_mem _ hx)) (by omega) (by omega)
    have e : totW (c :: q) v = totW q (v + c) := by
      show totW q (W (v + c)) = _
      rw [W_eq (by omega) (by omega)]
    rw [e]
    simp only [List.sum_cons, List.length_cons]
    omega
theorem two_folds : ∀ (q : List Int) (v : Int), (foldE (R := Int) (fun v c => bif (!F14 c 0 100) then .inr 1 else .inl (W (v + c))) q v = .inr 1 ∧ foldE (σ := Unit) (R := Int) (fun _ c => bif (!F14 c 0 100) then .inr 1 else .inl ()) q () = .inr 1) ∨
    (foldE (R := Int) (fun v c => bif (!F14 c 0 100) then .inr 1 else .inl (W (v + c))) q v = .inl (totW q v) ∧ foldE (σ := Unit) (R := Int) (fun _ c => bif (!F14 c 0 100) then .inr 1 else .inl ()) q () = .inl () ∧ okC q)
  | [], v => .inr ⟨rfl, rfl, fun c hc => by simp at hc⟩
  | c :: q, v => by
    simp only [foldE]
    cases hc : (!F14 c 0 100) with
    | true => exact .inl ⟨rfl, rfl⟩
    | false =>
      simp only [cond_false]
      rcases two_folds q (W (v + c)) with h | ⟨h1, h2, h3⟩
      · exact .inl h
      · refine .inr ⟨h1, h2, fun x hx => ?_⟩
        rcases List.mem_cons.1 hx with rfl | hx
        · exact hwin_f hc
        · exact h3 x hx
theorem sum_r (q : List Int) : F17_L q = totW q 0 := by
  unfold F17_L
  rw [each_loop (fun v i => (v, i)) (fun v c => .inl (W (v + c))) (fun v => v) (L := q) (fun _ _ => True) ?_ (fun _ _ _ _ _ _ _ => trivial) ?_ (by omega) trivial]
  · rw [foldE_inl]; rfl
  · intro i c hc v _
    obtain ⟨hlt, hce⟩ := List.getElem?_eq_some_iff.1 hc
    simp only [S17_L_0]
    rw [decide_eq_true (by omega), cond_true, getD_of hc]; rfl
  · intro v _
    simp only [S17_L_0]
    rw [decide_eq_false (by omega), cond_false]
theorem tot_h (q : List Int) : F68_L q = W ((W (totW q 0 * 1048576)) * 1048576) := by
  unfold F68_L
  rw [each_loop (fun v i => (v, i)) (fun v c => .inl (W (v + c))) (fun v => W ((W (v * 1048576)) * 1048576)) (L := q) (fun _ _ => True) ?_ (fun _ _ _ _ _ _ _ => trivial) ?_ (by omega) trivial]
  · rw [foldE_inl]; rfl
  · intro i c hc v _
    obtain ⟨hlt, hce⟩ := List.getElem?_eq_some_iff.1 hc
    simp only [S68_L_0]
    rw [decide_eq_true (by omega), cond_true, getD_of hc]; rfl
  · intro v _
    simp only [S68_L_0]
    rw [decide_eq_false (by omega), cond_false]
noncomputable def chV (m : ME) (q : List Int) : Int := bif ((F13 m : Int) != 0) then F13 m else bif ((((q.length : Nat) : Int) : Int) != ((m.2.length : Nat) : Int)) then 1 else
  outE (fun v => bif (v == 0) then 11 else 0) (foldE (R := Int) (fun v c => bif (!F14 c 0 100) then .inr 1 else .inl (W (v + c))) q 0)
theorem vch_f (m : ME) (q : List Int) : F8_L m q = chV m q := by
  unfold F8_L chV
  show (bif ((F13 m : Int) != 0) then F13 m else _) = _
  congr 1
  congr 1
  refine each_loop (fun v i => (v, i)) _ (fun v => bif (v == 0) then 11 else 0) (L := q) (fun _ _ => True) ?_ (fun _ _ _ _ _ _ _ => trivial) ?_ (by omega) trivial
  · intro i c hc v _
    obtain ⟨hlt, hce⟩ := List.getElem?_eq_some_iff.1 hc
    simp only [S8_L_0]
    rw [decide_eq_true (by omega), cond_true, getD_of hc]
    cases (!F14 c 0 100) <;> rfl
  · intro v _
    simp only [S8_L_0]
    rw [decide_eq_false (by omega), cond_false]
    cases (v == 0) <;> rfl
theorem vch_r (m : ME) (q : List Int) : F9_L m q = chV m q := by
  unfold F9_L chV
  show (bif ((F15 m : Int) != 0) then F15 m else _) = _
  rw [← val_eq]
  congr 1
  congr 1
  refine Eq.trans (each_loop (σ := Unit) (fun _ i => i) (fun _ c => bif (!F14 c 0 100) then .inr 1 else .inl ()) (fun _ => bif (F17_L q == 0) then 11 else 0) (L := q) (v := ()) (fun _ _ => True) ?_ (fun _ _ _ _ _ _ _ => trivial) ?_ (by omega) trivial) ?_
  · intro i c hc v _
    obtain ⟨hlt, hce⟩ := List.getElem?_eq_some_iff.1 hc
    simp only [S9_L_0]
    rw [decide_eq_true (by omega), cond_true, getD_of hc, show F16 c 0 100 = F14 c 0 100 from rfl]
    cases (!F14 c 0 100) <;> rfl
  · intro v _
    simp only [S9_L_0]
    rw [decide_eq_false (by omega), cond_false]
    cases (F17_L q == 0) <;> rfl
  · rcases two_folds q 0 with ⟨h1, h2⟩ | ⟨h1, h2, _⟩
    · rw [h1, h2]; rfl
    · rw [h1, h2, sum_r]; rfl
/-- what right charges are -/
structure ChOK (m : ME) (q : List Int) : Prop where
  v : F13 m = 0
  len : q.length = m.2.length
  ok : okC q
  pos : 1 ≤ q.sum
  le : q.sum ≤ 9600
  n : 1 ≤ m.2.length ∧ m.2.length ≤ 96
  tot : totW q 0 = q.sum
theorem ch_ok {m : ME} {q : List Int} (h : chV m q = 0) : ChOK m q := by
  unfold chV at h
  cases h1 : ((F13 m : Int) != 0) with
  | true => rw [h1, cond_true] at h; exact absurd h (bne_iff_ne.1 h1)
  | false =>
  rw [h1, cond_false] at h
  have hv := bne_eq_false_iff_eq.1 h1
  obtain ⟨_, n1, n2, _, _⟩ := val_parts hv
  cases h2 : ((((q.length : Nat) : Int) : Int) != ((m.2.length : Nat) : Int)) with
  | true => rw [h2, cond_true] at h; exact absurd h (by decide)
  | false =>
  rw [h2, cond_false] at h
  have hl := bne_eq_false_iff_eq.1 h2
  rcases two_folds q 0 with ⟨g1, _⟩ | ⟨g1, _, g3⟩
  · rw [g1] at h; exact absurd h (by decide)
  · rw [g1] at h
    have ht := totW_eq q 0 g3 (Int.le_refl 0) (by omega)
    simp only [outE] at h
    have hne : totW q 0 ≠ 0 := by
      intro e
      rw [e] at h; exact absurd h (by decide)
    exact ⟨hv, by omega, g3, by omega, by omega, ⟨n1, n2⟩, by omega⟩
noncomputable def chD (m : ME) (q : List Int) (d : Int) : Int := bif (chV m q != 0) then chV m q else bif (!F14 d 0 2) then 1 else 0
theorem chk_h (m : ME) (q : List Int) (d : Int) : F36_L m q d = chD m q d := by
  unfold F36_L chD
  rw [show F8_L (m.1, m.2) q = chV m q from vch_f m q]
theorem chD_ok {m : ME} {q : List Int} {d : Int} (h : chD m q d = 0) : ChOK m q ∧ 0 ≤ d ∧ d ≤ 2 := by
  unfold chD at h
  cases h1 : (chV m q != 0) with
  | true => rw [h1, cond_true] at h; exact absurd h (bne_iff_ne.1 h1)
  | false =>
  rw [h1, cond_false] at h
  cases h2 : (!F14 d 0 2) with
  | true => rw [h2, cond_true] at h; exact absurd h (by decide)
  | false => exact ⟨ch_ok (bne_eq_false_iff_eq.1 h1), hwin_f h2⟩
/-- the tables' sizes -/
theorem tab_len {m : ME} {d : Int} {f : PN → PN → Int × Int} {T : TB} {n : Nat} (e : T = (pans m).map fun q => (pans m).map fun p => f p q) (hn : n = m.2.length) : T.length = n ∧ ∀ r ∈ T, r.length = n := by
  subst e hn
  refine ⟨by simp, fun r hr => ?_⟩
  obtain ⟨q, _, rfl⟩ := List.mem_map.1 hr
  simp

end Go.Proofs.Ythpgabaeefifbaa

namespace Go.Proofs.Ythpgabaeefifbaa
open Go.Proofs Go.Aw Go.RowKit
set_option maxRecDepth 100000
set_option linter.unusedVariables false
set_option linter.unusedSimpArgs false

/-! ### Sums of scaled spans -/
noncomputable def sclV (c : (Int × Int) × Int) : (Int × Int) × Int := F85 c.1 c.2
noncomputable def addV (l : List ((Int × Int) × Int)) : (Int × Int) × Int := out8 sumV (fun e => ((0, 0), e)) (shs sclV l [])
theorem okP_vs {a : Int × Int} (h : okP a) : vs a := by unfold okP at h; unfold vs; omega
theorem scl_pos {a : Int × Int} {n : Int} (ha : okP a) (hn : 0 ≤ n ∧ n ≤ 10000) (h : (F85 a n).2 = 0) : n ≤ (F85 a n).1.1 ∧ (F85 a n).1.1 ≤ (F85 a n).1.2 := by
  rw [Scale_f (okP_vs ha) (by omega)] at h ⊢
  unfold okP at ha
  have h1 := sat_mono ha.1 hn.1
  have h2 := sat_mono ha.2.1 hn.1
  have h3 : sat 1 n = n := by unfold sat; rw [Int.one_mul, if_neg (by omega), if_neg (by omega)]
  have e : scl a n = (sat a.1 n, sat a.2 n) := by unfold scl; rw [if_neg (by omega)]
  rw [e] at h ⊢
  rcases res_cases (sat a.1 n) (sat a.2 n) with ⟨g, _⟩ | g
  · rw [g]; simp only; omega
  · rw [g] at h; exact absurd h (by decide)
theorem scl_vs {c : (Int × Int) × Int} (h : (sclV c).2 = 0) : vs (sclV c).1 := scale_vs h
theorem shs_add {l : List ((Int × Int) × Int)} {m : List (Int × Int)} (h : shs sclV l [] = .inl m) (hn : l.length ≤ 9216) : (∀ a ∈ m, vs a) ∧ m.length ≤ 10000 := by
  obtain ⟨e, h0⟩ := shs_inl h
  rw [List.nil_append] at e
  subst e
  exact ⟨fun a ha => by obtain ⟨c, hc, rfl⟩ := List.mem_map.1 ha; exact scl_vs (h0 c hc), by rw [List.length_map]; omega⟩
theorem add_f {xs : List (Int × Int)} {q : List Int} (hl : xs.length ≤ q.length) (hn : xs.length ≤ 9216) : F66_L_L xs q = addV (xs.zip q) := by
  have hz : (xs.zip q).length = xs.length := by rw [List.length_zip]; omega
  unfold F66_L_L addV
  have key := shs_loopF (g := sclV) (S := S66_L_L_0 xs q) (E := fun e => (((0, 0) : Int × Int), e)) (L := xs.zip q) (G := fun l => ((F86_L l).1, (F86_L l).2))
    (fun i c hi l => ?_) (fun l => ?_) (xs.zip q) 0 (Int.toNat (((xs.length : Nat) : Int) - 0) + 1) [] rfl (Nat.zero_le _) (by omega)
  · refine Eq.trans key ?_
    cases hs : shs sclV (xs.zip q) [] with
    | inr r => rfl
    | inl m =>
      obtain ⟨hv, hm⟩ := shs_add hs (by omega)
      simp only [out8]
      rw [Sum_f hv hm]
  · obtain ⟨h1, h2⟩ := List.getElem?_zip_eq_some.1 hi
    have hlt := (List.getElem?_eq_some_iff.1 h1).1
    simp only [S66_L_L_0]
    rw [decide_eq_true (by omega), cond_true, getD_of h1, getD_of h2]
    show _ = bif ((F85 c.1 c.2).2 != 0) then _ else _
    cases ((F85 c.1 c.2).2 != 0) <;> rfl
  · simp only [S66_L_L_0]
    rw [decide_eq_false (by rw [hz]; omega), cond_false]
theorem add_pos {l : List ((Int × Int) × Int)} (hl : ∀ c ∈ l, okP c.1 ∧ 0 ≤ c.2 ∧ c.2 ≤ 10000) (h : (addV l).2 = 0) : (l.map (·.2)).sum ≤ (addV l).1.1 ∧ (addV l).1.1 ≤ (addV l).1.2 ∧ vs (addV l).1 := by
  unfold addV at h ⊢
  cases hs : shs sclV l [] with
  | inr r => rw [hs] at h; exact absurd h (shs_inr hs)
  | inl m =>
    rw [hs] at h
    simp only [out8] at h ⊢
    obtain ⟨e, hv⟩ := sumV_0 h
    rw [e]
    obtain ⟨e2, h0⟩ := shs_inl hs
    rw [List.nil_append] at e2
    refine ⟨?_, hv.2.1, hv⟩
    rw [sums_eq, e2]
    simp only [Int.zero_add, List.map_map]
    clear hs h e hv e2
    induction l with
    | nil => simp
    | cons c l ih =>
      have hc := hl c List.mem_cons_self
      have := scl_pos hc.1 hc.2 (h0 c List.mem_cons_self)
      have ih := ih (fun x hx => hl x (List.mem_cons_of_mem _ hx)) (fun x hx => h0 x (List.mem_cons_of_mem _ hx))
      simp only [List.map_cons, List.sum_cons, Function.comp] at ih ⊢
      have e : (sclV c).1.1 = (F85 c.1 c.2).1.1 := rfl
      omega
/-! ### Potentials -/
noncomputable def potV (T : TB) (q : List Int) : List (Int × Int) × Int := out8 (fun l => (l, 0)) (fun e => ([], e)) (shs (fun r : List (Int × Int) => addV (r.zip q)) T [])
theorem pot_h {T : TB} {q : List Int} (hr : ∀ r ∈ T, r.length ≤ q.length) (hm : q.length ≤ 96) : F52_L_L T q = potV T q := by
  unfold F52_L_L potV
  refine shs_loopF (g := fun r : List (Int × Int) => addV (r.zip q)) (S := S52_L_L_0 T q) (E := fun e => (([] : List (Int × Int)), e)) (L := T) (G := fun l => (l, 0))
    (fun i c hi l => ?_) (fun l => ?_) T 0 (Int.toNat (((T.length : Nat) : Int) - 0) + 1) [] rfl (Nat.zero_le _) (by omega)
  · obtain ⟨hlt, hce⟩ := List.getElem?_eq_some_iff.1 hi
    have hc := hr c (List.mem_of_getElem? hi)
    simp only [S52_L_L_0]
    rw [decide_eq_true (by omega), cond_true, getD_of hi, add_f hc (by omega)]
    cases ((addV (c.zip q)).2 != 0) <;> rfl
  · simp only [S52_L_L_0]
    rw [decide_eq_false (by omega), cond_false]
/-- what the potentials are, where there is no error -/
theorem pot_pos {T : TB} {q : List Int} (hT : ∀ r ∈ T, r.length = q.length ∧ ∀ s ∈ r, okP s) (hq : okC q) (h : (potV T q).2 = 0) :
    (potV T q).1.length = T.length ∧ ∀ s ∈ (potV T q).1, q.sum ≤ s.1 ∧ s.1 ≤ s.2 ∧ vs s := by
  unfold potV at h ⊢
  cases hs : shs (fun r : List (Int × Int) => addV (r.zip q)) T [] with
  | inr r => rw [hs] at h; exact absurd h (shs_inr hs)
  | inl m =>
    simp only [out8]
    obtain ⟨e, h0⟩ := shs_inl hs
    rw [List.nil_append] at e
    subst e
    refine ⟨by rw [List.length_map], fun s hsm => ?_⟩
    obtain ⟨r, hr, rfl⟩ := List.mem_map.1 hsm
    obtain ⟨hl, hP⟩ := hT r hr
    have hp := add_pos (l := r.zip q) (fun c hc => ⟨hP _ (List.of_mem_zip hc).1, by have := hq _ (List.of_mem_zip hc).2; omega⟩) (h0 r hr)
    have : (r.zip q).map (·.2) = q := List.map_snd_zip (by omega)
    rw [this] at hp
    exact hp

end Go.Proofs.Ythpgabaeefifbaa

namespace Go.Proofs.Ythpgabaeefifbaa
open Go.Proofs Go.Aw Go.RowKit
set_option maxRecDepth 100000
set_option linter.unusedVariables false
set_option linter.unusedSimpArgs false

theorem pot_pre {m : ME} {q : List Int} {d : Int} (h : ((F36_L m q d : Int) != 0) = false) : (∀ r ∈ (F48_f49 m d).1, r.length ≤ q.length) ∧ (F48_f49 m d).1.length ≤ 96 ∧ q.length ≤ 96 := by
  rw [chk_h] at h
  obtain ⟨hc, hd⟩ := chD_ok (bne_eq_false_iff_eq.1 h)
  obtain ⟨h1, h2⟩ := tab_len (d := d) (T := (F48_f49 m d).1) (by rw [tab_b hc.v hd]) hc.len.symm.symm
  have := hc.n; have := hc.len
  exact ⟨fun r hr => by rw [h2 r hr]; omega, by omega, by omega⟩
theorem en_pre {m : ME} {q : List Int} {d : Int} (h : ((F36_L m q d : Int) != 0) = false) : (F48_f50 m d).1.length = q.length ∧ (∀ r ∈ (F48_f50 m d).1, r.length = q.length) ∧ q.length ≤ 96 := by
  rw [chk_h] at h
  obtain ⟨hc, hd⟩ := chD_ok (bne_eq_false_iff_eq.1 h)
  obtain ⟨h1, h2⟩ := tab_len (d := d) (T := (F48_f50 m d).1) (by rw [tab_m hc.v hd]) hc.len
  have := hc.n; have := hc.len
  exact ⟨h1, h2, by omega⟩

end Go.Proofs.Ythpgabaeefifbaa

namespace Go.Proofs.Ythpgabaeefifbaa
open Go.Proofs Go.Aw Go.RowKit
set_option maxRecDepth 100000
set_option linter.unusedVariables false
set_option linter.unusedSimpArgs false

/-! ### The potentials of the program and of the document -/
noncomputable def rowB (m : ME) (d : Int) (pj : PN) : List (Int × Int) := (pans m).map fun p => (F49 p pj d).1
end Go.Proofs.Ythpgabaeefifbaa

namespace Go.Proofs.Ythpgabaeefifbaa
open Go.Proofs Go.Aw Go.RowKit
set_option maxRecDepth 100000
set_option linter.unusedVariables false
set_option linter.unusedSimpArgs false

/-! ### The energy of the program and of the document -/
def mapE {γ R : Type} (E : Int → R) : List γ ⊕ Int → List γ ⊕ R
  | .inl m => .inl m
  | .inr e => .inr (E e)
theorem foldl_zip {α β γ : Type} (fx : α → List β) (fy : α → List γ) (hl : ∀ c, (fx c).length = (fy c).length) : ∀ (L : List α) (v : List β × List γ), v.1.length = v.2.length →
    (L.foldl (fun v c => (v.1 ++ fx c, v.2 ++ fy c)) v).1.length = (L.foldl (fun v c => (v.1 ++ fx c, v.2 ++ fy c)) v).2.length ∧
    (L.foldl (fun v c => (v.1 ++ fx c, v.2 ++ fy c)) v).1.zip (L.foldl (fun v c => (v.1 ++ fx c, v.2 ++ fy c)) v).2 = v.1.zip v.2 ++ L.flatMap (fun c => (fx c).zip (fy c))
  | [], v, h => ⟨h, by simp⟩
  | c :: L, v, h => by
    have ih := foldl_zip fx fy hl L (v.1 ++ fx c, v.2 ++ fy c) (by simp only [List.length_append]; rw [h, hl c])
    rw [List.foldl_cons]
    refine ⟨ih.1, ih.2.trans ?_⟩
    simp only [List.flatMap_cons]
    rw [List.zip_append h, List.append_assoc]
theorem foldl_len {α β γ : Type} (fx : α → List β) (fy : α → List γ) (n : Nat) (hn : ∀ c, (fx c).length ≤ n) : ∀ (L : List α) (v : List β × List γ), (L.foldl (fun v c => (v.1 ++ fx c, v.2 ++ fy c)) v).1.length ≤ v.1.length + n * L.length
  | [], v => by simp
  | c :: L, v => by
    have ih := foldl_len fx fy n hn L (v.1 ++ fx c, v.2 ++ fy c)
    have := hn c
    rw [List.foldl_cons, List.length_cons, Nat.mul_succ]
    simp only [List.length_append] at ih
    omega
noncomputable def eC (m : ME) (q : List Int) (d : Int) (c : PN × Int) : List ((Int × Int) × Int) := ((pans m).zip q).map fun e => ((F50 c.1 e.1 d).1, W (c.2 * e.2))
noncomputable def eX (m : ME) (q : List Int) (d : Int) (c : PN × Int) : List (Int × Int) := ((pans m).zip q).map fun e => (F50 c.1 e.1 d).1
noncomputable def eY (m : ME) (q : List Int) (c : PN × Int) : List Int := ((pans m).zip q).map fun e => W (c.2 * e.2)
theorem eXY (m : ME) (q : List Int) (d : Int) (c : PN × Int) : (eX m q d c).zip (eY m q c) = eC m q d c := by
  unfold eX eY eC
  generalize (pans m).zip q = L
  induction L with
  | nil => rfl
  | cons e L ih => simp only [List.map_cons, List.zip_cons_cons, ih]
theorem snocs2 {α β γ : Type} (g : α → β) (h : α → γ) (l : List α) (v : List β × List γ) : l.foldl (fun v c => (v.1 ++ [g c], v.2 ++ [h c])) v = (v.1 ++ l.map g, v.2 ++ l.map h) := by
  induction l generalizing v with
  | nil => simp
  | cons c l ih => rw [List.foldl_cons, ih]; simp
noncomputable def MT (m : ME) (d : Int) : TB := (pans m).map fun q => (pans m).map fun p => (F50 p q d).1
theorem MT_get {m : ME} {d : Int} {i j : Nat} {p r : PN} (hi : (pans m)[i]? = some p) (hj : (pans m)[j]? = some r) : ((MT m d).getD (Int.toNat (j : Int)) default).getD (Int.toNat (i : Int)) default = (F50 p r d).1 := by
  have e1 : (MT m d)[j]? = some ((pans m).map fun p => (F50 p r d).1) := by unfold MT; rw [List.getElem?_map, hj]; rfl
  rw [getD_of e1]
  have e2 : ((pans m).map fun p => (F50 p r d).1)[i]? = some (F50 p r d).1 := by rw [List.getElem?_map, hi]; rfl
  rw [getD_of e2]
theorem en_row {m : ME} {q : List Int} {d : Int} (hl : (pans m).length = q.length) (xs : List (Int × Int)) (ys : List Int) (i : Nat) {c : PN × Int} (hi : ((pans m).zip q)[i]? = some c) :
    loopF (S54_L_L_1 (MT m d) q) (Int.toNat (((q.length : Nat) : Int) - 0) + 1) (xs, ys, (i : Int), c.2, (i : Int), 0) = .inl (xs ++ eX m q d c, ys ++ eY m q c, (i : Int) + 1) := by
  obtain ⟨hi1, hi2⟩ := List.getElem?_zip_eq_some.1 hi
  have hz : ((pans m).zip q).length = q.length := by rw [List.length_zip]; omega
  have key := each_loop (S := S54_L_L_1 (MT m d) q) (fun (v : List (Int × Int) × List Int) j => (v.1, v.2, (i : Int), c.2, (i : Int), j)) (fun v e => .inl (v.1 ++ [(F50 c.1 e.1 d).1], v.2 ++ [W (c.2 * e.2)])) (fun v => .inl (v.1, v.2, (i : Int) + 1)) (L := (pans m).zip q) (v := (xs, ys)) (n := Int.toNat (((q.length : Nat) : Int) - 0) + 1) (fun _ _ => True) ?_ (fun _ _ _ _ _ _ _ => trivial) ?_ (by omega) trivial
  · refine Eq.trans key ?_
    rw [foldE_inl, snocs2]; rfl
  · intro j e hj v _
    obtain ⟨h1, h2⟩ := List.getElem?_zip_eq_some.1 hj
    have hlt := (List.getElem?_eq_some_iff.1 h2).1
    simp only [S54_L_L_1]
    rw [decide_eq_true (by omega), cond_true, MT_get hi1 h1, getD_of h2]
    rfl
  · intro v _
    simp only [S54_L_L_1]
    rw [decide_eq_false (by omega), cond_false]
theorem en_h {m : ME} {q : List Int} {d : Int} (hl : (pans m).length = q.length) (hm : q.length ≤ 96) : F54_L_L (MT m d) q = addV (((pans m).zip q).flatMap (eC m q d)) := by
  have hz : ((pans m).zip q).length = q.length := by rw [List.length_zip]; omega
  unfold F54_L_L
  have key := each_loop (S := S54_L_L_0 (MT m d) q) (fun (v : List (Int × Int) × List Int) i => (v.1, v.2, i)) (fun v c => .inl (v.1 ++ eX m q d c, v.2 ++ eY m q c)) (fun v => ((F66_L_L v.1 v.2).1, (F66_L_L v.1 v.2).2)) (L := (pans m).zip q) (v := ([], [])) (n := Int.toNat (((q.length : Nat) : Int) - 0) + 1) (fun _ _ => True) ?_ (fun _ _ _ _ _ _ _ => trivial) ?_ (by omega) trivial
  · refine Eq.trans key ?_
    rw [foldE_inl]
    obtain ⟨h1, h2⟩ := foldl_zip (eX m q d) (eY m q) (fun c => by unfold eX eY; rw [List.length_map, List.length_map]) ((pans m).zip q) ([], []) rfl
    have h3 := foldl_len (eX m q d) (eY m q) 96 (fun c => by unfold eX; rw [List.length_map]; omega) ((pans m).zip q) ([], [])
    simp only [List.length_nil] at h3
    simp only [outE]
    rw [add_f (by omega) (by omega), h2]
    simp only [eXY, List.zip_nil_left, List.nil_append]
  · intro i c hi v _
    obtain ⟨h1, h2⟩ := List.getElem?_zip_eq_some.1 hi
    have hlt := (List.getElem?_eq_some_iff.1 h2).1
    simp only [S54_L_L_0]
    rw [decide_eq_true (by omega), cond_true, getD_of h2, en_row hl v.1 v.2 i hi]
    rfl
  · intro v _
    simp only [S54_L_L_0]
    rw [decide_eq_false (by omega), cond_false]
end Go.Proofs.Ythpgabaeefifbaa

namespace Go.Proofs.Ythpgabaeefifbaa
open Go.Proofs Go.Aw Go.RowKit
set_option maxRecDepth 100000
set_option linter.unusedVariables false
set_option linter.unusedSimpArgs false

/-! ### Entries of lists of spans -/
theorem at_snd {l : List (Int × Int)} (h : ∀ s ∈ l, 1 ≤ s.2) (j : Int) : (0 ≤ j ∧ j < ((l.length : Nat) : Int)) → 1 ≤ (l.getD (Int.toNat j) default).2 := fun g => by
  have hlt : Int.toNat j < l.length := by omega
  rw [List.getD_eq_getElem?_getD, List.getElem?_eq_getElem hlt, Option.getD_some]
  exact h _ (List.getElem_mem hlt)
theorem at_fst {l : List (Int × Int)} (h : ∀ s ∈ l, 1 ≤ s.1) (j : Int) : (0 ≤ j ∧ j < ((l.length : Nat) : Int)) → 1 ≤ (l.getD (Int.toNat j) default).1 := fun g => by
  have hlt : Int.toNat j < l.length := by omega
  rw [List.getD_eq_getElem?_getD, List.getElem?_eq_getElem hlt, Option.getD_some]
  exact h _ (List.getElem_mem hlt)
theorem at0_snd {l : List (Int × Int)} (h : ∀ s ∈ l, 1 ≤ s.2) (hl : 1 ≤ l.length) : 1 ≤ (l.getD 0 default).2 := at_snd h 0 (by omega)
theorem at0_fst {l : List (Int × Int)} (h : ∀ s ∈ l, 1 ≤ s.1) (hl : 1 ≤ l.length) : 1 ≤ (l.getD 0 default).1 := at_fst h 0 (by omega)
theorem imx_bd (a b : Int) : a ≤ imx a b ∧ b ≤ imx a b ∧ (imx a b = a ∨ imx a b = b) := by unfold imx; split <;> omega
theorem imn_bd (a b : Int) : imn a b ≤ a ∧ imn a b ≤ b ∧ (imn a b = a ∨ imn a b = b) := by unfold imn; split <;> omega

/-- facet/hold.divideUp -/
def F69 (a0 : Int) (a1 : Int) : Int :=
  (W (Int.tdiv (W ((W (a0 + a1)) - 1)) a1))

theorem C69 (a0 : Int) (a1 : Int) (hd : a1 ≠ 0) : Con Try.prog 69 [(iv a0), (iv a1)] [] (iv (F69 a0 a1)) [] := by
  refine con_s Try.func69 (by kernel_rfl) fun cx hcx => ?_
  have e := Eq.refl (F69 a0 a1); conv at e => rhs; simp only [F69]
  rw [e]
  exact rt [.p (show (a1 : Int) ≠ 0 from by first | omega | (rw [W_eq] <;> omega) | exact u64_nn _)] [] [] hcx (by kernel_rfl)

noncomputable def B53_L_L_0 : Code := (loopAtD [1, 1, 0, 1] [] (bodyOf Try.f53) []).1
noncomputable def K53_L_L_0 : List K := (loopAtD [1, 1, 0, 1] [] (bodyOf Try.f53) []).2

def st53_L_L_0 (a0 : List (Int × Int)) (a1 : List (Int)) (v1 : Int) (v2 : Int) : LS := ⟨slN 31 [(1, (.s 1 0 a1.length 1)), (6, (iv v1)), (13, (.s 0 0 a0.length 2)), (14, (iv ((a0.length : Nat) : Int))), (15, (iv v2))], [(.live false true (flat c39 a0)), (.live false true (flat c3 a1))]⟩

/-- a round of loop 0 of facet/hold.below; the variables: v1 = s6, v2 = s15 -/
def S53_L_L_0 (a0 : List (Int × Int)) (a1 : List (Int)) : Int × Int → (Int × Int) ⊕ (Int × Int)
  | (v1, v2) =>
   (bif (decide ((v2 : Int) < ((a0.length : Nat) : Int))) then
    (.inl ((imx v1 (a0.getD (Int.toNat v2) default).2), (v2 + 1)))
   else
    (.inr ((F67 (W (Int.tdiv (F68_L a1) v1))).1, (F67 (W (Int.tdiv (F68_L a1) v1))).2)))

set_option maxHeartbeats 4000000 in
theorem L53_L_L_0 (a0 : List (Int × Int)) (a1 : List (Int)) (l0 : a0.length ≤ 9223372036854775807) (l1 : a1.length ≤ 9223372036854775807) (hl : 1 ≤ a0.length) (hp : ∀ s ∈ a0, 1 ≤ s.2) {cx : Cx} (hcx : cx.base = 2) : ∀ (n : Nat) (v1 : Int) (v2 : Int), (0 ≤ v2) ∧ (1 ≤ v1) → Int.toNat (((a0.length : Nat) : Int) - v2) < n → Aw.Good Try.prog none 9 (bodyPost Try.prog Try.f53 (RR cx (.t (k2 (loopF (S53_L_L_0 a0 a1) n (v1, v2)))) [] [])) cx [] (.l B53_L_L_0 n :: K53_L_L_0) (st53_L_L_0 a0 a1 v1 v2) := by
  intro n
  induction n with
  | zero => intro v1 v2 hi hn; exact absurd hn (Nat.not_lt_zero _)
  | succ n ih =>
    intro v1 v2 hi hn
    refine good_round ?_
    have hps := at_snd hp v2
    have hmx := imx_bd v1 (a0.getD (Int.toNat v2) default).2
    cases h0 : (decide ((v2 : Int) < ((a0.length : Nat) : Int))) with
    | true =>
     have q0 := of_decide_eq_true h0
     have e := Eq.refl (S53_L_L_0 a0 a1 (v1, v2)); conv at e => rhs; simp only [S53_L_L_0, h0, cond_true, cond_false]
     rw [loopF_inl e]
     refine ba [.d h0, .i v2 (a0.length), .L c39_len a0 v2 0 2] [] [1, 6, 13, 14, 15] [] hcx (m := n) B53_L_L_0 (K53_L_L_0) (st53_L_L_0 a0 a1 (imx v1 (a0.getD (Int.toNat v2) default).2) (W (v2 + 1))) (by kernel_rfl) ?_
     have z0 : (W (v2 + 1)) = (v2 + 1) := W_eq (by omega) (by omega)
     rw [z0]
     exact ih (imx v1 (a0.getD (Int.toNat v2) default).2) (v2 + 1) (by refine ⟨?_, ?_⟩ <;> (try simp only [List.length_append, List.length_cons, List.length_nil, Int.toNat_zero]) <;> first | omega | assumption | simp) (by (try simp only [List.length_append, List.length_cons, List.length_nil, Int.toNat_zero]); omega)
    | false =>
     have q0 := of_decide_eq_false h0
     have e := Eq.refl (S53_L_L_0 a0 a1 (v1, v2)); conv at e => rhs; simp only [S53_L_L_0, h0, cond_true, cond_false]
     rw [loopF_s, e]
     exact rt [.d h0, .c [1] (C68_L a1 (by (try simp only [List.length_append, List.length_cons, List.length_nil, Int.toNat_zero]); omega)), .p (show (v1 : Int) ≠ 0 from by first | omega | (rw [W_eq] <;> omega) | exact u64_nn _), .c [] (C67 (W (Int.tdiv (F68_L a1) v1)))] [] [] hcx (by kernel_rfl)

/-- facet/hold.below at ('L', 'L') -/
def F53_L_L (a0 : List (Int × Int)) (a1 : List (Int)) : Int × Int :=
  (loopF (S53_L_L_0 a0 a1) (Int.toNat (((a0.length : Nat) : Int) - 0) + 1) ((a0.getD (Int.toNat 0) default).2, 0))

theorem C53_L_L (a0 : List (Int × Int)) (a1 : List (Int)) (l0 : a0.length ≤ 9223372036854775807) (l1 : a1.length ≤ 9223372036854775807) (hl : 1 ≤ a0.length) (hp : ∀ s ∈ a0, 1 ≤ s.2) : Con Try.prog 53 [(.s 0 0 a0.length 2), (.s 1 0 a1.length 1)] [(.live false true (flat c39 a0)), (.live false true (flat c3 a1))] (.t (k2 (F53_L_L a0 a1))) [] := by
  refine con_s Try.func53 (by kernel_rfl) fun cx hcx => ?_
  have hp0 := at0_snd hp hl
  have e := Eq.refl (F53_L_L a0 a1); conv at e => rhs; simp only [F53_L_L]
  rw [e]
  refine en [.i 0 (a0.length), .L c39_len a0 0 1 1] [] [1, 6, 13, 14, 15] [] hcx B53_L_L_0 (K53_L_L_0) (st53_L_L_0 a0 a1 ((a0.getD (Int.toNat 0) default).2) 0) (Int.toNat (((a0.length : Nat) : Int) - 0) + 1) (by kernel_rfl) ?_
  exact L53_L_L_0 a0 a1 l0 l1 hl hp hcx (Int.toNat (((a0.length : Nat) : Int) - 0) + 1) ((a0.getD (Int.toNat 0) default).2) 0 (by refine ⟨?_, ?_⟩ <;> (try simp only [List.length_append, List.length_cons, List.length_nil, Int.toNat_zero]) <;> first | omega | assumption | simp) (by (try simp only [List.length_append, List.length_cons, List.length_nil, Int.toNat_zero]); omega)

noncomputable def B56_L_L_0 : Code := (loopAtD [1, 1, 0, 1] [] (bodyOf Try.f56) []).1
noncomputable def K56_L_L_0 : List K := (loopAtD [1, 1, 0, 1] [] (bodyOf Try.f56) []).2

def st56_L_L_0 (a0 : List (Int × Int)) (a1 : List (Int)) (v1 : Int) (v2 : Int) : LS := ⟨slN 31 [(1, (.s 1 0 a1.length 1)), (6, (iv v1)), (13, (.s 0 0 a0.length 2)), (14, (iv ((a0.length : Nat) : Int))), (15, (iv v2))], [(.live false true (flat c39 a0)), (.live false true (flat c3 a1))]⟩

/-- a round of loop 0 of facet/hold.above; the variables: v1 = s6, v2 = s15 -/
def S56_L_L_0 (a0 : List (Int × Int)) (a1 : List (Int)) : Int × Int → (Int × Int) ⊕ (Int × Int)
  | (v1, v2) =>
   (bif (decide ((v2 : Int) < ((a0.length : Nat) : Int))) then
    (.inl ((imn v1 (a0.getD (Int.toNat v2) default).1), (v2 + 1)))
   else
    (.inr ((F67 (F69 (F68_L a1) v1)).1, (F67 (F69 (F68_L a1) v1)).2)))

set_option maxHeartbeats 4000000 in
theorem L56_L_L_0 (a0 : List (Int × Int)) (a1 : List (Int)) (l0 : a0.length ≤ 9223372036854775807) (l1 : a1.length ≤ 9223372036854775807) (hl : 1 ≤ a0.length) (hp : ∀ s ∈ a0, 1 ≤ s.1) {cx : Cx} (hcx : cx.base = 2) : ∀ (n : Nat) (v1 : Int) (v2 : Int), (0 ≤ v2) ∧ (1 ≤ v1) → Int.toNat (((a0.length : Nat) : Int) - v2) < n → Aw.Good Try.prog none 9 (bodyPost Try.prog Try.f56 (RR cx (.t (k2 (loopF (S56_L_L_0 a0 a1) n (v1, v2)))) [] [])) cx [] (.l B56_L_L_0 n :: K56_L_L_0) (st56_L_L_0 a0 a1 v1 v2) := by
  intro n
  induction n with
  | zero => intro v1 v2 hi hn; exact absurd hn (Nat.not_lt_zero _)
  | succ n ih =>
    intro v1 v2 hi hn
    refine good_round ?_
    have hps := at_fst hp v2
    have hmx := imn_bd v1 (a0.getD (Int.toNat v2) default).1
    cases h0 : (decide ((v2 : Int) < ((a0.length : Nat) : Int))) with
    | true =>
     have q0 := of_decide_eq_true h0
     have e := Eq.refl (S56_L_L_0 a0 a1 (v1, v2)); conv at e => rhs; simp only [S56_L_L_0, h0, cond_true, cond_false]
     rw [loopF_inl e]
     refine ba [.d h0, .i v2 (a0.length), .L c39_len a0 v2 0 2] [] [1, 6, 13, 14, 15] [] hcx (m := n) B56_L_L_0 (K56_L_L_0) (st56_L_L_0 a0 a1 (imn v1 (a0.getD (Int.toNat v2) default).1) (W (v2 + 1))) (by kernel_rfl) ?_
     have z0 : (W (v2 + 1)) = (v2 + 1) := W_eq (by omega) (by omega)
     rw [z0]
     exact ih (imn v1 (a0.getD (Int.toNat v2) default).1) (v2 + 1) (by refine ⟨?_, ?_⟩ <;> (try simp only [List.length_append, List.length_cons, List.length_nil, Int.toNat_zero]) <;> first | omega | assumption | simp) (by (try simp only [List.length_append, List.length_cons, List.length_nil, Int.toNat_zero]); omega)
    | false =>
     have q0 := of_decide_eq_false h0
     have e := Eq.refl (S56_L_L_0 a0 a1 (v1, v2)); conv at e => rhs; simp only [S56_L_L_0, h0, cond_true, cond_false]
     rw [loopF_s, e]
     exact rt [.d h0, .c [1] (C68_L a1 (by (try simp only [List.length_append, List.length_cons, List.length_nil, Int.toNat_zero]); omega)), .c [] (C69 (F68_L a1) v1  (by omega)), .c [] (C67 (F69 (F68_L a1) v1))] [] [] hcx (by kernel_rfl)

/-- facet/hold.above at ('L', 'L') -/
def F56_L_L (a0 : List (Int × Int)) (a1 : List (Int)) : Int × Int :=
  (loopF (S56_L_L_0 a0 a1) (Int.toNat (((a0.length : Nat) : Int) - 0) + 1) ((a0.getD (Int.toNat 0) default).1, 0))

theorem C56_L_L (a0 : List (Int × Int)) (a1 : List (Int)) (l0 : a0.length ≤ 9223372036854775807) (l1 : a1.length ≤ 9223372036854775807) (hl : 1 ≤ a0.length) (hp : ∀ s ∈ a0, 1 ≤ s.1) : Con Try.prog 56 [(.s 0 0 a0.length 2), (.s 1 0 a1.length 1)] [(.live false true (flat c39 a0)), (.live false true (flat c3 a1))] (.t (k2 (F56_L_L a0 a1))) [] := by
  refine con_s Try.func56 (by kernel_rfl) fun cx hcx => ?_
  have hp0 := at0_fst hp hl
  have e := Eq.refl (F56_L_L a0 a1); conv at e => rhs; simp only [F56_L_L]
  rw [e]
  refine en [.i 0 (a0.length), .L c39_len a0 0 0 1] [] [1, 6, 13, 14, 15] [] hcx B56_L_L_0 (K56_L_L_0) (st56_L_L_0 a0 a1 ((a0.getD (Int.toNat 0) default).1) 0) (Int.toNat (((a0.length : Nat) : Int) - 0) + 1) (by kernel_rfl) ?_
  exact L56_L_L_0 a0 a1 l0 l1 hl hp hcx (Int.toNat (((a0.length : Nat) : Int) - 0) + 1) ((a0.getD (Int.toNat 0) default).1) 0 (by refine ⟨?_, ?_⟩ <;> (try simp only [List.length_append, List.length_cons, List.length_nil, Int.toNat_zero]) <;> first | omega | assumption | simp) (by (try simp only [List.length_append, List.length_cons, List.length_nil, Int.toNat_zero]); omega)

end Go.Proofs.Ythpgabaeefifbaa

namespace Go.Proofs.Ythpgabaeefifbaa
open Go.Proofs Go.Aw Go.RowKit
set_option maxRecDepth 100000
set_option linter.unusedVariables false
set_option linter.unusedSimpArgs false

/-- facet/hold.thomson at ('L',) -/
def F55_L (a0 : Int × Int) (a1 : List (Int)) : Int × Int :=
  ((F67 (W (Int.tdiv (F68_L a1) (F69 a0.2 (W (Int.tdiv (W (Int.tdiv (F68_L a1) 1048576)) 1048576)))))).1, (F67 (W (Int.tdiv (F68_L a1) (F69 a0.2 (W (Int.tdiv (W (Int.tdiv (F68_L a1) 1048576)) 1048576)))))).2)

theorem C55_L (a0 : Int × Int) (a1 : List (Int)) (l1 : a1.length ≤ 9223372036854775807) (hq : W (Int.tdiv (W (Int.tdiv (F68_L a1) 1048576)) 1048576) ≠ 0) (hw : F69 a0.2 (W (Int.tdiv (W (Int.tdiv (F68_L a1) 1048576)) 1048576)) ≠ 0) : Con Try.prog 55 [(.a [(iv a0.1), (iv a0.2)]), (.s 0 0 a1.length 1)] [(.live false true (flat c3 a1))] (.t (k2 (F55_L a0 a1))) [] := by
  refine con_s Try.func55 (by kernel_rfl) fun cx hcx => ?_
  have e := Eq.refl (F55_L a0 a1); conv at e => rhs; simp only [F55_L]
  rw [e]
  exact rt [.c [0] (C68_L a1 (by (try simp only [List.length_append, List.length_cons, List.length_nil, Int.toNat_zero]); omega)), .p (show (1048576 : Int) ≠ 0 from by decide), .p (show (1048576 : Int) ≠ 0 from by decide), .c [] (C69 a0.2 (W (Int.tdiv (W (Int.tdiv (F68_L a1) 1048576)) 1048576))  hq), .p (show ((F69 a0.2 (W (Int.tdiv (W (Int.tdiv (F68_L a1) 1048576)) 1048576))) : Int) ≠ 0 from by first | omega | (rw [W_eq] <;> omega) | exact u64_nn _), .c [] (C67 (W (Int.tdiv (F68_L a1) (F69 a0.2 (W (Int.tdiv (W (Int.tdiv (F68_L a1) 1048576)) 1048576))))))] [] [] hcx (by kernel_rfl)

end Go.Proofs.Ythpgabaeefifbaa

namespace Go.Proofs.Ythpgabaeefifbaa
open Go.Proofs Go.Aw Go.RowKit
set_option maxRecDepth 100000
set_option linter.unusedVariables false
set_option linter.unusedSimpArgs false

/-! ### What is divided by is not 0 -/
theorem sum_sc {a : Int} (ha : 0 ≤ a ∧ a ≤ 100) : ∀ L : List (PN × Int), (∀ e ∈ L, 0 ≤ e.2 ∧ e.2 ≤ 100) → (L.map fun e => W (a * e.2)).sum = a * (L.map (·.2)).sum
  | [], _ => by simp
  | e :: L, h => by
    have he := h e List.mem_cons_self
    have ih := sum_sc ha L (fun x hx => h x (List.mem_cons_of_mem _ hx))
    have p0 : 0 ≤ a * e.2 := Int.mul_nonneg ha.1 he.1
    have p1 : a * e.2 ≤ 100 * 100 := Int.mul_le_mul ha.2 he.2 he.1 (by omega)
    simp only [List.map_cons, List.sum_cons]
    rw [ih, W_eq (by omega) (by omega), Int.mul_add]
theorem sum_fl {m : ME} {q : List Int} {d : Int} (hq : ∀ e ∈ (pans m).zip q, 0 ≤ e.2 ∧ e.2 ≤ 100) : ∀ L : List (PN × Int), (∀ e ∈ L, 0 ≤ e.2 ∧ e.2 ≤ 100) → ((L.flatMap (eC m q d)).map (·.2)).sum = (L.map (·.2)).sum * (((pans m).zip q).map (·.2)).sum
  | [], _ => by simp
  | c :: L, h => by
    have ih := sum_fl (d := d) hq L (fun x hx => h x (List.mem_cons_of_mem _ hx))
    have e : ((eC m q d c).map (·.2)).sum = c.2 * (((pans m).zip q).map (·.2)).sum := by
      rw [← sum_sc (h c List.mem_cons_self) _ hq]
      unfold eC
      rw [List.map_map]; rfl
    rw [List.flatMap_cons, List.map_append, List.sum_append, ih, e]
    simp only [List.map_cons, List.sum_cons]
    rw [Int.add_mul]
theorem en_pos {m : ME} {q : List Int} {d : Int} (hC : ChOK m q) (hd : 0 ≤ d ∧ d ≤ 2) (h : (addV (((pans m).zip q).flatMap (eC m q d))).2 = 0) : 1 ≤ (addV (((pans m).zip q).flatMap (eC m q d))).1.2 ∧ vs (addV (((pans m).zip q).flatMap (eC m q d))).1 := by
  have hn := hC.n; have hl := hC.len; have hs := hC.pos
  have hpl : (pans m).length = m.2.length := List.length_map _
  have hz : ∀ e ∈ (pans m).zip q, 0 ≤ e.2 ∧ e.2 ≤ 100 := fun e he => hC.ok _ (List.of_mem_zip he).2
  have hm : ((pans m).zip q).map (·.2) = q := List.map_snd_zip (by omega)
  have hp := add_pos (l := ((pans m).zip q).flatMap (eC m q d)) (fun c hc => by
    obtain ⟨b, hb, hcb⟩ := List.mem_flatMap.1 hc
    unfold eC at hcb
    obtain ⟨e, he, rfl⟩ := List.mem_map.1 hcb
    have h1 := hz b hb; have h2 := hz e he
    have p0 : 0 ≤ b.2 * e.2 := Int.mul_nonneg h1.1 h2.1
    have p1 : b.2 * e.2 ≤ 100 * 100 := Int.mul_le_mul h1.2 h2.2 h2.1 (by omega)
    refine ⟨(Mutual_okP (vld_pk hC.v hd (List.of_mem_zip hb).1 (List.of_mem_zip he).1)).2, ?_⟩
    simp only
    rw [W_eq (by omega) (by omega)]; omega) h
  rw [sum_fl hz _ hz, hm] at hp
  have : 1 * 1 ≤ q.sum * q.sum := Int.mul_le_mul hs hs (by omega) (by omega)
  exact ⟨by omega, hp.2.2⟩
theorem tot_eq {q : List Int} (hq : okC q) (h1 : 1 ≤ q.sum) (hl : q.length ≤ 96) : F68_L q = q.sum * 1099511627776 ∧ q.sum ≤ 9600 := by
  obtain ⟨e, h2, h3⟩ := totW_eq q 0 hq (by omega) (by omega)
  rw [tot_h, e]
  refine ⟨?_, by omega⟩
  rw [W_eq (by rw [W_eq (by omega) (by omega)]; omega) (by rw [W_eq (by omega) (by omega)]; omega), W_eq (by omega) (by omega)]
  omega
theorem one_eq {q : List Int} (hq : okC q) (h1 : 1 ≤ q.sum) (hl : q.length ≤ 96) : W (Int.tdiv (W (Int.tdiv (F68_L q) 1048576)) 1048576) = q.sum := by
  obtain ⟨e, h2⟩ := tot_eq hq h1 hl
  have e1 : Int.tdiv (q.sum * 1099511627776) 1048576 = q.sum * 1048576 := by
    rw [show q.sum * 1099511627776 = (q.sum * 1048576) * 1048576 from by omega, Int.mul_tdiv_cancel _ (by decide)]
  rw [e, e1, W_eq (n := q.sum * 1048576) (by omega) (by omega), Int.mul_tdiv_cancel _ (by decide), W_eq (by omega) (by omega)]
theorem up_pos {a n : Int} (ha : 1 ≤ a ∧ a ≤ 2305843009213693951) (hn : 1 ≤ n ∧ n ≤ 2305843009213693951) : 1 ≤ F69 a n ∧ F69 a n = (a + n - 1).tdiv n := by
  unfold F69
  rw [W_eq (n := a + n) (by omega) (by omega), W_eq (n := a + n - 1) (by omega) (by omega)]
  have h0 : 0 ≤ a + n - 1 := by omega
  have e : (a + n - 1).tdiv n = (a + n - 1) / n := Int.tdiv_eq_ediv_of_nonneg h0
  have h1 : 1 ≤ (a + n - 1) / n := by
    refine (Int.le_ediv_iff_mul_le (by omega)).2 ?_
    omega
  have h2 : (a + n - 1) / n ≤ a + n - 1 := Int.ediv_le_self _ h0
  rw [e, W_eq (by omega) (by omega)]
  exact ⟨h1, rfl⟩
end Go.Proofs.Ythpgabaeefifbaa

namespace Go.Proofs.Ythpgabaeefifbaa
open Go.Proofs Go.Aw Go.RowKit
set_option maxRecDepth 100000
set_option linter.unusedVariables false
set_option linter.unusedSimpArgs false

end Go.Proofs.Ythpgabaeefifbaa

namespace Go.Proofs.Ythpgabaeefifbaa
open Go.Proofs Go.Aw Go.RowKit
set_option maxRecDepth 100000
set_option linter.unusedVariables false
set_option linter.unusedSimpArgs false

end Go.Proofs.Ythpgabaeefifbaa

namespace Go.Proofs.Ythpgabaeefifbaa
open Go.Proofs Go.Aw Go.RowKit
set_option maxRecDepth 100000
set_option linter.unusedVariables false
set_option linter.unusedSimpArgs false

end Go.Proofs.Ythpgabaeefifbaa

namespace Go.Proofs.Ythpgabaeefifbaa
open Go.Proofs Go.Aw Go.RowKit
set_option maxRecDepth 100000
set_option linter.unusedVariables false
set_option linter.unusedSimpArgs false

end Go.Proofs.Ythpgabaeefifbaa

namespace Go.Proofs.Ythpgabaeefifbaa
open Go.Proofs Go.Aw Go.RowKit
set_option maxRecDepth 100000
set_option linter.unusedVariables false
set_option linter.unusedSimpArgs false

theorem potl_le {T : TB} {q : List Int} (hr : ∀ r ∈ T, r.length ≤ q.length) (hm : q.length ≤ 96) : (F52_L_L T q).1.length ≤ T.length := by
  rw [pot_h hr hm]
  unfold potV
  cases hs : shs (fun r : List (Int × Int) => addV (r.zip q)) T [] with
  | inr r => simp [out8]
  | inl l =>
    obtain ⟨e, _⟩ := shs_inl hs
    simp only [out8]
    rw [e, List.nil_append, List.length_map]; exact Nat.le_refl _

/-- (facet/hold.tables).bounds at ('L',) -/
def F38_L (a0 : ((List (Int × Int × Int)) × List (Int × Int × Int)) × (List (List (Int × Int))) × (List (List (Int × Int))) × Int) (a1 : List (Int)) : (Int × Int) × Int :=
  (bif (((F52_L_L a0.2.1 a1).2 : Int) != 0) then
   ((0, 0), (F52_L_L a0.2.1 a1).2)
  else
   (bif (((F53_L_L (F52_L_L a0.2.1 a1).1 a1).2 : Int) != 0) then
    ((0, 0), (F53_L_L (F52_L_L a0.2.1 a1).1 a1).2)
   else
    (bif (((F54_L_L a0.2.2.1 a1).2 : Int) != 0) then
     ((0, 0), (F54_L_L a0.2.2.1 a1).2)
    else
     (bif (((F55_L (F54_L_L a0.2.2.1 a1).1 a1).2 : Int) != 0) then
      ((0, 0), (F55_L (F54_L_L a0.2.2.1 a1).1 a1).2)
     else
      (bif (((F56_L_L (F52_L_L a0.2.1 a1).1 a1).2 : Int) != 0) then
       ((0, 0), (F56_L_L (F52_L_L a0.2.1 a1).1 a1).2)
      else
       (((imx (F53_L_L (F52_L_L a0.2.1 a1).1 a1).1 (F55_L (F54_L_L a0.2.2.1 a1).1 a1).1), (imn (F56_L_L (F52_L_L a0.2.1 a1).1 a1).1 a0.2.2.2)), 0))))))

theorem C38_L (a0 : ((List (Int × Int × Int)) × List (Int × Int × Int)) × (List (List (Int × Int))) × (List (List (Int × Int))) × Int) (a1 : List (Int)) (l0_1_1 : a0.1.1.length ≤ 9223372036854775807) (l0_1_2 : a0.1.2.length ≤ 9223372036854775807) (l0_2_1 : a0.2.1.length ≤ 9223372036854775807) (l0_2_2_1 : a0.2.2.1.length ≤ 9223372036854775807) (l1 : a1.length ≤ 9223372036854775807) (hr : ∀ r ∈ a0.2.1, r.length ≤ a1.length) (hn : a0.2.1.length ≤ 96) (hm : a1.length ≤ 96) (hl : a0.2.2.1.length = a1.length) (hs : ∀ r ∈ a0.2.2.1, r.length = a1.length) (hp : (((F52_L_L a0.2.1 a1).2 : Int) != 0) = false → 1 ≤ (F52_L_L a0.2.1 a1).1.length ∧ (∀ s ∈ (F52_L_L a0.2.1 a1).1, 1 ≤ s.1) ∧ (∀ s ∈ (F52_L_L a0.2.1 a1).1, 1 ≤ s.2)) (he : (((F54_L_L a0.2.2.1 a1).2 : Int) != 0) = false → W (Int.tdiv (W (Int.tdiv (F68_L a1) 1048576)) 1048576) ≠ 0 ∧ F69 (F54_L_L a0.2.2.1 a1).1.2 (W (Int.tdiv (W (Int.tdiv (F68_L a1) 1048576)) 1048576)) ≠ 0) : Con Try.prog 38 [(.a [(.s 0 0 a0.1.1.length 3), (.s 1 0 a0.1.2.length 3), (.s 2 0 a0.2.1.length 1), (.s 3 0 a0.2.2.1.length 1), (iv a0.2.2.2)]), (.s 4 0 a1.length 1)] [(.live false true (flat c37 a0.1.1)), (.live false true (flat c46 a0.1.2)), (.live false true (flat c88 a0.2.1)), (.live false true (flat c88 a0.2.2.1)), (.live false true (flat c3 a1))] (.t [(.a (k2 (F38_L a0 a1).1)), (iv (F38_L a0 a1).2)]) [] := by
  refine con_s Try.func38 (by kernel_rfl) fun cx hcx => ?_
  have hx1 := potl_le hr hm
  let t0 : List (St Try.prog) := [.c [2, 4] (C52_L_L a0.2.1 a1 (by (try simp only [List.length_append, List.length_cons, List.length_nil, Int.toNat_zero]); omega) (by (try simp only [List.length_append, List.length_cons, List.length_nil, Int.toNat_zero]); omega) hr hn hm)]
  cases h0 : (((F52_L_L a0.2.1 a1).2 : Int) != 0) with
  | true =>
   have q0 := bne_iff_ne.1 h0
   have e := Eq.refl (F38_L a0 a1); conv at e => rhs; simp only [F38_L, h0, cond_true, cond_false]
   rw [e]
   exact rt (t0 ++ [.d h0]) [] [] hcx (by kernel_rfl)
  | false =>
   have q0 := bne_eq_false_iff_eq.1 h0
   let t1 : List (St Try.prog) := (t0 ++ [.d h0, .c [7, 4] (C53_L_L (F52_L_L a0.2.1 a1).1 a1 (by (try simp only [List.length_append, List.length_cons, List.length_nil, Int.toNat_zero]); omega) (by (try simp only [List.length_append, List.length_cons, List.length_nil, Int.toNat_zero]); omega) (hp h0).1 (hp h0).2.2)])
   cases h1 : (((F53_L_L (F52_L_L a0.2.1 a1).1 a1).2 : Int) != 0) with
   | true =>
    have q1 := bne_iff_ne.1 h1
    have e := Eq.refl (F38_L a0 a1); conv at e => rhs; simp only [F38_L, h0, h1, cond_true, cond_false]
    rw [e]
    exact rt (t1 ++ [.d h1]) [] [] hcx (by kernel_rfl)
   | false =>
    have q1 := bne_eq_false_iff_eq.1 h1
    let t2 : List (St Try.prog) := (t1 ++ [.d h1, .c [3, 4] (C54_L_L a0.2.2.1 a1 (by (try simp only [List.length_append, List.length_cons, List.length_nil, Int.toNat_zero]); omega) (by (try simp only [List.length_append, List.length_cons, List.length_nil, Int.toNat_zero]); omega) hl hs hm)])
    cases h2 : (((F54_L_L a0.2.2.1 a1).2 : Int) != 0) with
    | true =>
     have q2 := bne_iff_ne.1 h2
     have e := Eq.refl (F38_L a0 a1); conv at e => rhs; simp only [F38_L, h0, h1, h2, cond_true, cond_false]
     rw [e]
     exact rt (t2 ++ [.d h2]) [] [] hcx (by kernel_rfl)
    | false =>
     have q2 := bne_eq_false_iff_eq.1 h2
     let t3 : List (St Try.prog) := (t2 ++ [.d h2, .c [4] (C55_L (F54_L_L a0.2.2.1 a1).1 a1 (by (try simp only [List.length_append, List.length_cons, List.length_nil, Int.toNat_zero]); omega) (he h2).1 (he h2).2)])
     cases h3 : (((F55_L (F54_L_L a0.2.2.1 a1).1 a1).2 : Int) != 0) with
     | true =>
      have q3 := bne_iff_ne.1 h3
      have e := Eq.refl (F38_L a0 a1); conv at e => rhs; simp only [F38_L, h0, h1, h2, h3, cond_true, cond_false]
      rw [e]
      exact rt (t3 ++ [.d h3]) [] [] hcx (by kernel_rfl)
     | false =>
      have q3 := bne_eq_false_iff_eq.1 h3
      let t4 : List (St Try.prog) := (t3 ++ [.d h3, .c [7, 4] (C56_L_L (F52_L_L a0.2.1 a1).1 a1 (by (try simp only [List.length_append, List.length_cons, List.length_nil, Int.toNat_zero]); omega) (by (try simp only [List.length_append, List.length_cons, List.length_nil, Int.toNat_zero]); omega) (hp h0).1 (hp h0).2.1)])
      cases h4 : (((F56_L_L (F52_L_L a0.2.1 a1).1 a1).2 : Int) != 0) with
      | true =>
       have q4 := bne_iff_ne.1 h4
       have e := Eq.refl (F38_L a0 a1); conv at e => rhs; simp only [F38_L, h0, h1, h2, h3, h4, cond_true, cond_false]
       rw [e]
       exact rt (t4 ++ [.d h4]) [] [] hcx (by kernel_rfl)
      | false =>
       have q4 := bne_eq_false_iff_eq.1 h4
       have e := Eq.refl (F38_L a0 a1); conv at e => rhs; simp only [F38_L, h0, h1, h2, h3, h4, cond_true, cond_false]
       rw [e]
       exact rt (t4 ++ [.d h4]) [] [] hcx (by kernel_rfl)

end Go.Proofs.Ythpgabaeefifbaa

namespace Go.Proofs.Ythpgabaeefifbaa
open Go.Proofs Go.Aw Go.RowKit
set_option maxRecDepth 100000
set_option linter.unusedVariables false
set_option linter.unusedSimpArgs false

/-! ### The ball of the program and of the document -/
theorem hwith (n : Int) : F14 n (-256) 256 = decide (-256 ≤ n ∧ n ≤ 256) := by
  unfold F14
  by_cases h1 : -256 ≤ n <;> by_cases h2 : n ≤ 256 <;> simp [h1, h2]
noncomputable def dsW (p x : P3) : Int := W ((W ((W ((W (p.1 - x.1)) * (W (p.1 - x.1)))) + (W ((W (p.2.1 - x.2.1)) * (W (p.2.1 - x.2.1)))))) + (W ((W (p.2.2 - x.2.2)) * (W (p.2.2 - x.2.2)))))
theorem dsW_bd {p x : P3} (hp : bd 64 p) (hx : bd 256 x) : 0 ≤ dsW p x ∧ dsW p x ≤ 400000 := by
  unfold bd at hp hx
  have e1 : W (p.1 - x.1) = p.1 - x.1 := W_eq (by omega) (by omega)
  have e2 : W (p.2.1 - x.2.1) = p.2.1 - x.2.1 := W_eq (by omega) (by omega)
  have e3 : W (p.2.2 - x.2.2) = p.2.2 - x.2.2 := W_eq (by omega) (by omega)
  have b1 := mul_bd (a := 320) (b := 320) (x := p.1 - x.1) (y := p.1 - x.1) (by omega) (by omega)
  have b2 := mul_bd (a := 320) (b := 320) (x := p.2.1 - x.2.1) (y := p.2.1 - x.2.1) (by omega) (by omega)
  have b3 := mul_bd (a := 320) (b := 320) (x := p.2.2 - x.2.2) (y := p.2.2 - x.2.2) (by omega) (by omega)
  have n1 : 0 ≤ (p.1 - x.1) * (p.1 - x.1) := by rcases Int.le_total 0 (p.1 - x.1) with h | h; exact Int.mul_nonneg h h; exact Int.mul_nonneg_of_nonpos_of_nonpos h h
  have n2 : 0 ≤ (p.2.1 - x.2.1) * (p.2.1 - x.2.1) := by rcases Int.le_total 0 (p.2.1 - x.2.1) with h | h; exact Int.mul_nonneg h h; exact Int.mul_nonneg_of_nonpos_of_nonpos h h
  have n3 : 0 ≤ (p.2.2 - x.2.2) * (p.2.2 - x.2.2) := by rcases Int.le_total 0 (p.2.2 - x.2.2) with h | h; exact Int.mul_nonneg h h; exact Int.mul_nonneg_of_nonpos_of_nonpos h h
  unfold dsW
  simp only [e1, e2, e3]
  generalize (p.1 - x.1) * (p.1 - x.1) = a at *
  generalize (p.2.1 - x.2.1) * (p.2.1 - x.2.1) = b at *
  generalize (p.2.2 - x.2.2) * (p.2.2 - x.2.2) = c at *
  rw [W_eq (n := a) (by omega) (by omega), W_eq (n := b) (by omega) (by omega), W_eq (n := c) (by omega) (by omega), W_eq (n := a + b) (by omega) (by omega), W_eq (n := a + b + c) (by omega) (by omega)]
  omega
noncomputable def ballW (m : ME) (x : P3) : Int := m.1.foldl (fun v p => imx v (dsW p x)) 0
theorem ballW_bd {x : P3} (hx : bd 256 x) : ∀ (l : List P3) (v : Int), (∀ p ∈ l, bd 64 p) → 0 ≤ v ∧ v ≤ 400000 → 0 ≤ l.foldl (fun v p => imx v (dsW p x)) v ∧ l.foldl (fun v p => imx v (dsW p x)) v ≤ 400000
  | [], v, _, h => h
  | p :: l, v, hp, h => by
    rw [List.foldl_cons]
    have := dsW_bd (hp p List.mem_cons_self) hx
    have := imx_bd v (dsW p x)
    exact ballW_bd hx l _ (fun y hy => hp y (List.mem_cons_of_mem _ hy)) (by omega)
theorem ball_lf (m : ME) (x : P3) : loopF (S10_1 m x) (Int.toNat (((m.1.length : Nat) : Int) - 0) + 1) (0, 0) = ((F18 (ballW m x)).1.2, (F18 (ballW m x)).2) := by
  have key := each_loop (S := S10_1 m x) (fun v i => (v, i)) (fun v p => .inl (imx v (dsW p x))) (fun v => ((F18 v).1.2, (F18 v).2)) (L := m.1) (v := 0) (n := Int.toNat (((m.1.length : Nat) : Int) - 0) + 1) (fun _ _ => True) ?_ (fun _ _ _ _ _ _ _ => trivial) ?_ (by omega) trivial
  · refine Eq.trans key ?_
    rw [foldE_inl]; rfl
  · intro i c hc v _
    obtain ⟨hlt, hce⟩ := List.getElem?_eq_some_iff.1 hc
    simp only [S10_1]
    rw [decide_eq_true (by omega), cond_true, getD_of hc]; rfl
  · intro v _
    simp only [S10_1]
    rw [decide_eq_false (by omega), cond_false]
end Go.Proofs.Ythpgabaeefifbaa

namespace Go.Proofs.Ythpgabaeefifbaa
open Go.Proofs Go.Aw Go.RowKit
set_option maxRecDepth 100000
set_option linter.unusedVariables false
set_option linter.unusedSimpArgs false

/-! ### Below, above and Thomson's bound -/
end Go.Proofs.Ythpgabaeefifbaa

namespace Go.Proofs.Ythpgabaeefifbaa
open Go.Proofs Go.Aw Go.RowKit
set_option maxRecDepth 100000
set_option linter.unusedVariables false
set_option linter.unusedSimpArgs false

/-! ### Charges of one each -/
theorem set_fold {α : Type} : ∀ (L : List α) (j : Nat), (L.foldl (fun (p : List Int × Nat) _ => (p.1.set p.2 1, p.2 + 1)) (List.replicate j 1 ++ List.replicate L.length 0, j)).1 = List.replicate (j + L.length) 1
  | [], j => by simp
  | c :: L, j => by
    rw [List.foldl_cons]
    have e : (List.replicate j (1 : Int) ++ List.replicate (L.length + 1) 0).set j 1 = List.replicate (j + 1) 1 ++ List.replicate L.length 0 := by
      rw [List.set_append_right (h := by rw [List.length_replicate]; exact Nat.le_refl _), List.length_replicate, Nat.sub_self, List.replicate_succ, List.set_cons_zero, List.replicate_succ' (n := j), List.append_assoc]; rfl
    simp only [List.length_cons]
    rw [e, set_fold L (j + 1)]
    congr 1; omega
theorem ones_h (m : ME) : F20 m = m.2.map fun _ => 1 := by
  unfold F20
  have key := each_loop (S := S20_0 m) (fun (v : List Int × Nat) i => (v.1, i)) (fun v _ => .inl (v.1.set v.2 1, v.2 + 1)) (fun v => v.1) (L := m.2) (v := (List.replicate (Int.toNat ((m.2.length : Nat) : Int)) 0, 0)) (n := Int.toNat ((((Int.toNat ((m.2.length : Nat) : Int)) : Nat) : Int) - 0) + 1) (fun i v => v.2 = i) ?_ (fun i c hc v v' hv h => by simp only [Sum.inl.injEq] at h; subst h; show v.2 + 1 = i + 1; omega) ?_ (by omega) rfl
  · refine Eq.trans key ?_
    rw [foldE_inl]
    simp only [outE]
    have := set_fold m.2 0
    simp only [List.replicate_zero, List.nil_append, Nat.zero_add] at this
    rw [Int.toNat_natCast, this, List.map_const']
  · intro i c hc v hv
    obtain ⟨hlt, hce⟩ := List.getElem?_eq_some_iff.1 hc
    simp only [S20_0]
    rw [decide_eq_true (by omega), cond_true, Int.toNat_natCast, hv]; rfl
  · intro v _
    simp only [S20_0]
    rw [decide_eq_false (by omega), cond_false]
end Go.Proofs.Ythpgabaeefifbaa

namespace Go.Proofs.Ythpgabaeefifbaa
open Go.Proofs Go.Aw Go.RowKit
set_option maxRecDepth 100000
set_option linter.unusedVariables false
set_option linter.unusedSimpArgs false

/-! ### The box and its middle -/
noncomputable def bxS (v : P3 × P3) (p : P3) : P3 × P3 := ((imn v.1.1 p.1, imn v.1.2.1 p.2.1, imn v.1.2.2 p.2.2), (imx v.2.1 p.1, imx v.2.2.1 p.2.1, imx v.2.2.2 p.2.2))
noncomputable def bxV (m : ME) : P3 × P3 := (m.1.drop 1).foldl bxS (m.1.getD (Int.toNat 0) default, m.1.getD (Int.toNat 0) default)
noncomputable def half (n : Int) : Int := Int.fdiv n (2 ^ (min (Int.toNat 1) 64))
noncomputable def midV (v : P3 × P3) : P3 := (half (W (v.1.1 + v.2.1)), half (W (v.1.2.1 + v.2.2.1)), half (W (v.1.2.2 + v.2.2.2)))
theorem box_f {m : ME} (h : F13 m = 0) : F51 m = ((bxV m).1, (bxV m).2, 0) := by
  have hp := (pts_one (m := m) (by rw [h]; rfl)).1
  unfold F51
  rw [show F13 (m.1, m.2) = 0 from h, show (((0 : Int)) != 0) = false from rfl, cond_false]
  have key := each_loop (S := S51_0 m) (fun (v : P3 × P3) i => (i, v.1.1, v.1.2.1, v.1.2.2, v.2.1, v.2.2.1, v.2.2.2)) (fun v p => .inl (bxS v p)) (fun v => (v.1, v.2, 0)) (L := m.1) (v := (m.1.getD (Int.toNat 0) default, m.1.getD (Int.toNat 0) default)) (n := Int.toNat (((m.1.length : Nat) : Int) - 0) + 1) (fun _ _ => True) ?_ (fun _ _ _ _ _ _ _ => trivial) ?_ (by omega) trivial
  · refine Eq.trans key ?_
    rw [foldE_inl]
    have e : m.1.foldl bxS (m.1.getD (Int.toNat 0) default, m.1.getD (Int.toNat 0) default) = bxV m := by
      unfold bxV
      generalize m.1 = l at hp ⊢
      cases l with
      | nil => simp at hp
      | cons p t =>
        show t.foldl bxS (bxS (p, p) p) = t.foldl bxS (p, p)
        have n1 : ∀ a : Int, imn a a = a := fun a => by unfold imn; split <;> rfl
        have n2 : ∀ a : Int, imx a a = a := fun a => by unfold imx; split <;> rfl
        rw [show bxS (p, p) p = (p, p) from by unfold bxS; simp only [n1, n2]]
    rw [e]; rfl
  · intro i c hc v _
    obtain ⟨hlt, hce⟩ := List.getElem?_eq_some_iff.1 hc
    simp only [S51_0]
    rw [decide_eq_true (by omega), cond_true, getD_of hc]; rfl
  · intro v _
    simp only [S51_0]
    rw [decide_eq_false (by omega), cond_false]

end Go.Proofs.Ythpgabaeefifbaa

namespace Go.Proofs.Ythpgabaeefifbaa
open Go.Proofs Go.Aw Go.RowKit
set_option maxRecDepth 100000
set_option linter.unusedVariables false
set_option linter.unusedSimpArgs false

theorem Len_0 {n : Int} (h : 0 ≤ n ∧ n ≤ 400000) : (F18 n).2 = 0 := by
  obtain ⟨r, hr, e⟩ := Len_f h
  obtain ⟨h0, h1, h2⟩ := hr
  rw [e]
  unfold lenV
  have hb : r ≤ 1073741824 := by
    by_cases hc : r ≤ 1073741824
    · exact hc
    · have := Int.mul_le_mul (show (1073741824 : Int) ≤ r by omega) (show (1073741824 : Int) ≤ r by omega) (by omega) (by omega)
      omega
  have hx : (if r * r = n * 1099511627776 then r else r + 1) = r ∨ (if r * r = n * 1099511627776 then r else r + 1) = r + 1 := by split <;> simp
  generalize (if r * r = n * 1099511627776 then r else r + 1) = s at hx ⊢
  rw [res_f (by omega) (by omega) (by omega)]

end Go.Proofs.Ythpgabaeefifbaa

namespace Go.Proofs.Ythpgabaeefifbaa
open Go.Proofs Go.Aw Go.RowKit
set_option maxRecDepth 100000
set_option linter.unusedVariables false
set_option linter.unusedSimpArgs false

theorem half_bd {n : Int} (h : -128 ≤ n ∧ n ≤ 128) : -64 ≤ half n ∧ half n ≤ 64 := by
  unfold half
  rw [show ((2 : Int) ^ (min (Int.toNat 1) 64)) = 2 from by decide, Int.fdiv_eq_ediv_of_nonneg _ (by decide)]
  omega
theorem bxS_bd : ∀ (l : List P3) (v : P3 × P3), (∀ p ∈ l, bd 64 p) → bd 64 v.1 → bd 64 v.2 → bd 64 (l.foldl bxS v).1 ∧ bd 64 (l.foldl bxS v).2
  | [], v, _, h1, h2 => ⟨h1, h2⟩
  | p :: l, v, hp, h1, h2 => by
    rw [List.foldl_cons]
    have hb := hp p List.mem_cons_self
    unfold bd at h1 h2 hb
    refine bxS_bd l _ (fun y hy => hp y (List.mem_cons_of_mem _ hy)) ?_ ?_
    · have a := imn_bd v.1.1 p.1; have b := imn_bd v.1.2.1 p.2.1; have c := imn_bd v.1.2.2 p.2.2
      unfold bd bxS; simp only; omega
    · have a := imx_bd v.2.1 p.1; have b := imx_bd v.2.2.1 p.2.1; have c := imx_bd v.2.2.2 p.2.2
      unfold bd bxS; simp only; omega
theorem pts_all {m : ME} (hv : F13 m = 0) : ∀ p ∈ m.1, bd 64 p := fun p hp => by
  obtain ⟨_, _, _, hpt, _⟩ := val_parts hv
  unfold F22 at hpt
  have hpb := pts_bd m _ 0 _ (by omega) hpt
  obtain ⟨j, hj, e⟩ := List.getElem_of_mem hp
  have := hpb j (Nat.zero_le _) hj
  rw [List.getD_eq_getElem?_getD, List.getElem?_eq_getElem hj, Option.getD_some, e] at this
  exact this
theorem mid_bd {m : ME} (hv : F13 m = 0) : bd 64 (midV (bxV m)) := by
  have hall := pts_all hv
  have hp := (pts_one (m := m) (by rw [hv]; rfl)).1
  have h0 : bd 64 (m.1.getD (Int.toNat 0) default) := by
    rw [List.getD_eq_getElem?_getD, List.getElem?_eq_getElem (show Int.toNat 0 < m.1.length from hp), Option.getD_some]
    exact hall _ (List.getElem_mem _)
  obtain ⟨a, b⟩ := bxS_bd (m.1.drop 1) (m.1.getD (Int.toNat 0) default, m.1.getD (Int.toNat 0) default) (fun p hp => hall p (List.mem_of_mem_drop hp)) h0 h0
  change bd 64 (bxV m).1 at a
  change bd 64 (bxV m).2 at b
  unfold bd at a b
  unfold bd midV
  rw [W_eq (n := (bxV m).1.1 + (bxV m).2.1) (by omega) (by omega), W_eq (n := (bxV m).1.2.1 + (bxV m).2.2.1) (by omega) (by omega), W_eq (n := (bxV m).1.2.2 + (bxV m).2.2.2) (by omega) (by omega)]
  exact ⟨half_bd (by omega), half_bd (by omega), half_bd (by omega)⟩

end Go.Proofs.Ythpgabaeefifbaa

namespace Go.Proofs.Ythpgabaeefifbaa
open Go.Proofs Go.Aw Go.RowKit
set_option maxRecDepth 100000
set_option linter.unusedVariables false
set_option linter.unusedSimpArgs false

/-! ### A valid mesh has its tables -/
theorem dead_b {m : ME} {d : Int} (h : F13 m = 0) (hd : 0 ≤ d ∧ d ≤ 2) : ¬ (((F48_f49 (m.1, m.2) d).2 : Int) != 0) = true := by
  rw [show F48_f49 (m.1, m.2) d = _ from tab_b h hd]; show ¬ ((0 : Int) != 0) = true; decide
theorem dead_m {m : ME} {d : Int} (h : F13 m = 0) (hd : 0 ≤ d ∧ d ≤ 2) : ¬ (((F48_f50 (m.1, m.2) d).2 : Int) != 0) = true := by
  rw [show F48_f50 (m.1, m.2) d = _ from tab_m h hd]; show ¬ ((0 : Int) != 0) = true; decide
theorem dead_x {m : ME} (h : F13 m = 0) : ¬ (((F51 (m.1, m.2)).2.2 : Int) != 0) = true := by
  rw [show F51 (m.1, m.2) = _ from box_f h]; show ¬ ((0 : Int) != 0) = true; decide

/-- facet/hold.prepare -/
def F37 (a0 : (List (Int × Int × Int)) × List (Int × Int × Int)) (a1 : Int) : (((List (Int × Int × Int)) × List (Int × Int × Int)) × (List (List (Int × Int))) × (List (List (Int × Int))) × Int) × Int :=
  (bif (((F48_f49 (a0.1, a0.2) a1).2 : Int) != 0) then
   default
  else
   (bif (((F48_f50 (a0.1, a0.2) a1).2 : Int) != 0) then
    default
   else
    (bif (((F51 (a0.1, a0.2)).2.2 : Int) != 0) then
     default
    else
     (((a0.1, a0.2), (F48_f49 (a0.1, a0.2) a1).1, (F48_f50 (a0.1, a0.2) a1).1, (F10 (a0.1, a0.2) ((Int.fdiv (W ((F51 (a0.1, a0.2)).1.1 + (F51 (a0.1, a0.2)).2.1.1)) (2 ^ (min (Int.toNat 1) 64))), (Int.fdiv (W ((F51 (a0.1, a0.2)).1.2.1 + (F51 (a0.1, a0.2)).2.1.2.1)) (2 ^ (min (Int.toNat 1) 64))), (Int.fdiv (W ((F51 (a0.1, a0.2)).1.2.2 + (F51 (a0.1, a0.2)).2.1.2.2)) (2 ^ (min (Int.toNat 1) 64))))).1), (F10 (a0.1, a0.2) ((Int.fdiv (W ((F51 (a0.1, a0.2)).1.1 + (F51 (a0.1, a0.2)).2.1.1)) (2 ^ (min (Int.toNat 1) 64))), (Int.fdiv (W ((F51 (a0.1, a0.2)).1.2.1 + (F51 (a0.1, a0.2)).2.1.2.1)) (2 ^ (min (Int.toNat 1) 64))), (Int.fdiv (W ((F51 (a0.1, a0.2)).1.2.2 + (F51 (a0.1, a0.2)).2.1.2.2)) (2 ^ (min (Int.toNat 1) 64))))).2))))

theorem C37 (a0 : (List (Int × Int × Int)) × List (Int × Int × Int)) (a1 : Int) (l0_1 : a0.1.length ≤ 9223372036854775807) (l0_2 : a0.2.length ≤ 9223372036854775807) (hv : F13 a0 = 0) (hd : 0 ≤ a1 ∧ a1 ≤ 2) : Con Try.prog 37 [(.a [(.s 0 0 a0.1.length 3), (.s 1 0 a0.2.length 3)]), (iv a1)] [(.live false true (flat c37 a0.1)), (.live false true (flat c46 a0.2))] (.t [(.a [(.s 0 0 a0.1.length 3), (.s 1 0 a0.2.length 3), (.s 2 0 (F37 a0 a1).1.2.1.length 1), (.s 3 0 (F37 a0 a1).1.2.2.1.length 1), (iv (F37 a0 a1).1.2.2.2)]), (iv (F37 a0 a1).2)]) [(.live true true (flat c88 (F37 a0 a1).1.2.1)), (.live true true (flat c88 (F37 a0 a1).1.2.2.1))] := by
  refine con_s Try.func37 (by kernel_rfl) fun cx hcx => ?_
  let t0 : List (St Try.prog) := [.c [0, 1] (C48_f49 (a0.1, a0.2) a1 (by (try simp only [List.length_append, List.length_cons, List.length_nil, Int.toNat_zero]); omega) (by (try simp only [List.length_append, List.length_cons, List.length_nil, Int.toNat_zero]); omega))]
  cases h0 : (((F48_f49 (a0.1, a0.2) a1).2 : Int) != 0) with
  | true =>
   have q0 := bne_iff_ne.1 h0
   first | exact absurd h0 (dead_b hv hd) | exact absurd h1 (dead_m hv hd) | exact absurd h2 (dead_x hv)
  | false =>
   have q0 := bne_eq_false_iff_eq.1 h0
   let t1 : List (St Try.prog) := (t0 ++ [.d h0, .c [0, 1] (C48_f50 (a0.1, a0.2) a1 (by (try simp only [List.length_append, List.length_cons, List.length_nil, Int.toNat_zero]); omega) (by (try simp only [List.length_append, List.length_cons, List.length_nil, Int.toNat_zero]); omega))])
   cases h1 : (((F48_f50 (a0.1, a0.2) a1).2 : Int) != 0) with
   | true =>
    have q1 := bne_iff_ne.1 h1
    first | exact absurd h0 (dead_b hv hd) | exact absurd h1 (dead_m hv hd) | exact absurd h2 (dead_x hv)
   | false =>
    have q1 := bne_eq_false_iff_eq.1 h1
    let t2 : List (St Try.prog) := (t1 ++ [.d h1, .c [0, 1] (C51 (a0.1, a0.2) (by (try simp only [List.length_append, List.length_cons, List.length_nil, Int.toNat_zero]); omega) (by (try simp only [List.length_append, List.length_cons, List.length_nil, Int.toNat_zero]); omega))])
    cases h2 : (((F51 (a0.1, a0.2)).2.2 : Int) != 0) with
    | true =>
     have q2 := bne_iff_ne.1 h2
     first | exact absurd h0 (dead_b hv hd) | exact absurd h1 (dead_m hv hd) | exact absurd h2 (dead_x hv)
    | false =>
     have q2 := bne_eq_false_iff_eq.1 h2
     have e := Eq.refl (F37 a0 a1); conv at e => rhs; simp only [F37, h0, h1, h2, cond_true, cond_false]
     rw [e]
     exact rt (t2 ++ [.d h2, .p (show 0 ≤ (1 : Int) from by decide), .p (show 0 ≤ (1 : Int) from by decide), .p (show 0 ≤ (1 : Int) from by decide), .c [0, 1] (C10 (a0.1, a0.2) ((Int.fdiv (W ((F51 (a0.1, a0.2)).1.1 + (F51 (a0.1, a0.2)).2.1.1)) (2 ^ (min (Int.toNat 1) 64))), (Int.fdiv (W ((F51 (a0.1, a0.2)).1.2.1 + (F51 (a0.1, a0.2)).2.1.2.1)) (2 ^ (min (Int.toNat 1) 64))), (Int.fdiv (W ((F51 (a0.1, a0.2)).1.2.2 + (F51 (a0.1, a0.2)).2.1.2.2)) (2 ^ (min (Int.toNat 1) 64)))) (by (try simp only [List.length_append, List.length_cons, List.length_nil, Int.toNat_zero]); omega) (by (try simp only [List.length_append, List.length_cons, List.length_nil, Int.toNat_zero]); omega))]) [] [4, 5] hcx (by kernel_rfl)

/-! ### What Bounds is made of -/
theorem ball_0 {m : ME} (hv : F13 m = 0) : (F10 m (midV (bxV m))).2 = 0 := by
  have hb := mid_bd hv
  have hb2 : bd 256 (midV (bxV m)) := by unfold bd at hb ⊢; omega
  unfold F10
  rw [show F13 (m.1, m.2) = 0 from hv, hwith, hwith, hwith, decide_eq_true hb2.1, decide_eq_true hb2.2.1, decide_eq_true hb2.2.2]
  show (loopF (S10_1 m (midV (bxV m))) (Int.toNat (((m.1.length : Nat) : Int) - 0) + 1) (0, 0)).2 = 0
  rw [ball_lf]
  exact Len_0 (ballW_bd hb2 m.1 0 (pts_all hv) (by omega))
theorem prep_f {m : ME} {d : Int} (h : F13 m = 0) (hd : 0 ≤ d ∧ d ≤ 2) : F37 m d =
    (((m.1, m.2), (F48_f49 m d).1, (F48_f50 m d).1, (F10 m (midV (bxV m))).1), 0) := by
  have h1 := Bool.eq_false_iff.2 (dead_b h hd)
  have h2 := Bool.eq_false_iff.2 (dead_m h hd)
  have h3 := Bool.eq_false_iff.2 (dead_x h)
  have hB := ball_0 h
  have e : F51 (m.1, m.2) = ((bxV m).1, (bxV m).2, 0) := box_f h
  unfold F37
  rw [h1, cond_false, h2, cond_false, h3, cond_false]
  rw [← hB, e]
  rfl
theorem chk_v {m : ME} {q : List Int} {d : Int} (h : ((F36_L m q d : Int) != 0) = false) : F13 m = 0 ∧ 0 ≤ d ∧ d ≤ 2 := by
  rw [chk_h] at h
  obtain ⟨hc, hd⟩ := chD_ok (bne_eq_false_iff_eq.1 h)
  exact ⟨hc.v, hd⟩
abbrev TBL := ME × TB × TB × Int
structure BndPre (T : TBL) (q : List Int) : Prop where
  hr : ∀ r ∈ T.2.1, r.length ≤ q.length
  hn : T.2.1.length ≤ 96
  hm : q.length ≤ 96
  hl : T.2.2.1.length = q.length
  hs : ∀ r ∈ T.2.2.1, r.length = q.length
  hp : (((F52_L_L T.2.1 q).2 : Int) != 0) = false → 1 ≤ (F52_L_L T.2.1 q).1.length ∧ (∀ s ∈ (F52_L_L T.2.1 q).1, 1 ≤ s.1) ∧ (∀ s ∈ (F52_L_L T.2.1 q).1, 1 ≤ s.2)
  he : (((F54_L_L T.2.2.1 q).2 : Int) != 0) = false → W (Int.tdiv (W (Int.tdiv (F68_L q) 1048576)) 1048576) ≠ 0 ∧ F69 (F54_L_L T.2.2.1 q).1.2 (W (Int.tdiv (W (Int.tdiv (F68_L q) 1048576)) 1048576)) ≠ 0
theorem potl_fine {m : ME} {q : List Int} {d : Int} (hC : ChOK m q) (hd : 0 ≤ d ∧ d ≤ 2) (h : (((F52_L_L (F48_f49 m d).1 q).2 : Int) != 0) = false) :
    1 ≤ (F52_L_L (F48_f49 m d).1 q).1.length ∧ (∀ s ∈ (F52_L_L (F48_f49 m d).1 q).1, 1 ≤ s.1) ∧ (∀ s ∈ (F52_L_L (F48_f49 m d).1 q).1, 1 ≤ s.2) := by
  have e : (F48_f49 m d).1 = (pans m).map (rowB m d) := by rw [tab_b hC.v hd]; rfl
  have hn := hC.n; have hl := hC.len; have hs := hC.pos
  have hpl : (pans m).length = m.2.length := List.length_map _
  have hrow : ∀ r ∈ (pans m).map (rowB m d), r.length = q.length ∧ ∀ s ∈ r, okP s := fun r hr => by
    obtain ⟨p, hp, rfl⟩ := List.mem_map.1 hr
    unfold rowB
    refine ⟨by rw [List.length_map]; omega, fun s hsm => ?_⟩
    obtain ⟨p', hp', rfl⟩ := List.mem_map.1 hsm
    exact (Between_okP (vld_pk hC.v hd hp' hp)).2
  rw [e, pot_h (fun r hr => by rw [(hrow r hr).1]; exact Nat.le_refl _) (by omega)] at h ⊢
  have hp := pot_pos hrow hC.ok (bne_eq_false_iff_eq.1 h)
  refine ⟨by rw [hp.1, List.length_map]; omega, fun s hs' => ?_, fun s hs' => ?_⟩
  · have := hp.2 s hs'; omega
  · have := hp.2 s hs'; omega
theorem enl_fine {m : ME} {q : List Int} {d : Int} (hC : ChOK m q) (hd : 0 ≤ d ∧ d ≤ 2) (h : (((F54_L_L (F48_f50 m d).1 q).2 : Int) != 0) = false) :
    W (Int.tdiv (W (Int.tdiv (F68_L q) 1048576)) 1048576) ≠ 0 ∧ F69 (F54_L_L (F48_f50 m d).1 q).1.2 (W (Int.tdiv (W (Int.tdiv (F68_L q) 1048576)) 1048576)) ≠ 0 := by
  have e : (F48_f50 m d).1 = MT m d := by rw [tab_m hC.v hd]; rfl
  have hn := hC.n; have hl := hC.len; have hs := hC.pos; have hle := hC.le
  have hpl : (pans m).length = m.2.length := List.length_map _
  rw [e, en_h (by omega) (by omega)] at h ⊢
  obtain ⟨hp, hv⟩ := en_pos hC hd (bne_eq_false_iff_eq.1 h)
  rw [one_eq hC.ok hC.pos (by omega)]
  unfold vs at hv
  have := (up_pos (a := (addV (((pans m).zip q).flatMap (eC m q d))).1.2) (n := q.sum) (by omega) (by omega)).1
  exact ⟨by omega, by omega⟩
theorem bnd_pre {m : ME} {q : List Int} {d : Int} (h : ((F36_L m q d : Int) != 0) = false) : BndPre (F37 m d).1 q := by
  obtain ⟨hv, hd⟩ := chk_v h
  have p1 := pot_pre h
  have p2 := en_pre h
  have hC : ChOK m q := by rw [chk_h] at h; exact (chD_ok (bne_eq_false_iff_eq.1 h)).1
  rw [prep_f hv hd]
  exact ⟨p1.1, p1.2.1, p1.2.2, p2.1, p2.2.1, fun h0 => potl_fine hC hd h0, fun h0 => enl_fine hC hd h0⟩
theorem ones_len_h (m : ME) : (F20 m).length = m.2.length := by rw [ones_h, List.length_map]

end Go.Proofs.Ythpgabaeefifbaa

namespace Go.Proofs.Ythpgabaeefifbaa
open Go.Proofs Go.Aw Go.RowKit
set_option maxRecDepth 100000
set_option linter.unusedVariables false
set_option linter.unusedSimpArgs false

/-- facet/hold.Bounds at ('L',) -/
def F19_L (a0 : (List (Int × Int × Int)) × List (Int × Int × Int)) (a1 : List (Int)) (a2 : Int) : (Int × Int) × Int :=
  (bif (((F36_L (a0.1, a0.2) a1 a2) : Int) != 0) then
   ((0, 0), (F36_L (a0.1, a0.2) a1 a2))
  else
   (bif (((F37 (a0.1, a0.2) a2).2 : Int) != 0) then
    ((0, 0), (F37 (a0.1, a0.2) a2).2)
   else
    ((F38_L ((a0.1, a0.2), (F37 (a0.1, a0.2) a2).1.2.1, (F37 (a0.1, a0.2) a2).1.2.2.1, (F37 (a0.1, a0.2) a2).1.2.2.2) a1).1, (F38_L ((a0.1, a0.2), (F37 (a0.1, a0.2) a2).1.2.1, (F37 (a0.1, a0.2) a2).1.2.2.1, (F37 (a0.1, a0.2) a2).1.2.2.2) a1).2)))

theorem C19_L (a0 : (List (Int × Int × Int)) × List (Int × Int × Int)) (a1 : List (Int)) (a2 : Int) (l0_1 : a0.1.length ≤ 9223372036854775807) (l0_2 : a0.2.length ≤ 9223372036854775807) (l1 : a1.length ≤ 9223372036854775807) : Con Try.prog 19 [(.a [(.s 0 0 a0.1.length 3), (.s 1 0 a0.2.length 3)]), (.s 2 0 a1.length 1), (iv a2)] [(.live false true (flat c37 a0.1)), (.live false true (flat c46 a0.2)), (.live false true (flat c3 a1))] (.t [(.a (k2 (F19_L a0 a1 a2).1)), (iv (F19_L a0 a1 a2).2)]) [] := by
  refine con_s Try.func19 (by kernel_rfl) fun cx hcx => ?_
  try have hx1 := (bnd_pre h0).hn
  try have hx2 := (bnd_pre h0).hm
  try have hx3 := (bnd_pre h0).hl
  let t0 : List (St Try.prog) := [.c [0, 1, 2] (C36_L (a0.1, a0.2) a1 a2 (by (try simp only [List.length_append, List.length_cons, List.length_nil, Int.toNat_zero]); omega) (by (try simp only [List.length_append, List.length_cons, List.length_nil, Int.toNat_zero]); omega) (by (try simp only [List.length_append, List.length_cons, List.length_nil, Int.toNat_zero]); omega))]
  cases h0 : (((F36_L (a0.1, a0.2) a1 a2) : Int) != 0) with
  | true =>
   have q0 := bne_iff_ne.1 h0
   try have hx1 := (bnd_pre h0).hn
   try have hx2 := (bnd_pre h0).hm
   try have hx3 := (bnd_pre h0).hl
   have e := Eq.refl (F19_L a0 a1 a2); conv at e => rhs; simp only [F19_L, h0, cond_true, cond_false]
   rw [e]
   exact rt (t0 ++ [.d h0]) [] [] hcx (by kernel_rfl)
  | false =>
   have q0 := bne_eq_false_iff_eq.1 h0
   try have hx1 := (bnd_pre h0).hn
   try have hx2 := (bnd_pre h0).hm
   try have hx3 := (bnd_pre h0).hl
   let t1 : List (St Try.prog) := (t0 ++ [.d h0, .c [0, 1] (C37 (a0.1, a0.2) a2 (by (try simp only [List.length_append, List.length_cons, List.length_nil, Int.toNat_zero]); omega) (by (try simp only [List.length_append, List.length_cons, List.length_nil, Int.toNat_zero]); omega) (chk_v h0).1 (chk_v h0).2)])
   cases h1 : (((F37 (a0.1, a0.2) a2).2 : Int) != 0) with
   | true =>
    have q1 := bne_iff_ne.1 h1
    try have hx1 := (bnd_pre h0).hn
    try have hx2 := (bnd_pre h0).hm
    try have hx3 := (bnd_pre h0).hl
    have e := Eq.refl (F19_L a0 a1 a2); conv at e => rhs; simp only [F19_L, h0, h1, cond_true, cond_false]
    rw [e]
    exact rt (t1 ++ [.d h1]) [] [] hcx (by kernel_rfl)
   | false =>
    have q1 := bne_eq_false_iff_eq.1 h1
    try have hx1 := (bnd_pre h0).hn
    try have hx2 := (bnd_pre h0).hm
    try have hx3 := (bnd_pre h0).hl
    have e := Eq.refl (F19_L a0 a1 a2); conv at e => rhs; simp only [F19_L, h0, h1, cond_true, cond_false]
    rw [e]
    exact rt (t1 ++ [.d h1, .c [0, 1, 5, 6, 2] (C38_L ((a0.1, a0.2), (F37 (a0.1, a0.2) a2).1.2.1, (F37 (a0.1, a0.2) a2).1.2.2.1, (F37 (a0.1, a0.2) a2).1.2.2.2) a1 (by (try simp only [List.length_append, List.length_cons, List.length_nil, Int.toNat_zero]); omega) (by (try simp only [List.length_append, List.length_cons, List.length_nil, Int.toNat_zero]); omega) (by (try simp only [List.length_append, List.length_cons, List.length_nil, Int.toNat_zero]); omega) (by (try simp only [List.length_append, List.length_cons, List.length_nil, Int.toNat_zero]); omega) (by (try simp only [List.length_append, List.length_cons, List.length_nil, Int.toNat_zero]); omega) (bnd_pre h0).hr (bnd_pre h0).hn (bnd_pre h0).hm (bnd_pre h0).hl (bnd_pre h0).hs (bnd_pre h0).hp (bnd_pre h0).he)]) [] [] hcx (by kernel_rfl)

/-- facet/hold.Even -/
def F12 (a0 : (List (Int × Int × Int)) × List (Int × Int × Int)) (a1 : Int) : (Int × Int) × Int :=
  (bif (((F13 (a0.1, a0.2)) : Int) != 0) then
   ((0, 0), (F13 (a0.1, a0.2)))
  else
   ((F19_L (a0.1, a0.2) (F20 (a0.1, a0.2)) a1).1, (F19_L (a0.1, a0.2) (F20 (a0.1, a0.2)) a1).2))

theorem C12 (a0 : (List (Int × Int × Int)) × List (Int × Int × Int)) (a1 : Int) (l0_1 : a0.1.length ≤ 9223372036854775807) (l0_2 : a0.2.length ≤ 9223372036854775807) : Con Try.prog 12 [(.a [(.s 0 0 a0.1.length 3), (.s 1 0 a0.2.length 3)]), (iv a1)] [(.live false true (flat c37 a0.1)), (.live false true (flat c46 a0.2))] (.t [(.a (k2 (F12 a0 a1).1)), (iv (F12 a0 a1).2)]) [] := by
  refine con_s Try.func12 (by kernel_rfl) fun cx hcx => ?_
  try have hg := (val_ok h0).2
  have ho := ones_len_h (a0.1, a0.2)
  let t0 : List (St Try.prog) := [.c [0, 1] (C13 (a0.1, a0.2) (by (try simp only [List.length_append, List.length_cons, List.length_nil, Int.toNat_zero]); omega) (by (try simp only [List.length_append, List.length_cons, List.length_nil, Int.toNat_zero]); omega))]
  cases h0 : (((F13 (a0.1, a0.2)) : Int) != 0) with
  | true =>
   have q0 := bne_iff_ne.1 h0
   try have hg := (val_ok h0).2
   have e := Eq.refl (F12 a0 a1); conv at e => rhs; simp only [F12, h0, cond_true, cond_false]
   rw [e]
   exact rt (t0 ++ [.d h0]) [] [] hcx (by kernel_rfl)
  | false =>
   have q0 := bne_eq_false_iff_eq.1 h0
   try have hg := (val_ok h0).2
   have e := Eq.refl (F12 a0 a1); conv at e => rhs; simp only [F12, h0, cond_true, cond_false]
   rw [e]
   exact rt (t0 ++ [.d h0, .c [0, 1] (C20 (a0.1, a0.2) (by (try simp only [List.length_append, List.length_cons, List.length_nil, Int.toNat_zero]); omega) (by (try simp only [List.length_append, List.length_cons, List.length_nil, Int.toNat_zero]); omega) (by (try simp only [List.length_append, List.length_cons, List.length_nil, Int.toNat_zero]); omega)), .c [0, 1, 4] (C19_L (a0.1, a0.2) (F20 (a0.1, a0.2)) a1 (by (try simp only [List.length_append, List.length_cons, List.length_nil, Int.toNat_zero]); omega) (by (try simp only [List.length_append, List.length_cons, List.length_nil, Int.toNat_zero]); omega) (by (try simp only [List.length_append, List.length_cons, List.length_nil, Int.toNat_zero]); omega))]) [] [] hcx (by kernel_rfl)

end Go.Proofs.Ythpgabaeefifbaa

namespace Go.Proofs.Ythpgabaeefifbaa
open Go.Proofs Go.Aw Go.RowKit
set_option maxRecDepth 100000
set_option linter.unusedVariables false
set_option linter.unusedSimpArgs false

/-! ### The bounds of the program and of the document -/
end Go.Proofs.Ythpgabaeefifbaa

namespace Go.Proofs.Ythpgabaeefifbaa
open Go.Proofs Go.Aw Go.RowKit
set_option maxRecDepth 100000
set_option linter.unusedVariables false
set_option linter.unusedSimpArgs false

/-- facet/facetlaw07.sane -/
def F5 : Bool :=
  (bif (((F10 (F11.1, F11.2) (0, 0, 0)).2 : Int) == 0) then
   (bif (((F10 (F11.1, F11.2) (0, 0, 0)).1 : Int) == 1048576) then
    (bif (((F6 (F11.1, F11.2) 1).2 : Int) == 0) then
     (bif (((F6 (F11.1, F11.2) 1).1 : Int) == 1280) then
      (bif (((F12 (F11.1, F11.2) 0).2 : Int) == 0) then
       (bif (decide (((F12 (F11.1, F11.2) 0).1.1 : Int) > 0)) then
        (decide (((F12 (F11.1, F11.2) 0).1.2 : Int) ≤ 1048576))
       else
        false)
      else
       false)
     else
      false)
    else
     false)
   else
    false)
  else
   false)

theorem C5 : Con Try.prog 5 [] [] (.v (.bool F5)) [] := by
  refine con_s Try.func5 (by kernel_rfl) fun cx hcx => ?_
  have ho1 : F11.1.length = 6 := by kernel_rfl
  have ho2 : F11.2.length = 8 := by kernel_rfl
  let t0 : List (St Try.prog) := [.c [] (C11), .c [0, 1] (C10 (F11.1, F11.2) (0, 0, 0) (by (try simp only [List.length_append, List.length_cons, List.length_nil, Int.toNat_zero]); omega) (by (try simp only [List.length_append, List.length_cons, List.length_nil, Int.toNat_zero]); omega)), .c [] (C11), .c [2, 3] (C6 (F11.1, F11.2) 1 (by (try simp only [List.length_append, List.length_cons, List.length_nil, Int.toNat_zero]); omega) (by (try simp only [List.length_append, List.length_cons, List.length_nil, Int.toNat_zero]); omega)), .c [] (C11), .c [4, 5] (C12 (F11.1, F11.2) 0 (by (try simp only [List.length_append, List.length_cons, List.length_nil, Int.toNat_zero]); omega) (by (try simp only [List.length_append, List.length_cons, List.length_nil, Int.toNat_zero]); omega))]
  cases h0 : (((F10 (F11.1, F11.2) (0, 0, 0)).2 : Int) == 0) with
  | true =>
   have q0 := eq_of_beq h0
   let t1 : List (St Try.prog) := (t0 ++ [.d h0])
   cases h1 : (((F10 (F11.1, F11.2) (0, 0, 0)).1 : Int) == 1048576) with
   | true =>
    have q1 := eq_of_beq h1
    let t2 : List (St Try.prog) := (t1 ++ [.d h1])
    cases h2 : (((F6 (F11.1, F11.2) 1).2 : Int) == 0) with
    | true =>
     have q2 := eq_of_beq h2
     let t3 : List (St Try.prog) := (t2 ++ [.d h2])
     cases h3 : (((F6 (F11.1, F11.2) 1).1 : Int) == 1280) with
     | true =>
      have q3 := eq_of_beq h3
      let t4 : List (St Try.prog) := (t3 ++ [.d h3])
      cases h4 : (((F12 (F11.1, F11.2) 0).2 : Int) == 0) with
      | true =>
       have q4 := eq_of_beq h4
       let t5 : List (St Try.prog) := (t4 ++ [.d h4])
       cases h5 : (decide (((F12 (F11.1, F11.2) 0).1.1 : Int) > 0)) with
       | true =>
        have q5 := of_decide_eq_true h5
        have e := Eq.refl F5; conv at e => rhs; simp only [F5, h0, h1, h2, h3, h4, h5, cond_true, cond_false]
        rw [e]
        exact rt (t5 ++ [.d h5]) [] [] hcx (by kernel_rfl)
       | false =>
        have q5 := of_decide_eq_false h5
        have e := Eq.refl F5; conv at e => rhs; simp only [F5, h0, h1, h2, h3, h4, h5, cond_true, cond_false]
        rw [e]
        exact rt (t5 ++ [.d h5]) [] [] hcx (by kernel_rfl)
      | false =>
       have q4 := ne_of_beq_false h4
       have e := Eq.refl F5; conv at e => rhs; simp only [F5, h0, h1, h2, h3, h4, cond_true, cond_false]
       rw [e]
       exact rt (t4 ++ [.d h4]) [] [] hcx (by kernel_rfl)
     | false =>
      have q3 := ne_of_beq_false h3
      have e := Eq.refl F5; conv at e => rhs; simp only [F5, h0, h1, h2, h3, cond_true, cond_false]
      rw [e]
      exact rt (t3 ++ [.d h3]) [] [] hcx (by kernel_rfl)
    | false =>
     have q2 := ne_of_beq_false h2
     have e := Eq.refl F5; conv at e => rhs; simp only [F5, h0, h1, h2, cond_true, cond_false]
     rw [e]
     exact rt (t2 ++ [.d h2]) [] [] hcx (by kernel_rfl)
   | false =>
    have q1 := ne_of_beq_false h1
    have e := Eq.refl F5; conv at e => rhs; simp only [F5, h0, h1, cond_true, cond_false]
    rw [e]
    exact rt (t1 ++ [.d h1]) [] [] hcx (by kernel_rfl)
  | false =>
   have q0 := ne_of_beq_false h0
   have e := Eq.refl F5; conv at e => rhs; simp only [F5, h0, cond_true, cond_false]
   rw [e]
   exact rt (t0 ++ [.d h0]) [] [] hcx (by kernel_rfl)

end Go.Proofs.Ythpgabaeefifbaa

namespace Go.Proofs.Ythpgabaeefifbaa
open Go.Proofs Go.Aw Go.RowKit
set_option maxRecDepth 100000
set_option linter.unusedVariables false
set_option linter.unusedSimpArgs false

theorem sane_h : F5 = true := by kernel_rfl

end Go.Proofs.Ythpgabaeefifbaa

namespace Go.Proofs.Ythpgabaeefifbaa
open Go.Proofs Go.Aw Go.RowKit
set_option maxRecDepth 100000
set_option linter.unusedVariables false
set_option linter.unusedSimpArgs false

/-! ### Work -/
theorem Work_eq (m : ME) (d : Int) : F6 m d = F7 m d := by
  unfold F6 F7
  rw [show F15 (m.1, m.2) = F13 (m.1, m.2) from (val_eq m).symm]
  cases h : (((F13 (m.1, m.2)) : Int) != 0) with
  | true => rfl
  | false =>
    rw [cond_false, cond_false, show F16 d 0 2 = F14 d 0 2 from rfl]
    cases hw : (!(F14 d 0 2)) with
    | true => rfl
    | false =>
      have hd := hwin_f hw
      rw [cond_false, cond_false]
      have : d = 0 ∨ d = 1 ∨ d = 2 := by omega
      clear h hw hd
      rcases this with rfl | rfl | rfl <;> rfl

end Go.Proofs.Ythpgabaeefifbaa

namespace Go.Proofs.Ythpgabaeefifbaa
open Go.Proofs Go.Aw Go.RowKit
set_option maxRecDepth 100000
set_option linter.unusedVariables false
set_option linter.unusedSimpArgs false

/-- facet/facetlaw07.HoldCharges at ('L',) -/
def F3_L (a0 : (List (Int × Int × Int)) × List (Int × Int × Int)) (a1 : List (Int)) (a2 : Int) : Bool :=
  (bif (F4 (a0.1, a0.2) (-1)) then
   F5
  else
   (bif (decide ((((a1.length : Nat) : Int) : Int) > 300)) then
    F5
   else
    (bif (((F8_L (a0.1, a0.2) a1) : Int) == (F9_L (a0.1, a0.2) a1)) then
     (bif (((F6 (a0.1, a0.2) a2).1 : Int) == (F7 (a0.1, a0.2) a2).1) then
      (bif (((F6 (a0.1, a0.2) a2).2 : Int) == (F7 (a0.1, a0.2) a2).2) then
       F5
      else
       false)
     else
      false)
    else
     false)))

theorem C3_L (a0 : (List (Int × Int × Int)) × List (Int × Int × Int)) (a1 : List (Int)) (a2 : Int) (l0_1 : a0.1.length ≤ 9223372036854775807) (l0_2 : a0.2.length ≤ 9223372036854775807) (l1 : a1.length ≤ 9223372036854775807) : Con Try.prog 3 [(.a [(.s 0 0 a0.1.length 3), (.s 1 0 a0.2.length 3)]), (.s 2 0 a1.length 1), (iv a2)] [(.live false true (flat c37 a0.1)), (.live false true (flat c46 a0.2)), (.live false true (flat c3 a1))] (.v (.bool (F3_L a0 a1 a2))) [] := by
  refine con_s Try.func3 (by kernel_rfl) fun cx hcx => ?_
  let t0 : List (St Try.prog) := [.c [0, 1] (C4 (a0.1, a0.2) (-1) (by (try simp only [List.length_append, List.length_cons, List.length_nil, Int.toNat_zero]); omega) (by (try simp only [List.length_append, List.length_cons, List.length_nil, Int.toNat_zero]); omega))]
  cases h0 : (F4 (a0.1, a0.2) (-1)) with
  | true =>
   have e := Eq.refl (F3_L a0 a1 a2); conv at e => rhs; simp only [F3_L, h0, cond_true, cond_false]
   rw [e]
   exact rt (t0 ++ [.d h0, .c [] (C5)]) [] [] hcx (by kernel_rfl)
  | false =>
   let t1 : List (St Try.prog) := (t0 ++ [.d h0])
   cases h1 : (decide ((((a1.length : Nat) : Int) : Int) > 300)) with
   | true =>
    have q1 := of_decide_eq_true h1
    have e := Eq.refl (F3_L a0 a1 a2); conv at e => rhs; simp only [F3_L, h0, h1, cond_true, cond_false]
    rw [e]
    exact rt (t1 ++ [.d h1, .c [] (C5)]) [] [] hcx (by kernel_rfl)
   | false =>
    have q1 := of_decide_eq_false h1
    let t2 : List (St Try.prog) := (t1 ++ [.d h1, .c [0, 1] (C6 (a0.1, a0.2) a2 (by (try simp only [List.length_append, List.length_cons, List.length_nil, Int.toNat_zero]); omega) (by (try simp only [List.length_append, List.length_cons, List.length_nil, Int.toNat_zero]); omega)), .c [0, 1] (C7 (a0.1, a0.2) a2 (by (try simp only [List.length_append, List.length_cons, List.length_nil, Int.toNat_zero]); omega) (by (try simp only [List.length_append, List.length_cons, List.length_nil, Int.toNat_zero]); omega)), .c [0, 1, 2] (C8_L (a0.1, a0.2) a1 (by (try simp only [List.length_append, List.length_cons, List.length_nil, Int.toNat_zero]); omega) (by (try simp only [List.length_append, List.length_cons, List.length_nil, Int.toNat_zero]); omega) (by (try simp only [List.length_append, List.length_cons, List.length_nil, Int.toNat_zero]); omega)), .c [0, 1, 2] (C9_L (a0.1, a0.2) a1 (by (try simp only [List.length_append, List.length_cons, List.length_nil, Int.toNat_zero]); omega) (by (try simp only [List.length_append, List.length_cons, List.length_nil, Int.toNat_zero]); omega) (by (try simp only [List.length_append, List.length_cons, List.length_nil, Int.toNat_zero]); omega))])
    cases h2 : (((F8_L (a0.1, a0.2) a1) : Int) == (F9_L (a0.1, a0.2) a1)) with
    | true =>
     have q2 := eq_of_beq h2
     let t3 : List (St Try.prog) := (t2 ++ [.d h2])
     cases h3 : (((F6 (a0.1, a0.2) a2).1 : Int) == (F7 (a0.1, a0.2) a2).1) with
     | true =>
      have q3 := eq_of_beq h3
      let t4 : List (St Try.prog) := (t3 ++ [.d h3])
      cases h4 : (((F6 (a0.1, a0.2) a2).2 : Int) == (F7 (a0.1, a0.2) a2).2) with
      | true =>
       have q4 := eq_of_beq h4
       have e := Eq.refl (F3_L a0 a1 a2); conv at e => rhs; simp only [F3_L, h0, h1, h2, h3, h4, cond_true, cond_false]
       rw [e]
       exact rt (t4 ++ [.d h4, .c [] (C5)]) [] [] hcx (by kernel_rfl)
      | false =>
       have q4 := ne_of_beq_false h4
       have e := Eq.refl (F3_L a0 a1 a2); conv at e => rhs; simp only [F3_L, h0, h1, h2, h3, h4, cond_true, cond_false]
       rw [e]
       exact rt (t4 ++ [.d h4]) [] [] hcx (by kernel_rfl)
     | false =>
      have q3 := ne_of_beq_false h3
      have e := Eq.refl (F3_L a0 a1 a2); conv at e => rhs; simp only [F3_L, h0, h1, h2, h3, cond_true, cond_false]
      rw [e]
      exact rt (t3 ++ [.d h3]) [] [] hcx (by kernel_rfl)
    | false =>
     have q2 := ne_of_beq_false h2
     have e := Eq.refl (F3_L a0 a1 a2); conv at e => rhs; simp only [F3_L, h0, h1, h2, cond_true, cond_false]
     rw [e]
     exact rt (t2 ++ [.d h2]) [] [] hcx (by kernel_rfl)

end Go.Proofs.Ythpgabaeefifbaa
