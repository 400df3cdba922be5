/-
  Parts of the proofs of the laws: the executor, what functions of the program compute, and that it is what the statements ask. No premise.
-/
import Derived.Test.YtaeagjnpobdglaaGreatVPmv4
set_option linter.unusedVariables false
set_option linter.unusedSimpArgs false
set_option maxHeartbeats 4000000
open Int (toNat)
namespace Go.Proofs.YtaeagjnpobdglaaGreat
open Go.Proofs Go.Aw Go.RowKit
set_option maxRecDepth 100000

theorem row_im {α : Type} {n : Nat} {t : List (List α)} (h : ∀ r ∈ t, r.length = n) (j : Int) : (0 ≤ j ∧ j < (t.length : Int)) → (t.getD (toNat j) default).length = n := fun g => by
 have hlt : toNat j < t.length := by omega
 rw [gdq, List.getElem?_eq_getElem hlt, Option.getD_some]
 exact h _ (List.getElem_mem hlt)
theorem row_le {α : Type} {n : Nat} {t : List (List α)} (h : ∀ r ∈ t, r.length ≤ n) (j : Int) : (0 ≤ j ∧ j < (t.length : Int)) → (t.getD (toNat j) default).length ≤ n := fun g => by
 have hlt : toNat j < t.length := by omega
 rw [gdq, List.getElem?_eq_getElem hlt, Option.getD_some]
 exact h _ (List.getElem_mem hlt)

noncomputable def B96_L_L_0 : Code := (loopAtD [1, 1, 0, 1] [] (bodyOf Tryz.f96) []).1
noncomputable def K96_L_L_0 : List K := (loopAtD [1, 1, 0, 1] [] (bodyOf Tryz.f96) []).2

def st96_L_L_0 (a0 : List (Int × Int)) (a1 : List (Int)) (v2c : List SV) (v2n : Nat) (v3 : Int) : LS := ⟨slN 40 [(1, (.s 1 0 a1.length 1)), (4, (.p 2 0)), (6, (.s 3 0 v2n 2)), (11, (.s 0 0 a0.length 2)), (12, (iv (a0.length : Int))), (13, (iv v3))], [(.live false true (flat c34 a0)), (.live false true (flat c3 a1)), (.live true false [(iv 0), (iv 0)]), (.live true true v2c)]⟩

def S96_L_L_0 (a0 : List (Int × Int)) (a1 : List (Int)) : (List (Int × Int)) × Int → ((List (Int × Int)) × Int) ⊕ ((Int × Int) × Int)
 | (v2, v3) =>
  (bif (decide ((v3 : Int) < (a0.length : Int))) then
   (bif (((F17 (a0.getD (toNat v3) default) (a1.getD (toNat v3) default)).2 : Int) != 0) then
    (.inr ((0, 0), (F17 (a0.getD (toNat v3) default) (a1.getD (toNat v3) default)).2))
   else
    (.inl ((v2 ++ [(F17 (a0.getD (toNat v3) default) (a1.getD (toNat v3) default)).1]), (v3 + 1))))
  else
   (.inr ((F129_L v2).1, (F129_L v2).2)))

theorem L96_L_L_0 (a0 : List (Int × Int)) (a1 : List (Int)) (l0 : a0.length ≤ 9223372036854775807) (l1 : a1.length ≤ 9223372036854775807) (hl : a0.length ≤ a1.length) (hn : a0.length ≤ 9216) {cx : Cx} (hcx : cx.base = 2) : ∀ (n : Nat) (v2 : List (Int × Int)) (v3 : Int), (0 ≤ v3) ∧ (v2.length = toNat v3) ∧ (v3 ≤ a0.length) → toNat ((a0.length : Int) - v3) < n → Aw.Good Tryz.prog none 9 (bodyPost Tryz.prog Tryz.f96 (RR cx (.t [(.a (k2 (loopF (S96_L_L_0 a0 a1) n (v2, v3)).1)), (iv (loopF (S96_L_L_0 a0 a1) n (v2, v3)).2)]) [] [])) cx [] (.l B96_L_L_0 n :: K96_L_L_0) (st96_L_L_0 a0 a1 (flat c34 v2) v2.length v3) := by
 intro n
 induction n with
 | zero => intro v2 v3 hi hn; exact absurd hn (nlz _)
 | succ n ih =>
   intro v2 v3 hi hn
   refine good_round ?_
   cases h0 : (decide ((v3 : Int) < (a0.length : Int))) with
   | true =>
    have q0 := odt h0
    let t1 : List (St Tryz.prog) := [.d h0, .i v3 (a0.length), .L c34_len a0 v3 0 2, .i v3 (a1.length), .L c3_len a1 v3 0 1, .c [] (C17 (a0.getD (toNat v3) default) (a1.getD (toNat v3) default))]
    cases h1 : (((F17 (a0.getD (toNat v3) default) (a1.getD (toNat v3) default)).2 : Int) != 0) with
    | true =>
     have q1 := bne_iff_ne.1 h1
     have e := Eq.refl (S96_L_L_0 a0 a1 (v2, v3)); conv at e => rhs; simp only [S96_L_L_0, h0, h1, cdb]
     rw [loopF_s, e]
     exact rt (t1 ++ [.d h1]) [] [] hcx (by kernel_rfl)
    | false =>
     have q1 := bne_eq_false_iff_eq.1 h1
     have e := Eq.refl (S96_L_L_0 a0 a1 (v2, v3)); conv at e => rhs; simp only [S96_L_L_0, h0, h1, cdb]
     rw [loopF_inl e]
     refine ba (t1 ++ [.d h1, .p (show ((flat c34 v2).length = v2.length * 2 ∧ v2.length + 1 ≤ 2 ^ 40 ∧ (v2.length + 1) * 16 ≤ 2 ^ 47) from app_ok c34_len (by omega) (by omega))]) [] [1, 4, 6, 11, 12, 13] [2, 7] hcx (m := n) B96_L_L_0 (K96_L_L_0) (st96_L_L_0 a0 a1 (flat c34 v2 ++ (k2 (F17 (a0.getD (toNat v3) default) (a1.getD (toNat v3) default)).1)) (v2.length + 1) (W (v3 + 1))) (by kernel_rfl) ?_
     have z0 : (W (v3 + 1)) = (v3 + 1) := W_eq (by omega) (by omega)
     have z1 : (flat c34 v2 ++ (k2 (F17 (a0.getD (toNat v3) default) (a1.getD (toNat v3) default)).1)) = (flat c34 (v2 ++ [(F17 (a0.getD (toNat v3) default) (a1.getD (toNat v3) default)).1])) := (flat_append (c := c34) (l := v2) (m := [(F17 (a0.getD (toNat v3) default) (a1.getD (toNat v3) default)).1])).symm
     have z2 : (v2.length + 1) = (v2 ++ [(F17 (a0.getD (toNat v3) default) (a1.getD (toNat v3) default)).1]).length := len_app v2 [(F17 (a0.getD (toNat v3) default) (a1.getD (toNat v3) default)).1] rfl
     rw [z0, z1, z2]
     exact ih (v2 ++ [(F17 (a0.getD (toNat v3) default) (a1.getD (toNat v3) default)).1]) (v3 + 1) (by refine ⟨?_, ?_, ?_⟩ <;> (try simp only [Ls]) <;> first | omega | assumption | simp) (by (try simp only [Ls]); omega)
   | false =>
    have q0 := odf h0
    have e := Eq.refl (S96_L_L_0 a0 a1 (v2, v3)); conv at e => rhs; simp only [S96_L_L_0, h0, cdb]
    rw [loopF_s, e]
    exact rt [.d h0, .c [3] (C129_L v2 (by omega))] [] [] hcx (by kernel_rfl)

def F96_L_L (a0 : List (Int × Int)) (a1 : List (Int)) : (Int × Int) × Int :=
 (loopF (S96_L_L_0 a0 a1) (toNat ((a0.length : Int) - 0) + 1) (([] : List (Int × Int)), 0))

theorem C96_L_L (a0 : List (Int × Int)) (a1 : List (Int)) (l0 : a0.length ≤ 9223372036854775807) (l1 : a1.length ≤ 9223372036854775807) (hl : a0.length ≤ a1.length) (hn : a0.length ≤ 9216) : Con Tryz.prog 96 [(.s 0 0 a0.length 2), (.s 1 0 a1.length 1)] [(.live false true (flat c34 a0)), (.live false true (flat c3 a1))] (.t [(.a (k2 (F96_L_L a0 a1).1)), (iv (F96_L_L a0 a1).2)]) [] := by
 refine con_s Tryz.func96 (by kernel_rfl) fun cx hcx => ?_
 have e := Eq.refl (F96_L_L a0 a1); conv at e => rhs; simp only [F96_L_L]
 rw [e]
 refine en [] [.slot 6 2] [1, 4, 6, 11, 12, 13] [2, 3] hcx B96_L_L_0 (K96_L_L_0) (st96_L_L_0 a0 a1 (flat c34 ([] : List (Int × Int))) 0 0) (toNat ((a0.length : Int) - 0) + 1) (by kernel_rfl) ?_
 exact L96_L_L_0 a0 a1 l0 l1 hl hn hcx (toNat ((a0.length : Int) - 0) + 1) ([] : List (Int × Int)) 0 (by refine ⟨?_, ?_, ?_⟩ <;> (try simp only [Ls]) <;> first | omega | assumption | simp) (by (try simp only [Ls]); omega)

def c103 (x : List (Int × Int)) : List SV := [(.d (flat c34 x) x.length 2)]
theorem c103_len (x : List (Int × Int)) : (c103 x).length = 1 := rfl

noncomputable def B59_f60_1 : Code := (loopAtD [1, 1, 1, 1, 0, 1, 0, 1, 1, 0, 1, 1, 0, 1] [0] (bodyOf Tryz.f59) []).1
noncomputable def K59_f60_1 (m0 : Nat) : List K := (loopAtD [1, 1, 1, 1, 0, 1, 0, 1, 1, 0, 1, 1, 0, 1] [m0] (bodyOf Tryz.f59) []).2

def st59_f60_1 (a0 : Zm) (a1 : Int) (v10c : List SV) (v10n : Nat) (v11c : List SV) (v11n : Nat) (v12 v13 v14 v15 v16 v17 v18 v19 v20 v21 v22 : Int) : LS := ⟨slN 60 [(1, (iv a1)), (2, (.v (.func (.func 60) #[] #[]))), (8, (.s 2 0 (F90 (a0.1, a0.2)).1.length 9)), (10, (.s 3 0 v10n 1)), (12, (.p 4 0)), (13, (.s 5 0 v11n 2)), (26, (.s 2 0 (F90 (a0.1, a0.2)).1.length 9)), (27, (iv (((F90 (a0.1, a0.2)).1.length : Nat) : Int))), (28, (iv v12)), (32, (.s 2 0 (F90 (a0.1, a0.2)).1.length 9)), (33, (iv (((F90 (a0.1, a0.2)).1.length : Nat) : Int))), (34, (iv v13))], [(.live false true (flat c30 a0.1)), (.live false true (flat c94 a0.2)), (.live true true (flat c124 (F90 (a0.1, a0.2)).1)), (.live true true v10c), (.live true false [(iv v14), (iv v15), (iv v16), (iv v17), (iv v18), (iv v19), (iv v20), (iv v21), (iv v22)]), (.live true true v11c)]⟩

def S59_f60_1 (a0 : Zm) (a1 : Int) : (List (List (Int × Int))) × (List (Int × Int)) × Int × Int × Int × Int × Int × Int × Int × Int × Zt → ((List (List (Int × Int))) × (List (Int × Int)) × Int × Int × Int × Int × Int × Int × Int × Int × Zt) ⊕ (((List (List (Int × Int))) × Int) ⊕ ((List (List (Int × Int))) × Int))
 | (v10, v11, v12, v13, v14, v15, v16, v17, v18, v19, v20, v21, v22) =>
  (bif (decide ((v13 : Int) < (((F90 (a0.1, a0.2)).1.length : Nat) : Int))) then
   (bif (((F60 ((F90 (a0.1, a0.2)).1.getD (toNat v13) default) ((v14, v15, v16), (v17, v18, v19), (v20, v21, v22)) a1).2 : Int) != 0) then
    (.inr (.inr (([] : List (List (Int × Int))), (F60 ((F90 (a0.1, a0.2)).1.getD (toNat v13) default) ((v14, v15, v16), (v17, v18, v19), (v20, v21, v22)) a1).2)))
   else
    (.inl (v10, (v11 ++ [(F60 ((F90 (a0.1, a0.2)).1.getD (toNat v13) default) ((v14, v15, v16), (v17, v18, v19), (v20, v21, v22)) a1).1]), v12, (v13 + 1), v14, v15, v16, v17, v18, v19, v20, v21, v22)))
  else
   (.inr (.inl ((v10 ++ [v11]), (v12 + 1)))))

noncomputable def B59_f60_0 : Code := (loopAtD [1, 1, 1, 1, 0, 1] [] (bodyOf Tryz.f59) []).1
noncomputable def K59_f60_0 : List K := (loopAtD [1, 1, 1, 1, 0, 1] [] (bodyOf Tryz.f59) []).2

def st59_f60_0 (a0 : Zm) (a1 : Int) (v8c : List SV) (v8n : Nat) (v9 : Int) : LS := ⟨slN 60 [(1, (iv a1)), (2, (.v (.func (.func 60) #[] #[]))), (8, (.s 2 0 (F90 (a0.1, a0.2)).1.length 9)), (10, (.s 3 0 v8n 1)), (26, (.s 2 0 (F90 (a0.1, a0.2)).1.length 9)), (27, (iv (((F90 (a0.1, a0.2)).1.length : Nat) : Int))), (28, (iv v9))], [(.live false true (flat c30 a0.1)), (.live false true (flat c94 a0.2)), (.live true true (flat c124 (F90 (a0.1, a0.2)).1)), (.live true true v8c)]⟩

def S59_f60_0 (a0 : Zm) (a1 : Int) : (List (List (Int × Int))) × Int → ((List (List (Int × Int))) × Int) ⊕ ((List (List (Int × Int))) × Int)
 | (v8, v9) =>
  (bif (decide ((v9 : Int) < (((F90 (a0.1, a0.2)).1.length : Nat) : Int))) then
   (loopF (S59_f60_1 a0 a1) (toNat ((((F90 (a0.1, a0.2)).1.length : Nat) : Int) - 0) + 1) (v8, ([] : List (Int × Int)), v9, 0, ((F90 (a0.1, a0.2)).1.getD (toNat v9) default).1.1, ((F90 (a0.1, a0.2)).1.getD (toNat v9) default).1.2.1, ((F90 (a0.1, a0.2)).1.getD (toNat v9) default).1.2.2, ((F90 (a0.1, a0.2)).1.getD (toNat v9) default).2.1.1, ((F90 (a0.1, a0.2)).1.getD (toNat v9) default).2.1.2.1, ((F90 (a0.1, a0.2)).1.getD (toNat v9) default).2.1.2.2, ((F90 (a0.1, a0.2)).1.getD (toNat v9) default).2.2.1, ((F90 (a0.1, a0.2)).1.getD (toNat v9) default).2.2.2.1, ((F90 (a0.1, a0.2)).1.getD (toNat v9) default).2.2.2.2))
  else
   (.inr (v8, 0)))

theorem L59_f60_1 (a0 : Zm) (a1 : Int) (l0_1 : a0.1.length ≤ 9223372036854775807) (l0_2 : a0.2.length ≤ 9223372036854775807) {cx : Cx} (hcx : cx.base = 2)
   (n0 : Nat) (g0 : ∀ (v8 : List (List (Int × Int))) (v9 : Int), (0 ≤ v9) ∧ (v8.length = toNat v9) ∧ (v9 ≤ (F90 (a0.1, a0.2)).1.length) → toNat ((((F90 (a0.1, a0.2)).1.length : Nat) : Int) - v9) < n0 → Aw.Good Tryz.prog none 9 (bodyPost Tryz.prog Tryz.f59 (RR cx (.t [(.s 2 0 (loopF (S59_f60_0 a0 a1) n0 (v8, v9)).1.length 1), (iv (loopF (S59_f60_0 a0 a1) n0 (v8, v9)).2)]) [(.live true true (flat c103 (loopF (S59_f60_0 a0 a1) n0 (v8, v9)).1))] [])) cx [] (.l B59_f60_0 n0 :: K59_f60_0) (st59_f60_0 a0 a1 (flat c103 v8) v8.length v9)) : ∀ (n : Nat) (v10 : List (List (Int × Int))) (v11 : List (Int × Int)) (v12 v13 v14 v15 v16 v17 v18 v19 v20 v21 v22 : Int), (0 ≤ v13) ∧ (v11.length = toNat v13) ∧ (v13 ≤ (F90 (a0.1, a0.2)).1.length) ∧ (v10.length = toNat v12) ∧ (0 ≤ v12) ∧ (v12 < (F90 (a0.1, a0.2)).1.length) ∧ ((0 ≤ v12)) ∧ ((v10.length = toNat v12)) ∧ ((v12 ≤ (F90 (a0.1, a0.2)).1.length)) ∧ (v12 < (((F90 (a0.1, a0.2)).1.length : Nat) : Int)) ∧ (toNat ((((F90 (a0.1, a0.2)).1.length : Nat) : Int) - v12) < n0 + 1) → toNat ((((F90 (a0.1, a0.2)).1.length : Nat) : Int) - v13) < n → Aw.Good Tryz.prog none 9 (bodyPost Tryz.prog Tryz.f59 (RR cx (.t [(.s 2 0 (thenF (S59_f60_0 a0 a1) n0 (loopF (S59_f60_1 a0 a1) n (v10, v11, v12, v13, v14, v15, v16, v17, v18, v19, v20, v21, v22))).1.length 1), (iv (thenF (S59_f60_0 a0 a1) n0 (loopF (S59_f60_1 a0 a1) n (v10, v11, v12, v13, v14, v15, v16, v17, v18, v19, v20, v21, v22))).2)]) [(.live true true (flat c103 (thenF (S59_f60_0 a0 a1) n0 (loopF (S59_f60_1 a0 a1) n (v10, v11, v12, v13, v14, v15, v16, v17, v18, v19, v20, v21, v22))).1))] [])) cx [] (.l B59_f60_1 n :: K59_f60_1 n0) (st59_f60_1 a0 a1 (flat c103 v10) v10.length (flat c34 v11) v11.length v12 v13 v14 v15 v16 v17 v18 v19 v20 v21 v22) := by
 intro n
 induction n with
 | zero => intro v10 v11 v12 v13 v14 v15 v16 v17 v18 v19 v20 v21 v22 hi hn; exact absurd hn (nlz _)
 | succ n ih =>
   intro v10 v11 v12 v13 v14 v15 v16 v17 v18 v19 v20 v21 v22 hi hn
   refine good_round ?_
   have hpl := pan_len (a0.1, a0.2)
   cases h0 : (decide ((v13 : Int) < (((F90 (a0.1, a0.2)).1.length : Nat) : Int))) with
   | true =>
    have q0 := odt h0
    let t1 : List (St Tryz.prog) := [.d h0, .i v13 ((F90 (a0.1, a0.2)).1.length), .L c124_len (F90 (a0.1, a0.2)).1 v13 0 9, .c [] (C60 ((F90 (a0.1, a0.2)).1.getD (toNat v13) default) ((v14, v15, v16), (v17, v18, v19), (v20, v21, v22)) a1)]
    cases h1 : (((F60 ((F90 (a0.1, a0.2)).1.getD (toNat v13) default) ((v14, v15, v16), (v17, v18, v19), (v20, v21, v22)) a1).2 : Int) != 0) with
    | true =>
     have q1 := bne_iff_ne.1 h1
     have e := Eq.refl (S59_f60_1 a0 a1 (v10, v11, v12, v13, v14, v15, v16, v17, v18, v19, v20, v21, v22)); conv at e => rhs; simp only [S59_f60_1, h0, h1, cdb]
     rw [loopF_s, e]
     exact rt (t1 ++ [.d h1]) [.slot 6 1] [8] hcx (by kernel_rfl)
    | false =>
     have q1 := bne_eq_false_iff_eq.1 h1
     have e := Eq.refl (S59_f60_1 a0 a1 (v10, v11, v12, v13, v14, v15, v16, v17, v18, v19, v20, v21, v22)); conv at e => rhs; simp only [S59_f60_1, h0, h1, cdb]
     rw [loopF_inl e]
     refine ba (t1 ++ [.d h1, .p (show ((flat c34 v11).length = v11.length * 2 ∧ v11.length + 1 ≤ 2 ^ 40 ∧ (v11.length + 1) * 16 ≤ 2 ^ 47) from app_ok c34_len (by omega) (by omega))]) [] [1, 2, 8, 10, 12, 13, 26, 27, 28, 32, 33, 34] [2, 3, 4, 9] hcx (m := n) B59_f60_1 (K59_f60_1 n0) (st59_f60_1 a0 a1 (flat c103 v10) (v10.length) (flat c34 v11 ++ (k2 (F60 ((F90 (a0.1, a0.2)).1.getD (toNat v13) default) ((v14, v15, v16), (v17, v18, v19), (v20, v21, v22)) a1).1)) (v11.length + 1) v12 (W (v13 + 1)) v14 v15 v16 v17 v18 v19 v20 v21 v22) (by kernel_rfl) ?_
     have z0 : (W (v13 + 1)) = (v13 + 1) := W_eq (by omega) (by omega)
     have z1 : (flat c34 v11 ++ (k2 (F60 ((F90 (a0.1, a0.2)).1.getD (toNat v13) default) ((v14, v15, v16), (v17, v18, v19), (v20, v21, v22)) a1).1)) = (flat c34 (v11 ++ [(F60 ((F90 (a0.1, a0.2)).1.getD (toNat v13) default) ((v14, v15, v16), (v17, v18, v19), (v20, v21, v22)) a1).1])) := (flat_append (c := c34) (l := v11) (m := [(F60 ((F90 (a0.1, a0.2)).1.getD (toNat v13) default) ((v14, v15, v16), (v17, v18, v19), (v20, v21, v22)) a1).1])).symm
     have z2 : (v11.length + 1) = (v11 ++ [(F60 ((F90 (a0.1, a0.2)).1.getD (toNat v13) default) ((v14, v15, v16), (v17, v18, v19), (v20, v21, v22)) a1).1]).length := len_app v11 [(F60 ((F90 (a0.1, a0.2)).1.getD (toNat v13) default) ((v14, v15, v16), (v17, v18, v19), (v20, v21, v22)) a1).1] rfl
     rw [z0, z1, z2]
     exact ih v10 (v11 ++ [(F60 ((F90 (a0.1, a0.2)).1.getD (toNat v13) default) ((v14, v15, v16), (v17, v18, v19), (v20, v21, v22)) a1).1]) v12 (v13 + 1) v14 v15 v16 v17 v18 v19 v20 v21 v22 (by refine ⟨?_, ?_, ?_, ?_, ?_, ?_, ?_, ?_, ?_, ?_, ?_⟩ <;> (try simp only [Ls]) <;> first | omega | assumption | exact hi.2.1 | exact hi.2.2.1 | exact hi.2.2.2.1 | exact hi.2.2.2.2.1 | exact hi.2.2.2.2.2.1 | exact hi.2.2.2.2.2.2.1 | exact hi.2.2.2.2.2.2.2.1 | exact hi.2.2.2.2.2.2.2.2.1 | exact hi.2.2.2.2.2.2.2.2.2.1 | exact hi.2.2.2.2.2.2.2.2.2.2.1 | simp) (by (try simp only [Ls]); omega)
   | false =>
    have q0 := odf h0
    have e := Eq.refl (S59_f60_1 a0 a1 (v10, v11, v12, v13, v14, v15, v16, v17, v18, v19, v20, v21, v22)); conv at e => rhs; simp only [S59_f60_1, h0, cdb]
    rw [loopF_s, e]
    refine ba [.d h0, .p (show ((flat c34 v11)).length = v11.length * 2 from by simp [flat_lenc c34_len]), .p (show ((flat c103 v10).length = v10.length * 1 ∧ v10.length + 1 ≤ 2 ^ 40 ∧ (v10.length + 1) * 24 ≤ 2 ^ 47) from app_ok c103_len (by omega) (by omega))] [] [1, 2, 8, 10, 26, 27, 28] [2, 7] hcx (m := n0) B59_f60_0 (K59_f60_0) (st59_f60_0 a0 a1 (flat c103 v10 ++ [(.d (flat c34 v11) v11.length 2)]) (v10.length + 1) (W (v12 + 1))) (by kernel_rfl) ?_
    have z0 : (W (v12 + 1)) = (v12 + 1) := W_eq (by omega) (by omega)
    have z1 : (flat c103 v10 ++ [(.d (flat c34 v11) v11.length 2)]) = (flat c103 (v10 ++ [v11])) := (flat_append (c := c103) (l := v10) (m := [v11])).symm
    have z2 : (v10.length + 1) = (v10 ++ [v11]).length := len_app v10 [v11] rfl
    rw [z0, z1, z2]
    exact g0 (v10 ++ [v11]) (v12 + 1) (by refine ⟨?_, ?_, ?_⟩ <;> (try simp only [Ls]) <;> first | omega | assumption | simp) (by (try simp only [Ls]); omega)

theorem L59_f60_0 (a0 : Zm) (a1 : Int) (l0_1 : a0.1.length ≤ 9223372036854775807) (l0_2 : a0.2.length ≤ 9223372036854775807) {cx : Cx} (hcx : cx.base = 2) : ∀ (n : Nat) (v8 : List (List (Int × Int))) (v9 : Int), (0 ≤ v9) ∧ (v8.length = toNat v9) ∧ (v9 ≤ (F90 (a0.1, a0.2)).1.length) → toNat ((((F90 (a0.1, a0.2)).1.length : Nat) : Int) - v9) < n → Aw.Good Tryz.prog none 9 (bodyPost Tryz.prog Tryz.f59 (RR cx (.t [(.s 2 0 (loopF (S59_f60_0 a0 a1) n (v8, v9)).1.length 1), (iv (loopF (S59_f60_0 a0 a1) n (v8, v9)).2)]) [(.live true true (flat c103 (loopF (S59_f60_0 a0 a1) n (v8, v9)).1))] [])) cx [] (.l B59_f60_0 n :: K59_f60_0) (st59_f60_0 a0 a1 (flat c103 v8) v8.length v9) := by
 intro n
 induction n with
 | zero => intro v8 v9 hi hn; exact absurd hn (nlz _)
 | succ n ih =>
   intro v8 v9 hi hn
   refine good_round ?_
   have hpl := pan_len (a0.1, a0.2)
   cases h0 : (decide ((v9 : Int) < (((F90 (a0.1, a0.2)).1.length : Nat) : Int))) with
   | true =>
    have q0 := odt h0
    have e := Eq.refl (S59_f60_0 a0 a1 (v8, v9)); conv at e => rhs; simp only [S59_f60_0, h0, cdb]
    rw [loopF_s, e]
    refine en [.d h0, .i v9 ((F90 (a0.1, a0.2)).1.length), .L c124_len (F90 (a0.1, a0.2)).1 v9 0 9] [.slot 13 2] [1, 2, 8, 10, 12, 13, 26, 27, 28, 32, 33, 34] [2, 3, 4, 5] hcx B59_f60_1 (K59_f60_1 n) (st59_f60_1 a0 a1 (flat c103 v8) (v8.length) (flat c34 ([] : List (Int × Int))) 0 v9 0 (((F90 (a0.1, a0.2)).1.getD (toNat v9) default).1.1) (((F90 (a0.1, a0.2)).1.getD (toNat v9) default).1.2.1) (((F90 (a0.1, a0.2)).1.getD (toNat v9) default).1.2.2) (((F90 (a0.1, a0.2)).1.getD (toNat v9) default).2.1.1) (((F90 (a0.1, a0.2)).1.getD (toNat v9) default).2.1.2.1) (((F90 (a0.1, a0.2)).1.getD (toNat v9) default).2.1.2.2) (((F90 (a0.1, a0.2)).1.getD (toNat v9) default).2.2.1) (((F90 (a0.1, a0.2)).1.getD (toNat v9) default).2.2.2.1) (((F90 (a0.1, a0.2)).1.getD (toNat v9) default).2.2.2.2)) (toNat ((((F90 (a0.1, a0.2)).1.length : Nat) : Int) - 0) + 1) (by kernel_rfl) ?_
    exact L59_f60_1 a0 a1 l0_1 l0_2 hcx n ih (toNat ((((F90 (a0.1, a0.2)).1.length : Nat) : Int) - 0) + 1) v8 ([] : List (Int × Int)) v9 0 (((F90 (a0.1, a0.2)).1.getD (toNat v9) default).1.1) (((F90 (a0.1, a0.2)).1.getD (toNat v9) default).1.2.1) (((F90 (a0.1, a0.2)).1.getD (toNat v9) default).1.2.2) (((F90 (a0.1, a0.2)).1.getD (toNat v9) default).2.1.1) (((F90 (a0.1, a0.2)).1.getD (toNat v9) default).2.1.2.1) (((F90 (a0.1, a0.2)).1.getD (toNat v9) default).2.1.2.2) (((F90 (a0.1, a0.2)).1.getD (toNat v9) default).2.2.1) (((F90 (a0.1, a0.2)).1.getD (toNat v9) default).2.2.2.1) (((F90 (a0.1, a0.2)).1.getD (toNat v9) default).2.2.2.2) (by refine ⟨?_, ?_, ?_, ?_, ?_, ?_, ?_, ?_, ?_, ?_, ?_⟩ <;> (try simp only [Ls]) <;> first | omega | assumption | exact hi.2.1 | exact hi.2.2.1 | exact hi.2.2.2.1 | exact hi.2.2.2.2.1 | exact hi.2.2.2.2.2.1 | exact hi.2.2.2.2.2.2.1 | exact hi.2.2.2.2.2.2.2.1 | exact hi.2.2.2.2.2.2.2.2.1 | exact hi.2.2.2.2.2.2.2.2.2.1 | exact hi.2.2.2.2.2.2.2.2.2.2.1 | simp) (by (try simp only [Ls]); omega)
   | false =>
    have q0 := odf h0
    have e := Eq.refl (S59_f60_0 a0 a1 (v8, v9)); conv at e => rhs; simp only [S59_f60_0, h0, cdb]
    rw [loopF_s, e]
    exact rt [.d h0] [] [3] hcx (by kernel_rfl)

def F59_f60 (a0 : Zm) (a1 : Int) : (List (List (Int × Int))) × Int :=
 (bif (((F90 (a0.1, a0.2)).2 : Int) != 0) then
  (([] : List (List (Int × Int))), (F90 (a0.1, a0.2)).2)
 else
  (loopF (S59_f60_0 a0 a1) (toNat ((((F90 (a0.1, a0.2)).1.length : Nat) : Int) - 0) + 1) (([] : List (List (Int × Int))), 0)))

theorem C59_f60 (a0 : Zm) (a1 : Int) (l0_1 : a0.1.length ≤ 9223372036854775807) (l0_2 : a0.2.length ≤ 9223372036854775807) : Con Tryz.prog 59 [(.a [(.s 0 0 a0.1.length 3), (.s 1 0 a0.2.length 3)]), (iv a1), (.v (.func (.func 60) #[] #[]))] [(.live false true (flat c30 a0.1)), (.live false true (flat c94 a0.2))] (.t [(.s 2 0 (F59_f60 a0 a1).1.length 1), (iv (F59_f60 a0 a1).2)]) [(.live true true (flat c103 (F59_f60 a0 a1).1))] := by
 refine con_s Tryz.func59 (by kernel_rfl) fun cx hcx => ?_
 have hpl := pan_len (a0.1, a0.2)
 let t0 : List (St Tryz.prog) := [.c [0, 1] (C90 (a0.1, a0.2) (by (try simp only [Lt]); omega) (by (try simp only [Lt]); omega))]
 cases h0 : (((F90 (a0.1, a0.2)).2 : Int) != 0) with
 | true =>
  have q0 := bne_iff_ne.1 h0
  have e := Eq.refl (F59_f60 a0 a1); conv at e => rhs; simp only [F59_f60, h0, cdb]
  rw [e]
  exact rt (t0 ++ [.d h0]) [.slot 6 1] [4] hcx (by kernel_rfl)
 | false =>
  have q0 := bne_eq_false_iff_eq.1 h0
  have e := Eq.refl (F59_f60 a0 a1); conv at e => rhs; simp only [F59_f60, h0, cdb]
  rw [e]
  refine en (t0 ++ [.d h0]) [.slot 10 1] [1, 2, 8, 10, 26, 27, 28] [3, 4] hcx B59_f60_0 (K59_f60_0) (st59_f60_0 a0 a1 (flat c103 ([] : List (List (Int × Int)))) 0 0) (toNat ((((F90 (a0.1, a0.2)).1.length : Nat) : Int) - 0) + 1) (by kernel_rfl) ?_
  exact L59_f60_0 a0 a1 l0_1 l0_2 hcx (toNat ((((F90 (a0.1, a0.2)).1.length : Nat) : Int) - 0) + 1) ([] : List (List (Int × Int))) 0 (by refine ⟨?_, ?_, ?_⟩ <;> (try simp only [Ls]) <;> first | omega | assumption | simp) (by (try simp only [Ls]); omega)

noncomputable def B59_f61_1 : Code := (loopAtD [1, 1, 1, 1, 0, 1, 0, 1, 1, 0, 1, 1, 0, 1] [0] (bodyOf Tryz.f59) []).1
noncomputable def K59_f61_1 (m0 : Nat) : List K := (loopAtD [1, 1, 1, 1, 0, 1, 0, 1, 1, 0, 1, 1, 0, 1] [m0] (bodyOf Tryz.f59) []).2

def st59_f61_1 (a0 : Zm) (a1 : Int) (v10c : List SV) (v10n : Nat) (v11c : List SV) (v11n : Nat) (v12 v13 v14 v15 v16 v17 v18 v19 v20 v21 v22 : Int) : LS := ⟨slN 60 [(1, (iv a1)), (2, (.v (.func (.func 61) #[] #[]))), (8, (.s 2 0 (F90 (a0.1, a0.2)).1.length 9)), (10, (.s 3 0 v10n 1)), (12, (.p 4 0)), (13, (.s 5 0 v11n 2)), (26, (.s 2 0 (F90 (a0.1, a0.2)).1.length 9)), (27, (iv (((F90 (a0.1, a0.2)).1.length : Nat) : Int))), (28, (iv v12)), (32, (.s 2 0 (F90 (a0.1, a0.2)).1.length 9)), (33, (iv (((F90 (a0.1, a0.2)).1.length : Nat) : Int))), (34, (iv v13))], [(.live false true (flat c30 a0.1)), (.live false true (flat c94 a0.2)), (.live true true (flat c124 (F90 (a0.1, a0.2)).1)), (.live true true v10c), (.live true false [(iv v14), (iv v15), (iv v16), (iv v17), (iv v18), (iv v19), (iv v20), (iv v21), (iv v22)]), (.live true true v11c)]⟩

def S59_f61_1 (a0 : Zm) (a1 : Int) : (List (List (Int × Int))) × (List (Int × Int)) × Int × Int × Int × Int × Int × Int × Int × Int × Zt → ((List (List (Int × Int))) × (List (Int × Int)) × Int × Int × Int × Int × Int × Int × Int × Int × Zt) ⊕ (((List (List (Int × Int))) × Int) ⊕ ((List (List (Int × Int))) × Int))
 | (v10, v11, v12, v13, v14, v15, v16, v17, v18, v19, v20, v21, v22) =>
  (bif (decide ((v13 : Int) < (((F90 (a0.1, a0.2)).1.length : Nat) : Int))) then
   (bif (((F61 ((F90 (a0.1, a0.2)).1.getD (toNat v13) default) ((v14, v15, v16), (v17, v18, v19), (v20, v21, v22)) a1).2 : Int) != 0) then
    (.inr (.inr (([] : List (List (Int × Int))), (F61 ((F90 (a0.1, a0.2)).1.getD (toNat v13) default) ((v14, v15, v16), (v17, v18, v19), (v20, v21, v22)) a1).2)))
   else
    (.inl (v10, (v11 ++ [(F61 ((F90 (a0.1, a0.2)).1.getD (toNat v13) default) ((v14, v15, v16), (v17, v18, v19), (v20, v21, v22)) a1).1]), v12, (v13 + 1), v14, v15, v16, v17, v18, v19, v20, v21, v22)))
  else
   (.inr (.inl ((v10 ++ [v11]), (v12 + 1)))))

noncomputable def B59_f61_0 : Code := (loopAtD [1, 1, 1, 1, 0, 1] [] (bodyOf Tryz.f59) []).1
noncomputable def K59_f61_0 : List K := (loopAtD [1, 1, 1, 1, 0, 1] [] (bodyOf Tryz.f59) []).2

def st59_f61_0 (a0 : Zm) (a1 : Int) (v8c : List SV) (v8n : Nat) (v9 : Int) : LS := ⟨slN 60 [(1, (iv a1)), (2, (.v (.func (.func 61) #[] #[]))), (8, (.s 2 0 (F90 (a0.1, a0.2)).1.length 9)), (10, (.s 3 0 v8n 1)), (26, (.s 2 0 (F90 (a0.1, a0.2)).1.length 9)), (27, (iv (((F90 (a0.1, a0.2)).1.length : Nat) : Int))), (28, (iv v9))], [(.live false true (flat c30 a0.1)), (.live false true (flat c94 a0.2)), (.live true true (flat c124 (F90 (a0.1, a0.2)).1)), (.live true true v8c)]⟩

def S59_f61_0 (a0 : Zm) (a1 : Int) : (List (List (Int × Int))) × Int → ((List (List (Int × Int))) × Int) ⊕ ((List (List (Int × Int))) × Int)
 | (v8, v9) =>
  (bif (decide ((v9 : Int) < (((F90 (a0.1, a0.2)).1.length : Nat) : Int))) then
   (loopF (S59_f61_1 a0 a1) (toNat ((((F90 (a0.1, a0.2)).1.length : Nat) : Int) - 0) + 1) (v8, ([] : List (Int × Int)), v9, 0, ((F90 (a0.1, a0.2)).1.getD (toNat v9) default).1.1, ((F90 (a0.1, a0.2)).1.getD (toNat v9) default).1.2.1, ((F90 (a0.1, a0.2)).1.getD (toNat v9) default).1.2.2, ((F90 (a0.1, a0.2)).1.getD (toNat v9) default).2.1.1, ((F90 (a0.1, a0.2)).1.getD (toNat v9) default).2.1.2.1, ((F90 (a0.1, a0.2)).1.getD (toNat v9) default).2.1.2.2, ((F90 (a0.1, a0.2)).1.getD (toNat v9) default).2.2.1, ((F90 (a0.1, a0.2)).1.getD (toNat v9) default).2.2.2.1, ((F90 (a0.1, a0.2)).1.getD (toNat v9) default).2.2.2.2))
  else
   (.inr (v8, 0)))

theorem L59_f61_1 (a0 : Zm) (a1 : Int) (l0_1 : a0.1.length ≤ 9223372036854775807) (l0_2 : a0.2.length ≤ 9223372036854775807) {cx : Cx} (hcx : cx.base = 2)
   (n0 : Nat) (g0 : ∀ (v8 : List (List (Int × Int))) (v9 : Int), (0 ≤ v9) ∧ (v8.length = toNat v9) ∧ (v9 ≤ (F90 (a0.1, a0.2)).1.length) → toNat ((((F90 (a0.1, a0.2)).1.length : Nat) : Int) - v9) < n0 → Aw.Good Tryz.prog none 9 (bodyPost Tryz.prog Tryz.f59 (RR cx (.t [(.s 2 0 (loopF (S59_f61_0 a0 a1) n0 (v8, v9)).1.length 1), (iv (loopF (S59_f61_0 a0 a1) n0 (v8, v9)).2)]) [(.live true true (flat c103 (loopF (S59_f61_0 a0 a1) n0 (v8, v9)).1))] [])) cx [] (.l B59_f61_0 n0 :: K59_f61_0) (st59_f61_0 a0 a1 (flat c103 v8) v8.length v9)) : ∀ (n : Nat) (v10 : List (List (Int × Int))) (v11 : List (Int × Int)) (v12 v13 v14 v15 v16 v17 v18 v19 v20 v21 v22 : Int), (0 ≤ v13) ∧ (v11.length = toNat v13) ∧ (v13 ≤ (F90 (a0.1, a0.2)).1.length) ∧ (v10.length = toNat v12) ∧ (0 ≤ v12) ∧ (v12 < (F90 (a0.1, a0.2)).1.length) ∧ ((0 ≤ v12)) ∧ ((v10.length = toNat v12)) ∧ ((v12 ≤ (F90 (a0.1, a0.2)).1.length)) ∧ (v12 < (((F90 (a0.1, a0.2)).1.length : Nat) : Int)) ∧ (toNat ((((F90 (a0.1, a0.2)).1.length : Nat) : Int) - v12) < n0 + 1) → toNat ((((F90 (a0.1, a0.2)).1.length : Nat) : Int) - v13) < n → Aw.Good Tryz.prog none 9 (bodyPost Tryz.prog Tryz.f59 (RR cx (.t [(.s 2 0 (thenF (S59_f61_0 a0 a1) n0 (loopF (S59_f61_1 a0 a1) n (v10, v11, v12, v13, v14, v15, v16, v17, v18, v19, v20, v21, v22))).1.length 1), (iv (thenF (S59_f61_0 a0 a1) n0 (loopF (S59_f61_1 a0 a1) n (v10, v11, v12, v13, v14, v15, v16, v17, v18, v19, v20, v21, v22))).2)]) [(.live true true (flat c103 (thenF (S59_f61_0 a0 a1) n0 (loopF (S59_f61_1 a0 a1) n (v10, v11, v12, v13, v14, v15, v16, v17, v18, v19, v20, v21, v22))).1))] [])) cx [] (.l B59_f61_1 n :: K59_f61_1 n0) (st59_f61_1 a0 a1 (flat c103 v10) v10.length (flat c34 v11) v11.length v12 v13 v14 v15 v16 v17 v18 v19 v20 v21 v22) := by
 intro n
 induction n with
 | zero => intro v10 v11 v12 v13 v14 v15 v16 v17 v18 v19 v20 v21 v22 hi hn; exact absurd hn (nlz _)
 | succ n ih =>
   intro v10 v11 v12 v13 v14 v15 v16 v17 v18 v19 v20 v21 v22 hi hn
   refine good_round ?_
   have hpl := pan_len (a0.1, a0.2)
   cases h0 : (decide ((v13 : Int) < (((F90 (a0.1, a0.2)).1.length : Nat) : Int))) with
   | true =>
    have q0 := odt h0
    let t1 : List (St Tryz.prog) := [.d h0, .i v13 ((F90 (a0.1, a0.2)).1.length), .L c124_len (F90 (a0.1, a0.2)).1 v13 0 9, .c [] (C61 ((F90 (a0.1, a0.2)).1.getD (toNat v13) default) ((v14, v15, v16), (v17, v18, v19), (v20, v21, v22)) a1)]
    cases h1 : (((F61 ((F90 (a0.1, a0.2)).1.getD (toNat v13) default) ((v14, v15, v16), (v17, v18, v19), (v20, v21, v22)) a1).2 : Int) != 0) with
    | true =>
     have q1 := bne_iff_ne.1 h1
     have e := Eq.refl (S59_f61_1 a0 a1 (v10, v11, v12, v13, v14, v15, v16, v17, v18, v19, v20, v21, v22)); conv at e => rhs; simp only [S59_f61_1, h0, h1, cdb]
     rw [loopF_s, e]
     exact rt (t1 ++ [.d h1]) [.slot 6 1] [8] hcx (by kernel_rfl)
    | false =>
     have q1 := bne_eq_false_iff_eq.1 h1
     have e := Eq.refl (S59_f61_1 a0 a1 (v10, v11, v12, v13, v14, v15, v16, v17, v18, v19, v20, v21, v22)); conv at e => rhs; simp only [S59_f61_1, h0, h1, cdb]
     rw [loopF_inl e]
     refine ba (t1 ++ [.d h1, .p (show ((flat c34 v11).length = v11.length * 2 ∧ v11.length + 1 ≤ 2 ^ 40 ∧ (v11.length + 1) * 16 ≤ 2 ^ 47) from app_ok c34_len (by omega) (by omega))]) [] [1, 2, 8, 10, 12, 13, 26, 27, 28, 32, 33, 34] [2, 3, 4, 9] hcx (m := n) B59_f61_1 (K59_f61_1 n0) (st59_f61_1 a0 a1 (flat c103 v10) (v10.length) (flat c34 v11 ++ (k2 (F61 ((F90 (a0.1, a0.2)).1.getD (toNat v13) default) ((v14, v15, v16), (v17, v18, v19), (v20, v21, v22)) a1).1)) (v11.length + 1) v12 (W (v13 + 1)) v14 v15 v16 v17 v18 v19 v20 v21 v22) (by kernel_rfl) ?_
     have z0 : (W (v13 + 1)) = (v13 + 1) := W_eq (by omega) (by omega)
     have z1 : (flat c34 v11 ++ (k2 (F61 ((F90 (a0.1, a0.2)).1.getD (toNat v13) default) ((v14, v15, v16), (v17, v18, v19), (v20, v21, v22)) a1).1)) = (flat c34 (v11 ++ [(F61 ((F90 (a0.1, a0.2)).1.getD (toNat v13) default) ((v14, v15, v16), (v17, v18, v19), (v20, v21, v22)) a1).1])) := (flat_append (c := c34) (l := v11) (m := [(F61 ((F90 (a0.1, a0.2)).1.getD (toNat v13) default) ((v14, v15, v16), (v17, v18, v19), (v20, v21, v22)) a1).1])).symm
     have z2 : (v11.length + 1) = (v11 ++ [(F61 ((F90 (a0.1, a0.2)).1.getD (toNat v13) default) ((v14, v15, v16), (v17, v18, v19), (v20, v21, v22)) a1).1]).length := len_app v11 [(F61 ((F90 (a0.1, a0.2)).1.getD (toNat v13) default) ((v14, v15, v16), (v17, v18, v19), (v20, v21, v22)) a1).1] rfl
     rw [z0, z1, z2]
     exact ih v10 (v11 ++ [(F61 ((F90 (a0.1, a0.2)).1.getD (toNat v13) default) ((v14, v15, v16), (v17, v18, v19), (v20, v21, v22)) a1).1]) v12 (v13 + 1) v14 v15 v16 v17 v18 v19 v20 v21 v22 (by refine ⟨?_, ?_, ?_, ?_, ?_, ?_, ?_, ?_, ?_, ?_, ?_⟩ <;> (try simp only [Ls]) <;> first | omega | assumption | exact hi.2.1 | exact hi.2.2.1 | exact hi.2.2.2.1 | exact hi.2.2.2.2.1 | exact hi.2.2.2.2.2.1 | exact hi.2.2.2.2.2.2.1 | exact hi.2.2.2.2.2.2.2.1 | exact hi.2.2.2.2.2.2.2.2.1 | exact hi.2.2.2.2.2.2.2.2.2.1 | exact hi.2.2.2.2.2.2.2.2.2.2.1 | simp) (by (try simp only [Ls]); omega)
   | false =>
    have q0 := odf h0
    have e := Eq.refl (S59_f61_1 a0 a1 (v10, v11, v12, v13, v14, v15, v16, v17, v18, v19, v20, v21, v22)); conv at e => rhs; simp only [S59_f61_1, h0, cdb]
    rw [loopF_s, e]
    refine ba [.d h0, .p (show ((flat c34 v11)).length = v11.length * 2 from by simp [flat_lenc c34_len]), .p (show ((flat c103 v10).length = v10.length * 1 ∧ v10.length + 1 ≤ 2 ^ 40 ∧ (v10.length + 1) * 24 ≤ 2 ^ 47) from app_ok c103_len (by omega) (by omega))] [] [1, 2, 8, 10, 26, 27, 28] [2, 7] hcx (m := n0) B59_f61_0 (K59_f61_0) (st59_f61_0 a0 a1 (flat c103 v10 ++ [(.d (flat c34 v11) v11.length 2)]) (v10.length + 1) (W (v12 + 1))) (by kernel_rfl) ?_
    have z0 : (W (v12 + 1)) = (v12 + 1) := W_eq (by omega) (by omega)
    have z1 : (flat c103 v10 ++ [(.d (flat c34 v11) v11.length 2)]) = (flat c103 (v10 ++ [v11])) := (flat_append (c := c103) (l := v10) (m := [v11])).symm
    have z2 : (v10.length + 1) = (v10 ++ [v11]).length := len_app v10 [v11] rfl
    rw [z0, z1, z2]
    exact g0 (v10 ++ [v11]) (v12 + 1) (by refine ⟨?_, ?_, ?_⟩ <;> (try simp only [Ls]) <;> first | omega | assumption | simp) (by (try simp only [Ls]); omega)

theorem L59_f61_0 (a0 : Zm) (a1 : Int) (l0_1 : a0.1.length ≤ 9223372036854775807) (l0_2 : a0.2.length ≤ 9223372036854775807) {cx : Cx} (hcx : cx.base = 2) : ∀ (n : Nat) (v8 : List (List (Int × Int))) (v9 : Int), (0 ≤ v9) ∧ (v8.length = toNat v9) ∧ (v9 ≤ (F90 (a0.1, a0.2)).1.length) → toNat ((((F90 (a0.1, a0.2)).1.length : Nat) : Int) - v9) < n → Aw.Good Tryz.prog none 9 (bodyPost Tryz.prog Tryz.f59 (RR cx (.t [(.s 2 0 (loopF (S59_f61_0 a0 a1) n (v8, v9)).1.length 1), (iv (loopF (S59_f61_0 a0 a1) n (v8, v9)).2)]) [(.live true true (flat c103 (loopF (S59_f61_0 a0 a1) n (v8, v9)).1))] [])) cx [] (.l B59_f61_0 n :: K59_f61_0) (st59_f61_0 a0 a1 (flat c103 v8) v8.length v9) := by
 intro n
 induction n with
 | zero => intro v8 v9 hi hn; exact absurd hn (nlz _)
 | succ n ih =>
   intro v8 v9 hi hn
   refine good_round ?_
   have hpl := pan_len (a0.1, a0.2)
   cases h0 : (decide ((v9 : Int) < (((F90 (a0.1, a0.2)).1.length : Nat) : Int))) with
   | true =>
    have q0 := odt h0
    have e := Eq.refl (S59_f61_0 a0 a1 (v8, v9)); conv at e => rhs; simp only [S59_f61_0, h0, cdb]
    rw [loopF_s, e]
    refine en [.d h0, .i v9 ((F90 (a0.1, a0.2)).1.length), .L c124_len (F90 (a0.1, a0.2)).1 v9 0 9] [.slot 13 2] [1, 2, 8, 10, 12, 13, 26, 27, 28, 32, 33, 34] [2, 3, 4, 5] hcx B59_f61_1 (K59_f61_1 n) (st59_f61_1 a0 a1 (flat c103 v8) (v8.length) (flat c34 ([] : List (Int × Int))) 0 v9 0 (((F90 (a0.1, a0.2)).1.getD (toNat v9) default).1.1) (((F90 (a0.1, a0.2)).1.getD (toNat v9) default).1.2.1) (((F90 (a0.1, a0.2)).1.getD (toNat v9) default).1.2.2) (((F90 (a0.1, a0.2)).1.getD (toNat v9) default).2.1.1) (((F90 (a0.1, a0.2)).1.getD (toNat v9) default).2.1.2.1) (((F90 (a0.1, a0.2)).1.getD (toNat v9) default).2.1.2.2) (((F90 (a0.1, a0.2)).1.getD (toNat v9) default).2.2.1) (((F90 (a0.1, a0.2)).1.getD (toNat v9) default).2.2.2.1) (((F90 (a0.1, a0.2)).1.getD (toNat v9) default).2.2.2.2)) (toNat ((((F90 (a0.1, a0.2)).1.length : Nat) : Int) - 0) + 1) (by kernel_rfl) ?_
    exact L59_f61_1 a0 a1 l0_1 l0_2 hcx n ih (toNat ((((F90 (a0.1, a0.2)).1.length : Nat) : Int) - 0) + 1) v8 ([] : List (Int × Int)) v9 0 (((F90 (a0.1, a0.2)).1.getD (toNat v9) default).1.1) (((F90 (a0.1, a0.2)).1.getD (toNat v9) default).1.2.1) (((F90 (a0.1, a0.2)).1.getD (toNat v9) default).1.2.2) (((F90 (a0.1, a0.2)).1.getD (toNat v9) default).2.1.1) (((F90 (a0.1, a0.2)).1.getD (toNat v9) default).2.1.2.1) (((F90 (a0.1, a0.2)).1.getD (toNat v9) default).2.1.2.2) (((F90 (a0.1, a0.2)).1.getD (toNat v9) default).2.2.1) (((F90 (a0.1, a0.2)).1.getD (toNat v9) default).2.2.2.1) (((F90 (a0.1, a0.2)).1.getD (toNat v9) default).2.2.2.2) (by refine ⟨?_, ?_, ?_, ?_, ?_, ?_, ?_, ?_, ?_, ?_, ?_⟩ <;> (try simp only [Ls]) <;> first | omega | assumption | exact hi.2.1 | exact hi.2.2.1 | exact hi.2.2.2.1 | exact hi.2.2.2.2.1 | exact hi.2.2.2.2.2.1 | exact hi.2.2.2.2.2.2.1 | exact hi.2.2.2.2.2.2.2.1 | exact hi.2.2.2.2.2.2.2.2.1 | exact hi.2.2.2.2.2.2.2.2.2.1 | exact hi.2.2.2.2.2.2.2.2.2.2.1 | simp) (by (try simp only [Ls]); omega)
   | false =>
    have q0 := odf h0
    have e := Eq.refl (S59_f61_0 a0 a1 (v8, v9)); conv at e => rhs; simp only [S59_f61_0, h0, cdb]
    rw [loopF_s, e]
    exact rt [.d h0] [] [3] hcx (by kernel_rfl)

def F59_f61 (a0 : Zm) (a1 : Int) : (List (List (Int × Int))) × Int :=
 (bif (((F90 (a0.1, a0.2)).2 : Int) != 0) then
  (([] : List (List (Int × Int))), (F90 (a0.1, a0.2)).2)
 else
  (loopF (S59_f61_0 a0 a1) (toNat ((((F90 (a0.1, a0.2)).1.length : Nat) : Int) - 0) + 1) (([] : List (List (Int × Int))), 0)))

theorem C59_f61 (a0 : Zm) (a1 : Int) (l0_1 : a0.1.length ≤ 9223372036854775807) (l0_2 : a0.2.length ≤ 9223372036854775807) : Con Tryz.prog 59 [(.a [(.s 0 0 a0.1.length 3), (.s 1 0 a0.2.length 3)]), (iv a1), (.v (.func (.func 61) #[] #[]))] [(.live false true (flat c30 a0.1)), (.live false true (flat c94 a0.2))] (.t [(.s 2 0 (F59_f61 a0 a1).1.length 1), (iv (F59_f61 a0 a1).2)]) [(.live true true (flat c103 (F59_f61 a0 a1).1))] := by
 refine con_s Tryz.func59 (by kernel_rfl) fun cx hcx => ?_
 have hpl := pan_len (a0.1, a0.2)
 let t0 : List (St Tryz.prog) := [.c [0, 1] (C90 (a0.1, a0.2) (by (try simp only [Lt]); omega) (by (try simp only [Lt]); omega))]
 cases h0 : (((F90 (a0.1, a0.2)).2 : Int) != 0) with
 | true =>
  have q0 := bne_iff_ne.1 h0
  have e := Eq.refl (F59_f61 a0 a1); conv at e => rhs; simp only [F59_f61, h0, cdb]
  rw [e]
  exact rt (t0 ++ [.d h0]) [.slot 6 1] [4] hcx (by kernel_rfl)
 | false =>
  have q0 := bne_eq_false_iff_eq.1 h0
  have e := Eq.refl (F59_f61 a0 a1); conv at e => rhs; simp only [F59_f61, h0, cdb]
  rw [e]
  refine en (t0 ++ [.d h0]) [.slot 10 1] [1, 2, 8, 10, 26, 27, 28] [3, 4] hcx B59_f61_0 (K59_f61_0) (st59_f61_0 a0 a1 (flat c103 ([] : List (List (Int × Int)))) 0 0) (toNat ((((F90 (a0.1, a0.2)).1.length : Nat) : Int) - 0) + 1) (by kernel_rfl) ?_
  exact L59_f61_0 a0 a1 l0_1 l0_2 hcx (toNat ((((F90 (a0.1, a0.2)).1.length : Nat) : Int) - 0) + 1) ([] : List (List (Int × Int))) 0 (by refine ⟨?_, ?_, ?_⟩ <;> (try simp only [Ls]) <;> first | omega | assumption | simp) (by (try simp only [Ls]); omega)

noncomputable def B63_L_L_0 : Code := (loopAtD [1, 1, 0, 1] [] (bodyOf Tryz.f63) []).1
noncomputable def K63_L_L_0 : List K := (loopAtD [1, 1, 0, 1] [] (bodyOf Tryz.f63) []).2

def st63_L_L_0 (a0 : List (List (Int × Int))) (a1 : List (Int)) (v2c : List SV) (v2n : Nat) (v3 : Int) : LS := ⟨slN 32 [(1, (.s 1 0 a1.length 1)), (6, (.s 2 0 v2n 2)), (11, (.s 0 0 a0.length 1)), (12, (iv (a0.length : Int))), (13, (iv v3))], [(.live false true (flat c103 a0)), (.live false true (flat c3 a1)), (.live true true v2c)]⟩

def S63_L_L_0 (a0 : List (List (Int × Int))) (a1 : List (Int)) : (List (Int × Int)) × Int → ((List (Int × Int)) × Int) ⊕ ((List (Int × Int)) × Int)
 | (v2, v3) =>
  (bif (decide ((v3 : Int) < (a0.length : Int))) then
   (bif (((F96_L_L (a0.getD (toNat v3) default) a1).2 : Int) != 0) then
    (.inr (([] : List (Int × Int)), (F96_L_L (a0.getD (toNat v3) default) a1).2))
   else
    (.inl ((v2 ++ [(F96_L_L (a0.getD (toNat v3) default) a1).1]), (v3 + 1))))
  else
   (.inr (v2, 0)))

theorem L63_L_L_0 (a0 : List (List (Int × Int))) (a1 : List (Int)) (l0 : a0.length ≤ 9223372036854775807) (l1 : a1.length ≤ 9223372036854775807) (hr : ∀ r ∈ a0, r.length ≤ a1.length) (hn : a0.length ≤ 96) (hm : a1.length ≤ 96) {cx : Cx} (hcx : cx.base = 2) : ∀ (n : Nat) (v2 : List (Int × Int)) (v3 : Int), (0 ≤ v3) ∧ (v2.length = toNat v3) ∧ (v3 ≤ a0.length) → toNat ((a0.length : Int) - v3) < n → Aw.Good Tryz.prog none 9 (bodyPost Tryz.prog Tryz.f63 (RR cx (.t [(.s 2 0 (loopF (S63_L_L_0 a0 a1) n (v2, v3)).1.length 2), (iv (loopF (S63_L_L_0 a0 a1) n (v2, v3)).2)]) [(.live true true (flat c34 (loopF (S63_L_L_0 a0 a1) n (v2, v3)).1))] [])) cx [] (.l B63_L_L_0 n :: K63_L_L_0) (st63_L_L_0 a0 a1 (flat c34 v2) v2.length v3) := by
 intro n
 induction n with
 | zero => intro v2 v3 hi hn; exact absurd hn (nlz _)
 | succ n ih =>
   intro v2 v3 hi hn
   refine good_round ?_
   have hrl := row_le hr v3
   cases h0 : (decide ((v3 : Int) < (a0.length : Int))) with
   | true =>
    have q0 := odt h0
    let t1 : List (St Tryz.prog) := [.d h0, .i v3 (a0.length), .L c103_len a0 v3 0 1, .p (d_plain (c := c34) (fun _ => rfl) (a0.getD (toNat v3) default)), .c [3, 1] (C96_L_L (a0.getD (toNat v3) default) a1 (by (try simp only [Lt]); omega) (by omega) (by omega) (by omega))]
    cases h1 : (((F96_L_L (a0.getD (toNat v3) default) a1).2 : Int) != 0) with
    | true =>
     have q1 := bne_iff_ne.1 h1
     have e := Eq.refl (S63_L_L_0 a0 a1 (v2, v3)); conv at e => rhs; simp only [S63_L_L_0, h0, h1, cdb]
     rw [loopF_s, e]
     exact rt (t1 ++ [.d h1]) [.slot 4 2] [5] hcx (by kernel_rfl)
    | false =>
     have q1 := bne_eq_false_iff_eq.1 h1
     have e := Eq.refl (S63_L_L_0 a0 a1 (v2, v3)); conv at e => rhs; simp only [S63_L_L_0, h0, h1, cdb]
     rw [loopF_inl e]
     refine ba (t1 ++ [.d h1, .p (show ((flat c34 v2).length = v2.length * 2 ∧ v2.length + 1 ≤ 2 ^ 40 ∧ (v2.length + 1) * 16 ≤ 2 ^ 47) from app_ok c34_len (by omega) (by omega))]) [] [1, 6, 11, 12, 13] [6] hcx (m := n) B63_L_L_0 (K63_L_L_0) (st63_L_L_0 a0 a1 (flat c34 v2 ++ (k2 (F96_L_L (a0.getD (toNat v3) default) a1).1)) (v2.length + 1) (W (v3 + 1))) (by kernel_rfl) ?_
     have z0 : (W (v3 + 1)) = (v3 + 1) := W_eq (by omega) (by omega)
     have z1 : (flat c34 v2 ++ (k2 (F96_L_L (a0.getD (toNat v3) default) a1).1)) = (flat c34 (v2 ++ [(F96_L_L (a0.getD (toNat v3) default) a1).1])) := (flat_append (c := c34) (l := v2) (m := [(F96_L_L (a0.getD (toNat v3) default) a1).1])).symm
     have z2 : (v2.length + 1) = (v2 ++ [(F96_L_L (a0.getD (toNat v3) default) a1).1]).length := len_app v2 [(F96_L_L (a0.getD (toNat v3) default) a1).1] rfl
     rw [z0, z1, z2]
     exact ih (v2 ++ [(F96_L_L (a0.getD (toNat v3) default) a1).1]) (v3 + 1) (by refine ⟨?_, ?_, ?_⟩ <;> (try simp only [Ls]) <;> first | omega | assumption | simp) (by (try simp only [Ls]); omega)
   | false =>
    have q0 := odf h0
    have e := Eq.refl (S63_L_L_0 a0 a1 (v2, v3)); conv at e => rhs; simp only [S63_L_L_0, h0, cdb]
    rw [loopF_s, e]
    exact rt [.d h0] [] [2] hcx (by kernel_rfl)

def F63_L_L (a0 : List (List (Int × Int))) (a1 : List (Int)) : (List (Int × Int)) × Int :=
 (loopF (S63_L_L_0 a0 a1) (toNat ((a0.length : Int) - 0) + 1) (([] : List (Int × Int)), 0))

theorem C63_L_L (a0 : List (List (Int × Int))) (a1 : List (Int)) (l0 : a0.length ≤ 9223372036854775807) (l1 : a1.length ≤ 9223372036854775807) (hr : ∀ r ∈ a0, r.length ≤ a1.length) (hn : a0.length ≤ 96) (hm : a1.length ≤ 96) : Con Tryz.prog 63 [(.s 0 0 a0.length 1), (.s 1 0 a1.length 1)] [(.live false true (flat c103 a0)), (.live false true (flat c3 a1))] (.t [(.s 2 0 (F63_L_L a0 a1).1.length 2), (iv (F63_L_L a0 a1).2)]) [(.live true true (flat c34 (F63_L_L a0 a1).1))] := by
 refine con_s Tryz.func63 (by kernel_rfl) fun cx hcx => ?_
 have e := Eq.refl (F63_L_L a0 a1); conv at e => rhs; simp only [F63_L_L]
 rw [e]
 refine en [] [.slot 6 2] [1, 6, 11, 12, 13] [2] hcx B63_L_L_0 (K63_L_L_0) (st63_L_L_0 a0 a1 (flat c34 ([] : List (Int × Int))) 0 0) (toNat ((a0.length : Int) - 0) + 1) (by kernel_rfl) ?_
 exact L63_L_L_0 a0 a1 l0 l1 hr hn hm hcx (toNat ((a0.length : Int) - 0) + 1) ([] : List (Int × Int)) 0 (by refine ⟨?_, ?_, ?_⟩ <;> (try simp only [Ls]) <;> first | omega | assumption | simp) (by (try simp only [Ls]); omega)

noncomputable def B65_L_L_1 : Code := (loopAtD [1, 1, 1, 0, 1, 0, 1, 1, 0, 1, 1] [0] (bodyOf Tryz.f65) []).1
noncomputable def K65_L_L_1 (m0 : Nat) : List K := (loopAtD [1, 1, 1, 0, 1, 0, 1, 1, 0, 1, 1] [m0] (bodyOf Tryz.f65) []).2

def st65_L_L_1 (a0 : List (List (Int × Int))) (a1 : List (Int)) (v14c : List SV) (v14n : Nat) (v15c : List SV) (v15n : Nat) (v16 v17 v18 v19 : Int) : LS := ⟨slN 49 [(0, (.s 0 0 a0.length 1)), (1, (.s 1 0 a1.length 1)), (4, (.p 2 0)), (6, (.s 3 0 v14n 2)), (7, (.s 4 0 v15n 1)), (8, (iv v16)), (9, (iv v17)), (12, (.s 1 0 a1.length 1)), (13, (iv (a1.length : Int))), (14, (iv v18)), (19, (.s 1 0 a1.length 1)), (20, (iv (a1.length : Int))), (21, (iv v19))], [(.live false true (flat c103 a0)), (.live false true (flat c3 a1)), (.live true false [(iv 0), (iv 0)]), (.live true true v14c), (.live true true v15c)]⟩

def S65_L_L_1 (a0 : List (List (Int × Int))) (a1 : List (Int)) : (List (Int × Int)) × List (Int) × Int × Zt → ((List (Int × Int)) × List (Int) × Int × Zt) ⊕ (((List (Int × Int)) × List (Int) × Int) ⊕ ((Int × Int) × Int))
 | (v14, v15, v16, v17, v18, v19) =>
  (bif (decide ((v19 : Int) < (a1.length : Int))) then
   (.inl ((v14 ++ [((a0.getD (toNat v19) default).getD (toNat v16) default)]), (v15 ++ [(W (v17 * (a1.getD (toNat v19) default)))]), v16, v17, v18, (v19 + 1)))
  else
   (.inr (.inl (v14, v15, (v18 + 1)))))

noncomputable def B65_L_L_0 : Code := (loopAtD [1, 1, 1, 0, 1] [] (bodyOf Tryz.f65) []).1
noncomputable def K65_L_L_0 : List K := (loopAtD [1, 1, 1, 0, 1] [] (bodyOf Tryz.f65) []).2

def st65_L_L_0 (a0 : List (List (Int × Int))) (a1 : List (Int)) (v11c : List SV) (v11n : Nat) (v12c : List SV) (v12n : Nat) (v13 : Int) : LS := ⟨slN 49 [(0, (.s 0 0 a0.length 1)), (1, (.s 1 0 a1.length 1)), (4, (.p 2 0)), (6, (.s 3 0 v11n 2)), (7, (.s 4 0 v12n 1)), (12, (.s 1 0 a1.length 1)), (13, (iv (a1.length : Int))), (14, (iv v13))], [(.live false true (flat c103 a0)), (.live false true (flat c3 a1)), (.live true false [(iv 0), (iv 0)]), (.live true true v11c), (.live true true v12c)]⟩

def S65_L_L_0 (a0 : List (List (Int × Int))) (a1 : List (Int)) : (List (Int × Int)) × List (Int) × Int → ((List (Int × Int)) × List (Int) × Int) ⊕ ((Int × Int) × Int)
 | (v11, v12, v13) =>
  (bif (decide ((v13 : Int) < (a1.length : Int))) then
   (loopF (S65_L_L_1 a0 a1) (toNat ((a1.length : Int) - 0) + 1) (v11, v12, v13, (a1.getD (toNat v13) default), v13, 0))
  else
   (.inr ((F96_L_L v11 v12).1, (F96_L_L v11 v12).2)))

theorem L65_L_L_1 (a0 : List (List (Int × Int))) (a1 : List (Int)) (l0 : a0.length ≤ 9223372036854775807) (l1 : a1.length ≤ 9223372036854775807) (hl : a0.length = a1.length) (hr : ∀ r ∈ a0, r.length = a1.length) (hm : a1.length ≤ 96) {cx : Cx} (hcx : cx.base = 2)
   (n0 : Nat) (g0 : ∀ (v11 : List (Int × Int)) (v12 : List (Int)) (v13 : Int), (0 ≤ v13) ∧ (v11.length ≤ 96 * toNat v13) ∧ (v12.length = v11.length) ∧ (v13 ≤ a1.length) → toNat ((a1.length : Int) - v13) < n0 → Aw.Good Tryz.prog none 9 (bodyPost Tryz.prog Tryz.f65 (RR cx (.t [(.a (k2 (loopF (S65_L_L_0 a0 a1) n0 (v11, v12, v13)).1)), (iv (loopF (S65_L_L_0 a0 a1) n0 (v11, v12, v13)).2)]) [] [])) cx [] (.l B65_L_L_0 n0 :: K65_L_L_0) (st65_L_L_0 a0 a1 (flat c34 v11) v11.length (flat c3 v12) v12.length v13)) : ∀ (n : Nat) (v14 : List (Int × Int)) (v15 : List (Int)) (v16 v17 v18 v19 : Int), (0 ≤ v19) ∧ (v14.length ≤ 96 * toNat v18 + toNat v19) ∧ (v15.length = v14.length) ∧ (0 ≤ v16) ∧ (v16 < a1.length) ∧ (0 ≤ v18) ∧ (v18 < a1.length) ∧ (v19 ≤ a1.length) ∧ ((0 ≤ v18)) ∧ ((v15.length = v14.length)) ∧ ((v18 ≤ a1.length)) ∧ (v18 < (a1.length : Int)) ∧ (toNat ((a1.length : Int) - v18) < n0 + 1) → toNat ((a1.length : Int) - v19) < n → Aw.Good Tryz.prog none 9 (bodyPost Tryz.prog Tryz.f65 (RR cx (.t [(.a (k2 (thenF (S65_L_L_0 a0 a1) n0 (loopF (S65_L_L_1 a0 a1) n (v14, v15, v16, v17, v18, v19))).1)), (iv (thenF (S65_L_L_0 a0 a1) n0 (loopF (S65_L_L_1 a0 a1) n (v14, v15, v16, v17, v18, v19))).2)]) [] [])) cx [] (.l B65_L_L_1 n :: K65_L_L_1 n0) (st65_L_L_1 a0 a1 (flat c34 v14) v14.length (flat c3 v15) v15.length v16 v17 v18 v19) := by
 intro n
 induction n with
 | zero => intro v14 v15 v16 v17 v18 v19 hi hn; exact absurd hn (nlz _)
 | succ n ih =>
   intro v14 v15 v16 v17 v18 v19 hi hn
   refine good_round ?_
   have hrl := row_im hr v19
   cases h0 : (decide ((v19 : Int) < (a1.length : Int))) with
   | true =>
    have q0 := odt h0
    have e := Eq.refl (S65_L_L_1 a0 a1 (v14, v15, v16, v17, v18, v19)); conv at e => rhs; simp only [S65_L_L_1, h0, cdb]
    rw [loopF_inl e]
    refine ba [.d h0, .i v19 (a1.length), .L c3_len a1 v19 0 1, .i v19 (a0.length), .L c103_len a0 v19 0 1, .p (d_plain (c := c34) (fun _ => rfl) (a0.getD (toNat v19) default)), .i v16 ((a0.getD (toNat v19) default).length), .L c34_len (a0.getD (toNat v19) default) v16 0 2, .p (show ((flat c34 v14).length = v14.length * 2 ∧ v14.length + 1 ≤ 2 ^ 40 ∧ (v14.length + 1) * 16 ≤ 2 ^ 47) from app_ok c34_len (by omega) (by omega)), .p (show ((flat c3 v15).length = v15.length * 1 ∧ v15.length + 1 ≤ 2 ^ 40 ∧ (v15.length + 1) * 8 ≤ 2 ^ 47) from app_ok c3_len (by omega) (by omega))] [] [0, 1, 4, 6, 7, 8, 9, 12, 13, 14, 19, 20, 21] [2, 7, 9] hcx (m := n) B65_L_L_1 (K65_L_L_1 n0) (st65_L_L_1 a0 a1 (flat c34 v14 ++ (k2 ((a0.getD (toNat v19) default).getD (toNat v16) default))) (v14.length + 1) (flat c3 v15 ++ [(iv (W (v17 * (a1.getD (toNat v19) default))))]) (v15.length + 1) v16 v17 v18 (W (v19 + 1))) (by kernel_rfl) ?_
    have z0 : (W (v19 + 1)) = (v19 + 1) := W_eq (by omega) (by omega)
    have z1 : (flat c34 v14 ++ (k2 ((a0.getD (toNat v19) default).getD (toNat v16) default))) = (flat c34 (v14 ++ [((a0.getD (toNat v19) default).getD (toNat v16) default)])) := (flat_append (c := c34) (l := v14) (m := [((a0.getD (toNat v19) default).getD (toNat v16) default)])).symm
    have z2 : (v14.length + 1) = (v14 ++ [((a0.getD (toNat v19) default).getD (toNat v16) default)]).length := len_app v14 [((a0.getD (toNat v19) default).getD (toNat v16) default)] rfl
    have z3 : (flat c3 v15 ++ [(iv (W (v17 * (a1.getD (toNat v19) default))))]) = (flat c3 (v15 ++ [(W (v17 * (a1.getD (toNat v19) default)))])) := (flat_append (c := c3) (l := v15) (m := [(W (v17 * (a1.getD (toNat v19) default)))])).symm
    have z4 : (v15.length + 1) = (v15 ++ [(W (v17 * (a1.getD (toNat v19) default)))]).length := len_app v15 [(W (v17 * (a1.getD (toNat v19) default)))] rfl
    rw [z0, z1, z2, z3, z4]
    exact ih (v14 ++ [((a0.getD (toNat v19) default).getD (toNat v16) default)]) (v15 ++ [(W (v17 * (a1.getD (toNat v19) default)))]) v16 v17 v18 (v19 + 1) (by refine ⟨?_, ?_, ?_, ?_, ?_, ?_, ?_, ?_, ?_, ?_, ?_, ?_, ?_⟩ <;> (try simp only [Ls]) <;> first | omega | assumption | exact hi.2.1 | exact hi.2.2.1 | exact hi.2.2.2.1 | exact hi.2.2.2.2.1 | exact hi.2.2.2.2.2.1 | exact hi.2.2.2.2.2.2.1 | exact hi.2.2.2.2.2.2.2.1 | exact hi.2.2.2.2.2.2.2.2.1 | exact hi.2.2.2.2.2.2.2.2.2.1 | exact hi.2.2.2.2.2.2.2.2.2.2.1 | exact hi.2.2.2.2.2.2.2.2.2.2.2.1 | exact hi.2.2.2.2.2.2.2.2.2.2.2.2.1 | simp) (by (try simp only [Ls]); omega)
   | false =>
    have q0 := odf h0
    have e := Eq.refl (S65_L_L_1 a0 a1 (v14, v15, v16, v17, v18, v19)); conv at e => rhs; simp only [S65_L_L_1, h0, cdb]
    rw [loopF_s, e]
    refine ba [.d h0] [] [0, 1, 4, 6, 7, 12, 13, 14] [2, 3, 4] hcx (m := n0) B65_L_L_0 (K65_L_L_0) (st65_L_L_0 a0 a1 (flat c34 v14) (v14.length) (flat c3 v15) (v15.length) (W (v18 + 1))) (by kernel_rfl) ?_
    have z0 : (W (v18 + 1)) = (v18 + 1) := W_eq (by omega) (by omega)
    rw [z0]
    exact g0 v14 v15 (v18 + 1) (by refine ⟨?_, ?_, ?_, ?_⟩ <;> (try simp only [Ls]) <;> first | omega | assumption | simp) (by (try simp only [Ls]); omega)

theorem L65_L_L_0 (a0 : List (List (Int × Int))) (a1 : List (Int)) (l0 : a0.length ≤ 9223372036854775807) (l1 : a1.length ≤ 9223372036854775807) (hl : a0.length = a1.length) (hr : ∀ r ∈ a0, r.length = a1.length) (hm : a1.length ≤ 96) {cx : Cx} (hcx : cx.base = 2) : ∀ (n : Nat) (v11 : List (Int × Int)) (v12 : List (Int)) (v13 : Int), (0 ≤ v13) ∧ (v11.length ≤ 96 * toNat v13) ∧ (v12.length = v11.length) ∧ (v13 ≤ a1.length) → toNat ((a1.length : Int) - v13) < n → Aw.Good Tryz.prog none 9 (bodyPost Tryz.prog Tryz.f65 (RR cx (.t [(.a (k2 (loopF (S65_L_L_0 a0 a1) n (v11, v12, v13)).1)), (iv (loopF (S65_L_L_0 a0 a1) n (v11, v12, v13)).2)]) [] [])) cx [] (.l B65_L_L_0 n :: K65_L_L_0) (st65_L_L_0 a0 a1 (flat c34 v11) v11.length (flat c3 v12) v12.length v13) := by
 intro n
 induction n with
 | zero => intro v11 v12 v13 hi hn; exact absurd hn (nlz _)
 | succ n ih =>
   intro v11 v12 v13 hi hn
   refine good_round ?_
   cases h0 : (decide ((v13 : Int) < (a1.length : Int))) with
   | true =>
    have q0 := odt h0
    have e := Eq.refl (S65_L_L_0 a0 a1 (v11, v12, v13)); conv at e => rhs; simp only [S65_L_L_0, h0, cdb]
    rw [loopF_s, e]
    refine en [.d h0, .i v13 (a1.length), .L c3_len a1 v13 0 1] [] [0, 1, 4, 6, 7, 8, 9, 12, 13, 14, 19, 20, 21] [2, 3, 4] hcx B65_L_L_1 (K65_L_L_1 n) (st65_L_L_1 a0 a1 (flat c34 v11) (v11.length) (flat c3 v12) (v12.length) v13 (a1.getD (toNat v13) default) v13 0) (toNat ((a1.length : Int) - 0) + 1) (by kernel_rfl) ?_
    exact L65_L_L_1 a0 a1 l0 l1 hl hr hm hcx n ih (toNat ((a1.length : Int) - 0) + 1) v11 v12 v13 (a1.getD (toNat v13) default) v13 0 (by refine ⟨?_, ?_, ?_, ?_, ?_, ?_, ?_, ?_, ?_, ?_, ?_, ?_, ?_⟩ <;> (try simp only [Ls]) <;> first | omega | assumption | exact hi.2.1 | exact hi.2.2.1 | exact hi.2.2.2.1 | exact hi.2.2.2.2.1 | exact hi.2.2.2.2.2.1 | exact hi.2.2.2.2.2.2.1 | exact hi.2.2.2.2.2.2.2.1 | exact hi.2.2.2.2.2.2.2.2.1 | exact hi.2.2.2.2.2.2.2.2.2.1 | exact hi.2.2.2.2.2.2.2.2.2.2.1 | exact hi.2.2.2.2.2.2.2.2.2.2.2.1 | exact hi.2.2.2.2.2.2.2.2.2.2.2.2.1 | simp) (by (try simp only [Ls]); omega)
   | false =>
    have q0 := odf h0
    have e := Eq.refl (S65_L_L_0 a0 a1 (v11, v12, v13)); conv at e => rhs; simp only [S65_L_L_0, h0, cdb]
    rw [loopF_s, e]
    exact rt [.d h0, .c [3, 4] (C96_L_L v11 v12 (by omega) (by omega) (by omega) (by omega))] [] [] hcx (by kernel_rfl)

def F65_L_L (a0 : List (List (Int × Int))) (a1 : List (Int)) : (Int × Int) × Int :=
 (loopF (S65_L_L_0 a0 a1) (toNat ((a1.length : Int) - 0) + 1) (([] : List (Int × Int)), ([] : List (Int)), 0))

theorem C65_L_L (a0 : List (List (Int × Int))) (a1 : List (Int)) (l0 : a0.length ≤ 9223372036854775807) (l1 : a1.length ≤ 9223372036854775807) (hl : a0.length = a1.length) (hr : ∀ r ∈ a0, r.length = a1.length) (hm : a1.length ≤ 96) : Con Tryz.prog 65 [(.s 0 0 a0.length 1), (.s 1 0 a1.length 1)] [(.live false true (flat c103 a0)), (.live false true (flat c3 a1))] (.t [(.a (k2 (F65_L_L a0 a1).1)), (iv (F65_L_L a0 a1).2)]) [] := by
 refine con_s Tryz.func65 (by kernel_rfl) fun cx hcx => ?_
 have e := Eq.refl (F65_L_L a0 a1); conv at e => rhs; simp only [F65_L_L]
 rw [e]
 refine en [] [.slot 6 2, .slot 7 1] [0, 1, 4, 6, 7, 12, 13, 14] [2, 3, 4] hcx B65_L_L_0 (K65_L_L_0) (st65_L_L_0 a0 a1 (flat c34 ([] : List (Int × Int))) 0 (flat c3 ([] : List (Int))) 0 0) (toNat ((a1.length : Int) - 0) + 1) (by kernel_rfl) ?_
 exact L65_L_L_0 a0 a1 l0 l1 hl hr hm hcx (toNat ((a1.length : Int) - 0) + 1) ([] : List (Int × Int)) ([] : List (Int)) 0 (by refine ⟨?_, ?_, ?_, ?_⟩ <;> (try simp only [Ls]) <;> first | omega | assumption | simp) (by (try simp only [Ls]); omega)


abbrev TB := List (List (Int × Int))
theorem tab_gen {S1 : TB × List (Int × Int) × Int × Int × Int × Int × Int × Int × Int × Int × Zt → (TB × List (Int × Int) × Int × Int × Int × Int × Int × Int × Int × Int × Zt) ⊕ ((TB × Int) ⊕ (TB × Int))} {S0 : TB × Int → (TB × Int) ⊕ (TB × Int)}
   (L : List PN) (of : PN → PN → (Int × Int) × Int) (hof : ∀ p ∈ L, ∀ q ∈ L, (of p q).2 = 0)
   (hS1 : ∀ (out : TB) (row : List (Int × Int)) (i j : Int) (q : PN), S1 (out, row, i, j, q.1.1, q.1.2.1, q.1.2.2, q.2.1.1, q.2.1.2.1, q.2.1.2.2, q.2.2.1, q.2.2.2.1, q.2.2.2.2) =
     bif decide (j < (L.length : Int)) then (bif ((of (L.getD (toNat j) default) q).2 != 0) then .inr (.inr ([], (of (L.getD (toNat j) default) q).2)) else .inl (out, row ++ [(of (L.getD (toNat j) default) q).1], i, j + 1, q.1.1, q.1.2.1, q.1.2.2, q.2.1.1, q.2.1.2.1, q.2.1.2.2, q.2.2.1, q.2.2.2.1, q.2.2.2.2)) else .inr (.inl (out ++ [row], i + 1)))
   (hS0 : ∀ (out : TB) (i : Int), S0 (out, i) = bif decide (i < (L.length : Int)) then loopF S1 (toNat ((L.length : Int) - 0) + 1) (out, [], i, 0, (L.getD (toNat i) default).1.1, (L.getD (toNat i) default).1.2.1, (L.getD (toNat i) default).1.2.2, (L.getD (toNat i) default).2.1.1, (L.getD (toNat i) default).2.1.2.1, (L.getD (toNat i) default).2.1.2.2, (L.getD (toNat i) default).2.2.1, (L.getD (toNat i) default).2.2.2.1, (L.getD (toNat i) default).2.2.2.2) else .inr (out, 0)) :
   loopF S0 (toNat ((L.length : Int) - 0) + 1) ([], 0) = (L.map fun q => L.map fun p => (of p q).1, 0) := by
 have snoc : ∀ {α β : Type} (g : α → β) (l : List α) (v : List β), l.foldl (fun v c => v ++ [g c]) v = v ++ l.map g := by
   intro α β g l
   induction l with
   | nil => intro v; simp
   | cons c l ih => intro v; rw [List.foldl_cons, ih]; simp
 have inner : ∀ (out : TB) (i : Int) (q : PN), q ∈ L → loopF S1 (toNat ((L.length : Int) - 0) + 1) (out, [], i, 0, q.1.1, q.1.2.1, q.1.2.2, q.2.1.1, q.2.1.2.1, q.2.1.2.2, q.2.2.1, q.2.2.2.1, q.2.2.2.2) = .inl (out ++ [L.map fun p => (of p q).1], i + 1) := by
   intro out i q hq
   rw [each_loop (fun row j => (out, row, i, j, q.1.1, q.1.2.1, q.1.2.2, q.2.1.1, q.2.1.2.1, q.2.1.2.2, q.2.2.1, q.2.2.2.1, q.2.2.2.2)) (fun row p => .inl (row ++ [(of p q).1])) (fun row => .inl (out ++ [row], i + 1)) (L := L) (fun _ _ => True) ?_ (fun _ _ _ _ _ _ _ => trivial) ?_ (by omega) trivial]
   · rw [foldE_inl, snoc]; rfl
   · intro j c hc row _
     obtain ⟨hlt, hce⟩ := List.getElem?_eq_some_iff.1 hc
     rw [hS1, dqt (by omega), cond_true, getD_of hc, hof c (List.mem_of_getElem? hc) q hq]
     rfl
   · intro row _
     rw [hS1, dqf (by omega), cond_false]
 rw [each_loop (fun out i => (out, i)) (fun out q => .inl (out ++ [L.map fun p => (of p q).1])) (fun out => (out, 0)) (L := L) (fun _ _ => True) ?_ (fun _ _ _ _ _ _ _ => trivial) ?_ (by omega) trivial]
 · rw [foldE_inl, snoc]; rfl
 · intro i c hc out _
   obtain ⟨hlt, hce⟩ := List.getElem?_eq_some_iff.1 hc
   rw [hS0, dqt (by omega), cond_true, getD_of hc, inner out i c (List.mem_of_getElem? hc)]
   rfl
 · intro out _
   rw [hS0, dqf (by omega), cond_false]
abbrev pans (m : ME) : List PN := m.2.map (F101 m)
theorem pan_v {m : ME} (h : F35 m = 0) : F90 m = (pans m, 0) := by
 rw [pan_f, h]; rfl
theorem tab_b {m : ME} {d : Int} (h : F35 m = 0) (hd : 0 ≤ d ∧ d ≤ 2) : F59_f60 m d = ((pans m).map fun q => (pans m).map fun p => (F60 p q d).1, 0) := by
 have hP := pan_v h
 have g := tab_gen (S1 := S59_f60_1 m d) (S0 := S59_f60_0 m d) (F90 m).1 (fun p q => F60 p q d) (by
   rw [hP]; exact fun p hp q hq => (Between_okP (vld_pk h hd hp hq)).1) (fun out row i j q => rfl) (fun out i => rfl)
 unfold F59_f60
 show (bif ((F90 m).2 != 0) then _ else _) = _
 rw [show ((F90 m).2 != 0) = false from by rw [hP]; rfl, cond_false]
 refine Eq.trans g ?_
 rw [hP]
theorem tab_m {m : ME} {d : Int} (h : F35 m = 0) (hd : 0 ≤ d ∧ d ≤ 2) : F59_f61 m d = ((pans m).map fun q => (pans m).map fun p => (F61 p q d).1, 0) := by
 have hP := pan_v h
 have g := tab_gen (S1 := S59_f61_1 m d) (S0 := S59_f61_0 m d) (F90 m).1 (fun p q => F61 p q d) (by
   rw [hP]; exact fun p hp q hq => (Mutual_okP (vld_pk h hd hp hq)).1) (fun out row i j q => rfl) (fun out i => rfl)
 unfold F59_f61
 show (bif ((F90 m).2 != 0) then _ else _) = _
 rw [show ((F90 m).2 != 0) = false from by rw [hP]; rfl, cond_false]
 refine Eq.trans g ?_
 rw [hP]
def okC (q : List Int) : Prop := ∀ c ∈ q, 0 ≤ c ∧ c ≤ 100
def totW (q : List Int) (v : Int) : Int := q.foldl (fun v c => W (v + c)) v
theorem totW_eq : ∀ (q : List Int) (v : Int), okC q → 0 ≤ v → v + 100 * (q.length : Int) ≤ 1000000 → totW q v = v + q.sum ∧ v ≤ v + q.sum ∧ v + q.sum ≤ v + 100 * (q.length : Int)
 | [], v, _, _, _ => by simp [totW]
 | c :: q, v, h, h0, h1 => by
   have hc := h c List.mem_cons_self
   simp only [List.length_cons] at h1
   have ih := totW_eq q (v + c) (fun x hx => h x (List.mem_cons_of_mem _ hx)) (by omega) (by omega)
   have e : totW (c :: q) v = totW q (v + c) := by
     show totW q (W (v + c)) = _
     rw [W_eq (by omega) (by omega)]
   rw [e]
   simp only [List.sum_cons, List.length_cons]
   omega
theorem two_folds : ∀ (q : List Int) (v : Int), (foldE (R := Int) (fun v c => bif (!F55 c 0 100) then .inr 1 else .inl (W (v + c))) q v = .inr 1 ∧ foldE (σ := Unit) (R := Int) (fun _ c => bif (!F55 c 0 100) then .inr 1 else .inl ()) q () = .inr 1) ∨
   (foldE (R := Int) (fun v c => bif (!F55 c 0 100) then .inr 1 else .inl (W (v + c))) q v = .inl (totW q v) ∧ foldE (σ := Unit) (R := Int) (fun _ c => bif (!F55 c 0 100) then .inr 1 else .inl ()) q () = .inl () ∧ okC q)
 | [], v => .inr ⟨rfl, rfl, fun c hc => by simp at hc⟩
 | c :: q, v => by
   simp only [foldE]
   cases hc : (!F55 c 0 100) with
   | true => exact .inl ⟨rfl, rfl⟩
   | false =>
     simp only [cond_false]
     rcases two_folds q (W (v + c)) with h | ⟨h1, h2, h3⟩
     · exact .inl h
     · refine .inr ⟨h1, h2, fun x hx => ?_⟩
       rcases List.mem_cons.1 hx with rfl | hx
       · exact hwin_f hc
       · exact h3 x hx
theorem tot_h (q : List Int) : F98_L q = W ((W (totW q 0 * 1048576)) * 1048576) := by
 unfold F98_L
 rw [each_loop (fun v i => (v, i)) (fun v c => .inl (W (v + c))) (fun v => W ((W (v * 1048576)) * 1048576)) (L := q) (fun _ _ => True) ?_ (fun _ _ _ _ _ _ _ => trivial) ?_ (by omega) trivial]
 · rw [foldE_inl]; rfl
 · intro i c hc v _
   obtain ⟨hlt, hce⟩ := List.getElem?_eq_some_iff.1 hc
   simp only [S98_L_0]
   rw [dqt (by omega), cond_true, getD_of hc]; rfl
 · intro v _
   simp only [S98_L_0]
   rw [dqf (by omega), cond_false]
noncomputable def chV (m : ME) (q : List Int) : Int := bif ((F35 m : Int) != 0) then F35 m else bif (((q.length : Int) : Int) != (m.2.length : Int)) then 1 else
 outE (fun v => bif (v == 0) then 11 else 0) (foldE (R := Int) (fun v c => bif (!F55 c 0 100) then .inr 1 else .inl (W (v + c))) q 0)
theorem vch_f (m : ME) (q : List Int) : F58_L m q = chV m q := by
 unfold F58_L chV
 show (bif ((F35 m : Int) != 0) then F35 m else _) = _
 congr 1
 congr 1
 refine each_loop (fun v i => (v, i)) _ (fun v => bif (v == 0) then 11 else 0) (L := q) (fun _ _ => True) ?_ (fun _ _ _ _ _ _ _ => trivial) ?_ (by omega) trivial
 · intro i c hc v _
   obtain ⟨hlt, hce⟩ := List.getElem?_eq_some_iff.1 hc
   simp only [S58_L_0]
   rw [dqt (by omega), cond_true, getD_of hc]
   cases (!F55 c 0 100) <;> rfl
 · intro v _
   simp only [S58_L_0]
   rw [dqf (by omega), cond_false]
   cases (v == 0) <;> rfl
structure ChOK (m : ME) (q : List Int) : Prop where
 v : F35 m = 0
 len : q.length = m.2.length
 ok : okC q
 pos : 1 ≤ q.sum
 le : q.sum ≤ 9600
 n : 1 ≤ m.2.length ∧ m.2.length ≤ 96
 tot : totW q 0 = q.sum
theorem ch_ok {m : ME} {q : List Int} (h : chV m q = 0) : ChOK m q := by
 unfold chV at h
 cases h1 : ((F35 m : Int) != 0) with
 | true => rw [h1, cond_true] at h; exact absurd h (bne_iff_ne.1 h1)
 | false =>
 rw [h1, cond_false] at h
 have hv := bne_eq_false_iff_eq.1 h1
 obtain ⟨_, n1, n2, _, _⟩ := val_parts hv
 cases h2 : (((q.length : Int) : Int) != (m.2.length : Int)) with
 | true => rw [h2, cond_true] at h; exact absurd h (by decide)
 | false =>
 rw [h2, cond_false] at h
 have hl := bne_eq_false_iff_eq.1 h2
 rcases two_folds q 0 with ⟨g1, _⟩ | ⟨g1, _, g3⟩
 · rw [g1] at h; exact absurd h (by decide)
 · rw [g1] at h
   have ht := totW_eq q 0 g3 (Int.le_refl 0) (by omega)
   simp only [outE] at h
   have hne : totW q 0 ≠ 0 := by
     intro e
     rw [e] at h; exact absurd h (by decide)
   exact ⟨hv, by omega, g3, by omega, by omega, ⟨n1, n2⟩, by omega⟩
noncomputable def chD (m : ME) (q : List Int) (d : Int) : Int := bif (chV m q != 0) then chV m q else bif (!F55 d 0 2) then 1 else 0
theorem chk_h (m : ME) (q : List Int) (d : Int) : F32_L m q d = chD m q d := by
 unfold F32_L chD
 rw [show F58_L (m.1, m.2) q = chV m q from vch_f m q]
theorem chD_ok {m : ME} {q : List Int} {d : Int} (h : chD m q d = 0) : ChOK m q ∧ 0 ≤ d ∧ d ≤ 2 := by
 unfold chD at h
 cases h1 : (chV m q != 0) with
 | true => rw [h1, cond_true] at h; exact absurd h (bne_iff_ne.1 h1)
 | false =>
 rw [h1, cond_false] at h
 cases h2 : (!F55 d 0 2) with
 | true => rw [h2, cond_true] at h; exact absurd h (by decide)
 | false => exact ⟨ch_ok (bne_eq_false_iff_eq.1 h1), hwin_f h2⟩
theorem tab_len {m : ME} {d : Int} {f : PN → PN → Int × Int} {T : TB} {n : Nat} (e : T = (pans m).map fun q => (pans m).map fun p => f p q) (hn : n = m.2.length) : T.length = n ∧ ∀ r ∈ T, r.length = n := by
 subst e hn
 refine ⟨by simp, fun r hr => ?_⟩
 obtain ⟨q, _, rfl⟩ := List.mem_map.1 hr
 simp


noncomputable def sclV (c : (Int × Int) × Int) : (Int × Int) × Int := F17 c.1 c.2
noncomputable def addV (l : List ((Int × Int) × Int)) : (Int × Int) × Int := out8 sumV (fun e => ((0, 0), e)) (shs sclV l [])
theorem okP_vs {a : Int × Int} (h : okP a) : vs a := by unfold okP at h; unfold vs; omega
theorem scl_pos {a : Int × Int} {n : Int} (ha : okP a) (hn : 0 ≤ n ∧ n ≤ 10000) (h : (F17 a n).2 = 0) : n ≤ (F17 a n).1.1 ∧ (F17 a n).1.1 ≤ (F17 a n).1.2 := by
 rw [Scale_f (okP_vs ha) (by omega)] at h ⊢
 unfold okP at ha
 have h1 := sat_mono ha.1 hn.1
 have h2 := sat_mono ha.2.1 hn.1
 have h3 : sat 1 n = n := by unfold sat; rw [Int.one_mul, if_neg (by omega), if_neg (by omega)]
 have e : scl a n = (sat a.1 n, sat a.2 n) := by unfold scl; rw [if_neg (by omega)]
 rw [e] at h ⊢
 rcases res_cases (sat a.1 n) (sat a.2 n) with ⟨g, _⟩ | g
 · rw [g]; simp only; omega
 · rw [g] at h; exact absurd h (by decide)
theorem scl_vs {c : (Int × Int) × Int} (h : (sclV c).2 = 0) : vs (sclV c).1 := scale_vs h
theorem shs_add {l : List ((Int × Int) × Int)} {m : List (Int × Int)} (h : shs sclV l [] = .inl m) (hn : l.length ≤ 9216) : (∀ a ∈ m, vs a) ∧ m.length ≤ 10000 := by
 obtain ⟨e, h0⟩ := shs_inl h
 rw [List.nil_append] at e
 subst e
 exact ⟨fun a ha => by obtain ⟨c, hc, rfl⟩ := List.mem_map.1 ha; exact scl_vs (h0 c hc), by rw [List.length_map]; omega⟩
theorem add_f {xs : List (Int × Int)} {q : List Int} (hl : xs.length ≤ q.length) (hn : xs.length ≤ 9216) : F96_L_L xs q = addV (xs.zip q) := by
 have hz : (xs.zip q).length = xs.length := by rw [List.length_zip]; omega
 unfold F96_L_L addV
 have key := shs_loopF (g := sclV) (S := S96_L_L_0 xs q) (E := fun e => (((0, 0) : Int × Int), e)) (L := xs.zip q) (G := fun l => ((F129_L l).1, (F129_L l).2))
   (fun i c hi l => ?_) (fun l => ?_) (xs.zip q) 0 (toNat ((xs.length : Int) - 0) + 1) [] rfl (Nat.zero_le _) (by omega)
 · refine Eq.trans key ?_
   cases hs : shs sclV (xs.zip q) [] with
   | inr r => rfl
   | inl m =>
     obtain ⟨hv, hm⟩ := shs_add hs (by omega)
     simp only [out8]
     rw [Sum_f hv hm]
 · obtain ⟨h1, h2⟩ := List.getElem?_zip_eq_some.1 hi
   have hlt := (List.getElem?_eq_some_iff.1 h1).1
   simp only [S96_L_L_0]
   rw [dqt (by omega), cond_true, getD_of h1, getD_of h2]
   show _ = bif ((F17 c.1 c.2).2 != 0) then _ else _
   cases ((F17 c.1 c.2).2 != 0) <;> rfl
 · simp only [S96_L_L_0]
   rw [dqf (by rw [hz]; omega), cond_false]
theorem add_pos {l : List ((Int × Int) × Int)} (hl : ∀ c ∈ l, okP c.1 ∧ 0 ≤ c.2 ∧ c.2 ≤ 10000) (h : (addV l).2 = 0) : (l.map (·.2)).sum ≤ (addV l).1.1 ∧ (addV l).1.1 ≤ (addV l).1.2 ∧ vs (addV l).1 := by
 unfold addV at h ⊢
 cases hs : shs sclV l [] with
 | inr r => rw [hs] at h; exact absurd h (shs_inr hs)
 | inl m =>
   rw [hs] at h
   simp only [out8] at h ⊢
   obtain ⟨e, hv⟩ := sumV_0 h
   rw [e]
   obtain ⟨e2, h0⟩ := shs_inl hs
   rw [List.nil_append] at e2
   refine ⟨?_, hv.2.1, hv⟩
   rw [sums_eq, e2]
   simp only [Int.zero_add, List.map_map]
   clear hs h e hv e2
   induction l with
   | nil => simp
   | cons c l ih =>
     have hc := hl c List.mem_cons_self
     have := scl_pos hc.1 hc.2 (h0 c List.mem_cons_self)
     have ih := ih (fun x hx => hl x (List.mem_cons_of_mem _ hx)) (fun x hx => h0 x (List.mem_cons_of_mem _ hx))
     simp only [List.map_cons, List.sum_cons, Function.comp] at ih ⊢
     have e : (sclV c).1.1 = (F17 c.1 c.2).1.1 := rfl
     omega
noncomputable def potV (T : TB) (q : List Int) : List (Int × Int) × Int := out8 (fun l => (l, 0)) (fun e => ([], e)) (shs (fun r : List (Int × Int) => addV (r.zip q)) T [])
theorem pot_h {T : TB} {q : List Int} (hr : ∀ r ∈ T, r.length ≤ q.length) (hm : q.length ≤ 96) : F63_L_L T q = potV T q := by
 unfold F63_L_L potV
 refine shs_loopF (g := fun r : List (Int × Int) => addV (r.zip q)) (S := S63_L_L_0 T q) (E := fun e => (([] : List (Int × Int)), e)) (L := T) (G := fun l => (l, 0))
   (fun i c hi l => ?_) (fun l => ?_) T 0 (toNat ((T.length : Int) - 0) + 1) [] rfl (Nat.zero_le _) (by omega)
 · obtain ⟨hlt, hce⟩ := List.getElem?_eq_some_iff.1 hi
   have hc := hr c (List.mem_of_getElem? hi)
   simp only [S63_L_L_0]
   rw [dqt (by omega), cond_true, getD_of hi, add_f hc (by omega)]
   cases ((addV (c.zip q)).2 != 0) <;> rfl
 · simp only [S63_L_L_0]
   rw [dqf (by omega), cond_false]
theorem pot_pos {T : TB} {q : List Int} (hT : ∀ r ∈ T, r.length = q.length ∧ ∀ s ∈ r, okP s) (hq : okC q) (h : (potV T q).2 = 0) :
   (potV T q).1.length = T.length ∧ ∀ s ∈ (potV T q).1, q.sum ≤ s.1 ∧ s.1 ≤ s.2 ∧ vs s := by
 unfold potV at h ⊢
 cases hs : shs (fun r : List (Int × Int) => addV (r.zip q)) T [] with
 | inr r => rw [hs] at h; exact absurd h (shs_inr hs)
 | inl m =>
   simp only [out8]
   obtain ⟨e, h0⟩ := shs_inl hs
   rw [List.nil_append] at e
   subst e
   refine ⟨by rw [List.length_map], fun s hsm => ?_⟩
   obtain ⟨r, hr, rfl⟩ := List.mem_map.1 hsm
   obtain ⟨hl, hP⟩ := hT r hr
   have hp := add_pos (l := r.zip q) (fun c hc => ⟨hP _ (List.of_mem_zip hc).1, by have := hq _ (List.of_mem_zip hc).2; omega⟩) (h0 r hr)
   have : (r.zip q).map (·.2) = q := List.map_snd_zip (by omega)
   rw [this] at hp
   exact hp


theorem pot_pre {m : ME} {q : List Int} {d : Int} (h : ((F32_L m q d : Int) != 0) = false) : (∀ r ∈ (F59_f60 m d).1, r.length ≤ q.length) ∧ (F59_f60 m d).1.length ≤ 96 ∧ q.length ≤ 96 := by
 rw [chk_h] at h
 obtain ⟨hc, hd⟩ := chD_ok (bne_eq_false_iff_eq.1 h)
 obtain ⟨h1, h2⟩ := tab_len (d := d) (T := (F59_f60 m d).1) (by rw [tab_b hc.v hd]) hc.len.symm.symm
 have := hc.n; have := hc.len
 exact ⟨fun r hr => by rw [h2 r hr]; omega, by omega, by omega⟩
theorem en_pre {m : ME} {q : List Int} {d : Int} (h : ((F32_L m q d : Int) != 0) = false) : (F59_f61 m d).1.length = q.length ∧ (∀ r ∈ (F59_f61 m d).1, r.length = q.length) ∧ q.length ≤ 96 := by
 rw [chk_h] at h
 obtain ⟨hc, hd⟩ := chD_ok (bne_eq_false_iff_eq.1 h)
 obtain ⟨h1, h2⟩ := tab_len (d := d) (T := (F59_f61 m d).1) (by rw [tab_m hc.v hd]) hc.len
 have := hc.n; have := hc.len
 exact ⟨h1, h2, by omega⟩

noncomputable def rowB (m : ME) (d : Int) (pj : PN) : List (Int × Int) := (pans m).map fun p => (F60 p pj d).1
theorem zip_l {α β γ : Type} (f : α → γ) : ∀ (l : List α) (k : List β), (l.map f).zip k = (l.zip k).map (fun c => (f c.1, c.2))
 | [], _ => by simp
 | _ :: _, [] => by simp
 | a :: l, b :: k => by simp [zip_l f l k]

def mapE {γ R : Type} (E : Int → R) : List γ ⊕ Int → List γ ⊕ R
 | .inl m => .inl m
 | .inr e => .inr (E e)
theorem foldl_zip {α β γ : Type} (fx : α → List β) (fy : α → List γ) (hl : ∀ c, (fx c).length = (fy c).length) : ∀ (L : List α) (v : List β × List γ), v.1.length = v.2.length →
   (L.foldl (fun v c => (v.1 ++ fx c, v.2 ++ fy c)) v).1.length = (L.foldl (fun v c => (v.1 ++ fx c, v.2 ++ fy c)) v).2.length ∧
   (L.foldl (fun v c => (v.1 ++ fx c, v.2 ++ fy c)) v).1.zip (L.foldl (fun v c => (v.1 ++ fx c, v.2 ++ fy c)) v).2 = v.1.zip v.2 ++ L.flatMap (fun c => (fx c).zip (fy c))
 | [], v, h => ⟨h, by simp⟩
 | c :: L, v, h => by
   have ih := foldl_zip fx fy hl L (v.1 ++ fx c, v.2 ++ fy c) (by simp only [List.length_append]; rw [h, hl c])
   rw [List.foldl_cons]
   refine ⟨ih.1, ih.2.trans ?_⟩
   simp only [List.flatMap_cons]
   rw [List.zip_append h, List.append_assoc]
theorem foldl_len {α β γ : Type} (fx : α → List β) (fy : α → List γ) (n : Nat) (hn : ∀ c, (fx c).length ≤ n) : ∀ (L : List α) (v : List β × List γ), (L.foldl (fun v c => (v.1 ++ fx c, v.2 ++ fy c)) v).1.length ≤ v.1.length + n * L.length
 | [], v => by simp
 | c :: L, v => by
   have ih := foldl_len fx fy n hn L (v.1 ++ fx c, v.2 ++ fy c)
   have := hn c
   rw [List.foldl_cons, List.length_cons, Nat.mul_succ]
   simp only [List.length_append] at ih
   omega
noncomputable def eC (m : ME) (q : List Int) (d : Int) (c : PN × Int) : List ((Int × Int) × Int) := ((pans m).zip q).map fun e => ((F61 c.1 e.1 d).1, W (c.2 * e.2))
noncomputable def eX (m : ME) (q : List Int) (d : Int) (c : PN × Int) : List (Int × Int) := ((pans m).zip q).map fun e => (F61 c.1 e.1 d).1
noncomputable def eY (m : ME) (q : List Int) (c : PN × Int) : List Int := ((pans m).zip q).map fun e => W (c.2 * e.2)
theorem eXY (m : ME) (q : List Int) (d : Int) (c : PN × Int) : (eX m q d c).zip (eY m q c) = eC m q d c := by
 unfold eX eY eC
 generalize (pans m).zip q = L
 induction L with
 | nil => rfl
 | cons e L ih => simp only [List.map_cons, List.zip_cons_cons, ih]
theorem snocs {α β : Type} (g : α → β) (l : List α) (v : List β) : l.foldl (fun v c => v ++ [g c]) v = v ++ l.map g := by
 induction l generalizing v with
 | nil => simp
 | cons c l ih => rw [List.foldl_cons, ih]; simp
theorem snocs2 {α β γ : Type} (g : α → β) (h : α → γ) (l : List α) (v : List β × List γ) : l.foldl (fun v c => (v.1 ++ [g c], v.2 ++ [h c])) v = (v.1 ++ l.map g, v.2 ++ l.map h) := by
 induction l generalizing v with
 | nil => simp
 | cons c l ih => rw [List.foldl_cons, ih]; simp
noncomputable def MT (m : ME) (d : Int) : TB := (pans m).map fun q => (pans m).map fun p => (F61 p q d).1
theorem MT_get {m : ME} {d : Int} {i j : Nat} {p r : PN} (hi : (pans m)[i]? = some p) (hj : (pans m)[j]? = some r) : ((MT m d).getD (toNat (j : Int)) default).getD (toNat (i : Int)) default = (F61 p r d).1 := by
 have e1 : (MT m d)[j]? = some ((pans m).map fun p => (F61 p r d).1) := by unfold MT; rw [List.getElem?_map, hj]; rfl
 rw [getD_of e1]
 have e2 : ((pans m).map fun p => (F61 p r d).1)[i]? = some (F61 p r d).1 := by rw [List.getElem?_map, hi]; rfl
 rw [getD_of e2]
theorem en_row {m : ME} {q : List Int} {d : Int} (hl : (pans m).length = q.length) (xs : List (Int × Int)) (ys : List Int) (i : Nat) {c : PN × Int} (hi : ((pans m).zip q)[i]? = some c) :
   loopF (S65_L_L_1 (MT m d) q) (toNat ((q.length : Int) - 0) + 1) (xs, ys, (i : Int), c.2, (i : Int), 0) = .inl (xs ++ eX m q d c, ys ++ eY m q c, (i : Int) + 1) := by
 obtain ⟨hi1, hi2⟩ := List.getElem?_zip_eq_some.1 hi
 have hz : ((pans m).zip q).length = q.length := by rw [List.length_zip]; omega
 have key := each_loop (S := S65_L_L_1 (MT m d) q) (fun (v : List (Int × Int) × List Int) j => (v.1, v.2, (i : Int), c.2, (i : Int), j)) (fun v e => .inl (v.1 ++ [(F61 c.1 e.1 d).1], v.2 ++ [W (c.2 * e.2)])) (fun v => .inl (v.1, v.2, (i : Int) + 1)) (L := (pans m).zip q) (v := (xs, ys)) (n := toNat ((q.length : Int) - 0) + 1) (fun _ _ => True) ?_ (fun _ _ _ _ _ _ _ => trivial) ?_ (by omega) trivial
 · refine Eq.trans key ?_
   rw [foldE_inl, snocs2]; rfl
 · intro j e hj v _
   obtain ⟨h1, h2⟩ := List.getElem?_zip_eq_some.1 hj
   have hlt := (List.getElem?_eq_some_iff.1 h2).1
   simp only [S65_L_L_1]
   rw [dqt (by omega), cond_true, MT_get hi1 h1, getD_of h2]
   rfl
 · intro v _
   simp only [S65_L_L_1]
   rw [dqf (by omega), cond_false]
theorem en_h {m : ME} {q : List Int} {d : Int} (hl : (pans m).length = q.length) (hm : q.length ≤ 96) : F65_L_L (MT m d) q = addV (((pans m).zip q).flatMap (eC m q d)) := by
 have hz : ((pans m).zip q).length = q.length := by rw [List.length_zip]; omega
 unfold F65_L_L
 have key := each_loop (S := S65_L_L_0 (MT m d) q) (fun (v : List (Int × Int) × List Int) i => (v.1, v.2, i)) (fun v c => .inl (v.1 ++ eX m q d c, v.2 ++ eY m q c)) (fun v => ((F96_L_L v.1 v.2).1, (F96_L_L v.1 v.2).2)) (L := (pans m).zip q) (v := ([], [])) (n := toNat ((q.length : Int) - 0) + 1) (fun _ _ => True) ?_ (fun _ _ _ _ _ _ _ => trivial) ?_ (by omega) trivial
 · refine Eq.trans key ?_
   rw [foldE_inl]
   obtain ⟨h1, h2⟩ := foldl_zip (eX m q d) (eY m q) (fun c => by unfold eX eY; rw [List.length_map, List.length_map]) ((pans m).zip q) ([], []) rfl
   have h3 := foldl_len (eX m q d) (eY m q) 96 (fun c => by unfold eX; rw [List.length_map]; omega) ((pans m).zip q) ([], [])
   simp only [List.length_nil] at h3
   simp only [outE]
   rw [add_f (by omega) (by omega), h2]
   simp only [eXY, List.zip_nil_left, List.nil_append]
 · intro i c hi v _
   obtain ⟨h1, h2⟩ := List.getElem?_zip_eq_some.1 hi
   have hlt := (List.getElem?_eq_some_iff.1 h2).1
   simp only [S65_L_L_0]
   rw [dqt (by omega), cond_true, getD_of h2, en_row hl v.1 v.2 i hi]
   rfl
 · intro v _
   simp only [S65_L_L_0]
   rw [dqf (by omega), cond_false]

theorem at_snd {l : List (Int × Int)} (h : ∀ s ∈ l, 1 ≤ s.2) (j : Int) : (0 ≤ j ∧ j < (l.length : Int)) → 1 ≤ (l.getD (toNat j) default).2 := fun g => by
 have hlt : toNat j < l.length := by omega
 rw [gdq, List.getElem?_eq_getElem hlt, Option.getD_some]
 exact h _ (List.getElem_mem hlt)
theorem at_fst {l : List (Int × Int)} (h : ∀ s ∈ l, 1 ≤ s.1) (j : Int) : (0 ≤ j ∧ j < (l.length : Int)) → 1 ≤ (l.getD (toNat j) default).1 := fun g => by
 have hlt : toNat j < l.length := by omega
 rw [gdq, List.getElem?_eq_getElem hlt, Option.getD_some]
 exact h _ (List.getElem_mem hlt)
theorem at0_snd {l : List (Int × Int)} (h : ∀ s ∈ l, 1 ≤ s.2) (hl : 1 ≤ l.length) : 1 ≤ (l.getD 0 default).2 := at_snd h 0 (by omega)
theorem at0_fst {l : List (Int × Int)} (h : ∀ s ∈ l, 1 ≤ s.1) (hl : 1 ≤ l.length) : 1 ≤ (l.getD 0 default).1 := at_fst h 0 (by omega)
theorem imx_bd (a b : Int) : a ≤ imx a b ∧ b ≤ imx a b ∧ (imx a b = a ∨ imx a b = b) := by unfold imx; split <;> omega
theorem imn_bd (a b : Int) : imn a b ≤ a ∧ imn a b ≤ b ∧ (imn a b = a ∨ imn a b = b) := by unfold imn; split <;> omega

def F99 (a0 : Int) (a1 : Int) : Int :=
 (W (Int.tdiv (W ((W (a0 + a1)) - 1)) a1))

theorem C99 (a0 : Int) (a1 : Int) (hd : a1 ≠ 0) : Con Tryz.prog 99 [(iv a0), (iv a1)] [] (iv (F99 a0 a1)) [] := by
 refine con_s Tryz.func99 (by kernel_rfl) fun cx hcx => ?_
 have e := Eq.refl (F99 a0 a1); conv at e => rhs; simp only [F99]
 rw [e]
 exact rt [.p (show (a1 : Int) ≠ 0 from by first | omega | (rw [W_eq] <;> omega) | exact u64_nn _)] [] [] hcx (by kernel_rfl)

noncomputable def B64_L_L_0 : Code := (loopAtD [1, 1, 0, 1] [] (bodyOf Tryz.f64) []).1
noncomputable def K64_L_L_0 : List K := (loopAtD [1, 1, 0, 1] [] (bodyOf Tryz.f64) []).2

def st64_L_L_0 (a0 : List (Int × Int)) (a1 : List (Int)) (v1 v2 : Int) : LS := ⟨slN 31 [(1, (.s 1 0 a1.length 1)), (6, (iv v1)), (13, (.s 0 0 a0.length 2)), (14, (iv (a0.length : Int))), (15, (iv v2))], [(.live false true (flat c34 a0)), (.live false true (flat c3 a1))]⟩

def S64_L_L_0 (a0 : List (Int × Int)) (a1 : List (Int)) : Int × Int → (Int × Int) ⊕ (Int × Int)
 | (v1, v2) =>
  (bif (decide ((v2 : Int) < (a0.length : Int))) then
   (.inl ((imx v1 (a0.getD (toNat v2) default).2), (v2 + 1)))
  else
   (.inr ((F97 (W (Int.tdiv (F98_L a1) v1))).1, (F97 (W (Int.tdiv (F98_L a1) v1))).2)))

theorem L64_L_L_0 (a0 : List (Int × Int)) (a1 : List (Int)) (l0 : a0.length ≤ 9223372036854775807) (l1 : a1.length ≤ 9223372036854775807) (hl : 1 ≤ a0.length) (hp : ∀ s ∈ a0, 1 ≤ s.2) {cx : Cx} (hcx : cx.base = 2) : ∀ (n : Nat) (v1 v2 : Int), (0 ≤ v2) ∧ (1 ≤ v1) → toNat ((a0.length : Int) - v2) < n → Aw.Good Tryz.prog none 9 (bodyPost Tryz.prog Tryz.f64 (RR cx (.t (k2 (loopF (S64_L_L_0 a0 a1) n (v1, v2)))) [] [])) cx [] (.l B64_L_L_0 n :: K64_L_L_0) (st64_L_L_0 a0 a1 v1 v2) := by
 intro n
 induction n with
 | zero => intro v1 v2 hi hn; exact absurd hn (nlz _)
 | succ n ih =>
   intro v1 v2 hi hn
   refine good_round ?_
   have hps := at_snd hp v2
   have hmx := imx_bd v1 (a0.getD (toNat v2) default).2
   cases h0 : (decide ((v2 : Int) < (a0.length : Int))) with
   | true =>
    have q0 := odt h0
    have e := Eq.refl (S64_L_L_0 a0 a1 (v1, v2)); conv at e => rhs; simp only [S64_L_L_0, h0, cdb]
    rw [loopF_inl e]
    refine ba [.d h0, .i v2 (a0.length), .L c34_len a0 v2 0 2] [] [1, 6, 13, 14, 15] [] hcx (m := n) B64_L_L_0 (K64_L_L_0) (st64_L_L_0 a0 a1 (imx v1 (a0.getD (toNat v2) default).2) (W (v2 + 1))) (by kernel_rfl) ?_
    have z0 : (W (v2 + 1)) = (v2 + 1) := W_eq (by omega) (by omega)
    rw [z0]
    exact ih (imx v1 (a0.getD (toNat v2) default).2) (v2 + 1) (by refine ⟨?_, ?_⟩ <;> (try simp only [Ls]) <;> first | omega | assumption | simp) (by (try simp only [Ls]); omega)
   | false =>
    have q0 := odf h0
    have e := Eq.refl (S64_L_L_0 a0 a1 (v1, v2)); conv at e => rhs; simp only [S64_L_L_0, h0, cdb]
    rw [loopF_s, e]
    exact rt [.d h0, .c [1] (C98_L a1 (by omega)), .p (show (v1 : Int) ≠ 0 from by first | omega | (rw [W_eq] <;> omega) | exact u64_nn _), .c [] (C97 (W (Int.tdiv (F98_L a1) v1)))] [] [] hcx (by kernel_rfl)

def F64_L_L (a0 : List (Int × Int)) (a1 : List (Int)) : Int × Int :=
 (loopF (S64_L_L_0 a0 a1) (toNat ((a0.length : Int) - 0) + 1) ((a0.getD (toNat 0) default).2, 0))

theorem C64_L_L (a0 : List (Int × Int)) (a1 : List (Int)) (l0 : a0.length ≤ 9223372036854775807) (l1 : a1.length ≤ 9223372036854775807) (hl : 1 ≤ a0.length) (hp : ∀ s ∈ a0, 1 ≤ s.2) : Con Tryz.prog 64 [(.s 0 0 a0.length 2), (.s 1 0 a1.length 1)] [(.live false true (flat c34 a0)), (.live false true (flat c3 a1))] (.t (k2 (F64_L_L a0 a1))) [] := by
 refine con_s Tryz.func64 (by kernel_rfl) fun cx hcx => ?_
 have hp0 := at0_snd hp hl
 have e := Eq.refl (F64_L_L a0 a1); conv at e => rhs; simp only [F64_L_L]
 rw [e]
 refine en [.i 0 (a0.length), .L c34_len a0 0 1 1] [] [1, 6, 13, 14, 15] [] hcx B64_L_L_0 (K64_L_L_0) (st64_L_L_0 a0 a1 ((a0.getD (toNat 0) default).2) 0) (toNat ((a0.length : Int) - 0) + 1) (by kernel_rfl) ?_
 exact L64_L_L_0 a0 a1 l0 l1 hl hp hcx (toNat ((a0.length : Int) - 0) + 1) ((a0.getD (toNat 0) default).2) 0 (by refine ⟨?_, ?_⟩ <;> (try simp only [Ls]) <;> first | omega | assumption | simp) (by (try simp only [Ls]); omega)

noncomputable def B67_L_L_0 : Code := (loopAtD [1, 1, 0, 1] [] (bodyOf Tryz.f67) []).1
noncomputable def K67_L_L_0 : List K := (loopAtD [1, 1, 0, 1] [] (bodyOf Tryz.f67) []).2

def st67_L_L_0 (a0 : List (Int × Int)) (a1 : List (Int)) (v1 v2 : Int) : LS := ⟨slN 31 [(1, (.s 1 0 a1.length 1)), (6, (iv v1)), (13, (.s 0 0 a0.length 2)), (14, (iv (a0.length : Int))), (15, (iv v2))], [(.live false true (flat c34 a0)), (.live false true (flat c3 a1))]⟩

def S67_L_L_0 (a0 : List (Int × Int)) (a1 : List (Int)) : Int × Int → (Int × Int) ⊕ (Int × Int)
 | (v1, v2) =>
  (bif (decide ((v2 : Int) < (a0.length : Int))) then
   (.inl ((imn v1 (a0.getD (toNat v2) default).1), (v2 + 1)))
  else
   (.inr ((F97 (F99 (F98_L a1) v1)).1, (F97 (F99 (F98_L a1) v1)).2)))

theorem L67_L_L_0 (a0 : List (Int × Int)) (a1 : List (Int)) (l0 : a0.length ≤ 9223372036854775807) (l1 : a1.length ≤ 9223372036854775807) (hl : 1 ≤ a0.length) (hp : ∀ s ∈ a0, 1 ≤ s.1) {cx : Cx} (hcx : cx.base = 2) : ∀ (n : Nat) (v1 v2 : Int), (0 ≤ v2) ∧ (1 ≤ v1) → toNat ((a0.length : Int) - v2) < n → Aw.Good Tryz.prog none 9 (bodyPost Tryz.prog Tryz.f67 (RR cx (.t (k2 (loopF (S67_L_L_0 a0 a1) n (v1, v2)))) [] [])) cx [] (.l B67_L_L_0 n :: K67_L_L_0) (st67_L_L_0 a0 a1 v1 v2) := by
 intro n
 induction n with
 | zero => intro v1 v2 hi hn; exact absurd hn (nlz _)
 | succ n ih =>
   intro v1 v2 hi hn
   refine good_round ?_
   have hps := at_fst hp v2
   have hmx := imn_bd v1 (a0.getD (toNat v2) default).1
   cases h0 : (decide ((v2 : Int) < (a0.length : Int))) with
   | true =>
    have q0 := odt h0
    have e := Eq.refl (S67_L_L_0 a0 a1 (v1, v2)); conv at e => rhs; simp only [S67_L_L_0, h0, cdb]
    rw [loopF_inl e]
    refine ba [.d h0, .i v2 (a0.length), .L c34_len a0 v2 0 2] [] [1, 6, 13, 14, 15] [] hcx (m := n) B67_L_L_0 (K67_L_L_0) (st67_L_L_0 a0 a1 (imn v1 (a0.getD (toNat v2) default).1) (W (v2 + 1))) (by kernel_rfl) ?_
    have z0 : (W (v2 + 1)) = (v2 + 1) := W_eq (by omega) (by omega)
    rw [z0]
    exact ih (imn v1 (a0.getD (toNat v2) default).1) (v2 + 1) (by refine ⟨?_, ?_⟩ <;> (try simp only [Ls]) <;> first | omega | assumption | simp) (by (try simp only [Ls]); omega)
   | false =>
    have q0 := odf h0
    have e := Eq.refl (S67_L_L_0 a0 a1 (v1, v2)); conv at e => rhs; simp only [S67_L_L_0, h0, cdb]
    rw [loopF_s, e]
    exact rt [.d h0, .c [1] (C98_L a1 (by omega)), .c [] (C99 (F98_L a1) v1  (by omega)), .c [] (C97 (F99 (F98_L a1) v1))] [] [] hcx (by kernel_rfl)

def F67_L_L (a0 : List (Int × Int)) (a1 : List (Int)) : Int × Int :=
 (loopF (S67_L_L_0 a0 a1) (toNat ((a0.length : Int) - 0) + 1) ((a0.getD (toNat 0) default).1, 0))

theorem C67_L_L (a0 : List (Int × Int)) (a1 : List (Int)) (l0 : a0.length ≤ 9223372036854775807) (l1 : a1.length ≤ 9223372036854775807) (hl : 1 ≤ a0.length) (hp : ∀ s ∈ a0, 1 ≤ s.1) : Con Tryz.prog 67 [(.s 0 0 a0.length 2), (.s 1 0 a1.length 1)] [(.live false true (flat c34 a0)), (.live false true (flat c3 a1))] (.t (k2 (F67_L_L a0 a1))) [] := by
 refine con_s Tryz.func67 (by kernel_rfl) fun cx hcx => ?_
 have hp0 := at0_fst hp hl
 have e := Eq.refl (F67_L_L a0 a1); conv at e => rhs; simp only [F67_L_L]
 rw [e]
 refine en [.i 0 (a0.length), .L c34_len a0 0 0 1] [] [1, 6, 13, 14, 15] [] hcx B67_L_L_0 (K67_L_L_0) (st67_L_L_0 a0 a1 ((a0.getD (toNat 0) default).1) 0) (toNat ((a0.length : Int) - 0) + 1) (by kernel_rfl) ?_
 exact L67_L_L_0 a0 a1 l0 l1 hl hp hcx (toNat ((a0.length : Int) - 0) + 1) ((a0.getD (toNat 0) default).1) 0 (by refine ⟨?_, ?_⟩ <;> (try simp only [Ls]) <;> first | omega | assumption | simp) (by (try simp only [Ls]); omega)


def F66_L (a0 : Int × Int) (a1 : List (Int)) : Int × Int :=
 ((F97 (W (Int.tdiv (F98_L a1) (F99 a0.2 (W (Int.tdiv (W (Int.tdiv (F98_L a1) 1048576)) 1048576)))))).1, (F97 (W (Int.tdiv (F98_L a1) (F99 a0.2 (W (Int.tdiv (W (Int.tdiv (F98_L a1) 1048576)) 1048576)))))).2)

theorem C66_L (a0 : Int × Int) (a1 : List (Int)) (l1 : a1.length ≤ 9223372036854775807) (hq : W (Int.tdiv (W (Int.tdiv (F98_L a1) 1048576)) 1048576) ≠ 0) (hw : F99 a0.2 (W (Int.tdiv (W (Int.tdiv (F98_L a1) 1048576)) 1048576)) ≠ 0) : Con Tryz.prog 66 [(.a [(iv a0.1), (iv a0.2)]), (.s 0 0 a1.length 1)] [(.live false true (flat c3 a1))] (.t (k2 (F66_L a0 a1))) [] := by
 refine con_s Tryz.func66 (by kernel_rfl) fun cx hcx => ?_
 have e := Eq.refl (F66_L a0 a1); conv at e => rhs; simp only [F66_L]
 rw [e]
 exact rt [.c [0] (C98_L a1 (by omega)), .p (show (1048576 : Int) ≠ 0 from by decide), .p (show (1048576 : Int) ≠ 0 from by decide), .c [] (C99 a0.2 (W (Int.tdiv (W (Int.tdiv (F98_L a1) 1048576)) 1048576))  hq), .p (show ((F99 a0.2 (W (Int.tdiv (W (Int.tdiv (F98_L a1) 1048576)) 1048576))) : Int) ≠ 0 from by first | omega | (rw [W_eq] <;> omega) | exact u64_nn _), .c [] (C97 (W (Int.tdiv (F98_L a1) (F99 a0.2 (W (Int.tdiv (W (Int.tdiv (F98_L a1) 1048576)) 1048576))))))] [] [] hcx (by kernel_rfl)


theorem sum_sc {a : Int} (ha : 0 ≤ a ∧ a ≤ 100) : ∀ L : List (PN × Int), (∀ e ∈ L, 0 ≤ e.2 ∧ e.2 ≤ 100) → (L.map fun e => W (a * e.2)).sum = a * (L.map (·.2)).sum
 | [], _ => by simp
 | e :: L, h => by
   have he := h e List.mem_cons_self
   have ih := sum_sc ha L (fun x hx => h x (List.mem_cons_of_mem _ hx))
   have p0 : 0 ≤ a * e.2 := Int.mul_nonneg ha.1 he.1
   have p1 : a * e.2 ≤ 100 * 100 := Int.mul_le_mul ha.2 he.2 he.1 (by omega)
   simp only [List.map_cons, List.sum_cons]
   rw [ih, W_eq (by omega) (by omega), Int.mul_add]
theorem sum_fl {m : ME} {q : List Int} {d : Int} (hq : ∀ e ∈ (pans m).zip q, 0 ≤ e.2 ∧ e.2 ≤ 100) : ∀ L : List (PN × Int), (∀ e ∈ L, 0 ≤ e.2 ∧ e.2 ≤ 100) → ((L.flatMap (eC m q d)).map (·.2)).sum = (L.map (·.2)).sum * (((pans m).zip q).map (·.2)).sum
 | [], _ => by simp
 | c :: L, h => by
   have ih := sum_fl (d := d) hq L (fun x hx => h x (List.mem_cons_of_mem _ hx))
   have e : ((eC m q d c).map (·.2)).sum = c.2 * (((pans m).zip q).map (·.2)).sum := by
     rw [← sum_sc (h c List.mem_cons_self) _ hq]
     unfold eC
     rw [List.map_map]; rfl
   rw [List.flatMap_cons, List.map_append, List.sum_append, ih, e]
   simp only [List.map_cons, List.sum_cons]
   rw [Int.add_mul]
theorem en_pos {m : ME} {q : List Int} {d : Int} (hC : ChOK m q) (hd : 0 ≤ d ∧ d ≤ 2) (h : (addV (((pans m).zip q).flatMap (eC m q d))).2 = 0) : 1 ≤ (addV (((pans m).zip q).flatMap (eC m q d))).1.2 ∧ vs (addV (((pans m).zip q).flatMap (eC m q d))).1 := by
 have hn := hC.n; have hl := hC.len; have hs := hC.pos
 have hpl : (pans m).length = m.2.length := List.length_map _
 have hz : ∀ e ∈ (pans m).zip q, 0 ≤ e.2 ∧ e.2 ≤ 100 := fun e he => hC.ok _ (List.of_mem_zip he).2
 have hm : ((pans m).zip q).map (·.2) = q := List.map_snd_zip (by omega)
 have hp := add_pos (l := ((pans m).zip q).flatMap (eC m q d)) (fun c hc => by
   obtain ⟨b, hb, hcb⟩ := List.mem_flatMap.1 hc
   unfold eC at hcb
   obtain ⟨e, he, rfl⟩ := List.mem_map.1 hcb
   have h1 := hz b hb; have h2 := hz e he
   have p0 : 0 ≤ b.2 * e.2 := Int.mul_nonneg h1.1 h2.1
   have p1 : b.2 * e.2 ≤ 100 * 100 := Int.mul_le_mul h1.2 h2.2 h2.1 (by omega)
   refine ⟨(Mutual_okP (vld_pk hC.v hd (List.of_mem_zip hb).1 (List.of_mem_zip he).1)).2, ?_⟩
   simp only
   rw [W_eq (by omega) (by omega)]; omega) h
 rw [sum_fl hz _ hz, hm] at hp
 have : 1 * 1 ≤ q.sum * q.sum := Int.mul_le_mul hs hs (by omega) (by omega)
 exact ⟨by omega, hp.2.2⟩
theorem tot_eq {q : List Int} (hq : okC q) (h1 : 1 ≤ q.sum) (hl : q.length ≤ 96) : F98_L q = q.sum * 1099511627776 ∧ q.sum ≤ 9600 := by
 obtain ⟨e, h2, h3⟩ := totW_eq q 0 hq (by omega) (by omega)
 rw [tot_h, e]
 refine ⟨?_, by omega⟩
 rw [W_eq (by rw [W_eq (by omega) (by omega)]; omega) (by rw [W_eq (by omega) (by omega)]; omega), W_eq (by omega) (by omega)]
 omega
theorem one_eq {q : List Int} (hq : okC q) (h1 : 1 ≤ q.sum) (hl : q.length ≤ 96) : W (Int.tdiv (W (Int.tdiv (F98_L q) 1048576)) 1048576) = q.sum := by
 obtain ⟨e, h2⟩ := tot_eq hq h1 hl
 have e1 : Int.tdiv (q.sum * 1099511627776) 1048576 = q.sum * 1048576 := by
   rw [show q.sum * 1099511627776 = (q.sum * 1048576) * 1048576 from by omega, Int.mul_tdiv_cancel _ (by decide)]
 rw [e, e1, W_eq (n := q.sum * 1048576) (by omega) (by omega), Int.mul_tdiv_cancel _ (by decide), W_eq (by omega) (by omega)]
theorem up_pos {a n : Int} (ha : 1 ≤ a ∧ a ≤ 2305843009213693951) (hn : 1 ≤ n ∧ n ≤ 2305843009213693951) : 1 ≤ F99 a n ∧ F99 a n = (a + n - 1).tdiv n := by
 unfold F99
 rw [W_eq (n := a + n) (by omega) (by omega), W_eq (n := a + n - 1) (by omega) (by omega)]
 have h0 : 0 ≤ a + n - 1 := by omega
 have e : (a + n - 1).tdiv n = (a + n - 1) / n := Int.tdiv_eq_ediv_of_nonneg h0
 have h1 : 1 ≤ (a + n - 1) / n := by
   refine (Int.le_ediv_iff_mul_le (by omega)).2 ?_
   omega
 have h2 : (a + n - 1) / n ≤ a + n - 1 := Int.ediv_le_self _ h0
 rw [e, W_eq (by omega) (by omega)]
 exact ⟨h1, rfl⟩





theorem potl_le {T : TB} {q : List Int} (hr : ∀ r ∈ T, r.length ≤ q.length) (hm : q.length ≤ 96) : (F63_L_L T q).1.length ≤ T.length := by
 rw [pot_h hr hm]
 unfold potV
 cases hs : shs (fun r : List (Int × Int) => addV (r.zip q)) T [] with
 | inr r => simp [out8]
 | inl l =>
   obtain ⟨e, _⟩ := shs_inl hs
   simp only [out8]
   rw [e, List.nil_append, List.length_map]; exact Nat.le_refl _

def F34_L (a0 : (Zm) × (List (List (Int × Int))) × (List (List (Int × Int))) × Int) (a1 : List (Int)) : (Int × Int) × Int :=
 (bif (((F63_L_L a0.2.1 a1).2 : Int) != 0) then
  ((0, 0), (F63_L_L a0.2.1 a1).2)
 else
  (bif (((F64_L_L (F63_L_L a0.2.1 a1).1 a1).2 : Int) != 0) then
   ((0, 0), (F64_L_L (F63_L_L a0.2.1 a1).1 a1).2)
  else
   (bif (((F65_L_L a0.2.2.1 a1).2 : Int) != 0) then
    ((0, 0), (F65_L_L a0.2.2.1 a1).2)
   else
    (bif (((F66_L (F65_L_L a0.2.2.1 a1).1 a1).2 : Int) != 0) then
     ((0, 0), (F66_L (F65_L_L a0.2.2.1 a1).1 a1).2)
    else
     (bif (((F67_L_L (F63_L_L a0.2.1 a1).1 a1).2 : Int) != 0) then
      ((0, 0), (F67_L_L (F63_L_L a0.2.1 a1).1 a1).2)
     else
      (((imx (F64_L_L (F63_L_L a0.2.1 a1).1 a1).1 (F66_L (F65_L_L a0.2.2.1 a1).1 a1).1), (imn (F67_L_L (F63_L_L a0.2.1 a1).1 a1).1 a0.2.2.2)), 0))))))

theorem C34_L (a0 : (Zm) × (List (List (Int × Int))) × (List (List (Int × Int))) × Int) (a1 : List (Int)) (l0_1_1 : a0.1.1.length ≤ 9223372036854775807) (l0_1_2 : a0.1.2.length ≤ 9223372036854775807) (l0_2_1 : a0.2.1.length ≤ 9223372036854775807) (l0_2_2_1 : a0.2.2.1.length ≤ 9223372036854775807) (l1 : a1.length ≤ 9223372036854775807) (hr : ∀ r ∈ a0.2.1, r.length ≤ a1.length) (hn : a0.2.1.length ≤ 96) (hm : a1.length ≤ 96) (hl : a0.2.2.1.length = a1.length) (hs : ∀ r ∈ a0.2.2.1, r.length = a1.length) (hp : (((F63_L_L a0.2.1 a1).2 : Int) != 0) = false → 1 ≤ (F63_L_L a0.2.1 a1).1.length ∧ (∀ s ∈ (F63_L_L a0.2.1 a1).1, 1 ≤ s.1) ∧ (∀ s ∈ (F63_L_L a0.2.1 a1).1, 1 ≤ s.2)) (he : (((F65_L_L a0.2.2.1 a1).2 : Int) != 0) = false → W (Int.tdiv (W (Int.tdiv (F98_L a1) 1048576)) 1048576) ≠ 0 ∧ F99 (F65_L_L a0.2.2.1 a1).1.2 (W (Int.tdiv (W (Int.tdiv (F98_L a1) 1048576)) 1048576)) ≠ 0) : Con Tryz.prog 34 [(.a [(.s 0 0 a0.1.1.length 3), (.s 1 0 a0.1.2.length 3), (.s 2 0 a0.2.1.length 1), (.s 3 0 a0.2.2.1.length 1), (iv a0.2.2.2)]), (.s 4 0 a1.length 1)] [(.live false true (flat c30 a0.1.1)), (.live false true (flat c94 a0.1.2)), (.live false true (flat c103 a0.2.1)), (.live false true (flat c103 a0.2.2.1)), (.live false true (flat c3 a1))] (.t [(.a (k2 (F34_L a0 a1).1)), (iv (F34_L a0 a1).2)]) [] := by
 refine con_s Tryz.func34 (by kernel_rfl) fun cx hcx => ?_
 have hx1 := potl_le hr hm
 let t0 : List (St Tryz.prog) := [.c [2, 4] (C63_L_L a0.2.1 a1 (by omega) (by omega) hr hn hm)]
 cases h0 : (((F63_L_L a0.2.1 a1).2 : Int) != 0) with
 | true =>
  have q0 := bne_iff_ne.1 h0
  have e := Eq.refl (F34_L a0 a1); conv at e => rhs; simp only [F34_L, h0, cdb]
  rw [e]
  exact rt (t0 ++ [.d h0]) [] [] hcx (by kernel_rfl)
 | false =>
  have q0 := bne_eq_false_iff_eq.1 h0
  let t1 : List (St Tryz.prog) := (t0 ++ [.d h0, .c [7, 4] (C64_L_L (F63_L_L a0.2.1 a1).1 a1 (by (try simp only [Lt]); omega) (by omega) (hp h0).1 (hp h0).2.2)])
  cases h1 : (((F64_L_L (F63_L_L a0.2.1 a1).1 a1).2 : Int) != 0) with
  | true =>
   have q1 := bne_iff_ne.1 h1
   have e := Eq.refl (F34_L a0 a1); conv at e => rhs; simp only [F34_L, h0, h1, cdb]
   rw [e]
   exact rt (t1 ++ [.d h1]) [] [] hcx (by kernel_rfl)
  | false =>
   have q1 := bne_eq_false_iff_eq.1 h1
   let t2 : List (St Tryz.prog) := (t1 ++ [.d h1, .c [3, 4] (C65_L_L a0.2.2.1 a1 (by omega) (by omega) hl hs hm)])
   cases h2 : (((F65_L_L a0.2.2.1 a1).2 : Int) != 0) with
   | true =>
    have q2 := bne_iff_ne.1 h2
    have e := Eq.refl (F34_L a0 a1); conv at e => rhs; simp only [F34_L, h0, h1, h2, cdb]
    rw [e]
    exact rt (t2 ++ [.d h2]) [] [] hcx (by kernel_rfl)
   | false =>
    have q2 := bne_eq_false_iff_eq.1 h2
    let t3 : List (St Tryz.prog) := (t2 ++ [.d h2, .c [4] (C66_L (F65_L_L a0.2.2.1 a1).1 a1 (by omega) (he h2).1 (he h2).2)])
    cases h3 : (((F66_L (F65_L_L a0.2.2.1 a1).1 a1).2 : Int) != 0) with
    | true =>
     have q3 := bne_iff_ne.1 h3
     have e := Eq.refl (F34_L a0 a1); conv at e => rhs; simp only [F34_L, h0, h1, h2, h3, cdb]
     rw [e]
     exact rt (t3 ++ [.d h3]) [] [] hcx (by kernel_rfl)
    | false =>
     have q3 := bne_eq_false_iff_eq.1 h3
     let t4 : List (St Tryz.prog) := (t3 ++ [.d h3, .c [7, 4] (C67_L_L (F63_L_L a0.2.1 a1).1 a1 (by (try simp only [Lt]); omega) (by omega) (hp h0).1 (hp h0).2.1)])
     cases h4 : (((F67_L_L (F63_L_L a0.2.1 a1).1 a1).2 : Int) != 0) with
     | true =>
      have q4 := bne_iff_ne.1 h4
      have e := Eq.refl (F34_L a0 a1); conv at e => rhs; simp only [F34_L, h0, h1, h2, h3, h4, cdb]
      rw [e]
      exact rt (t4 ++ [.d h4]) [] [] hcx (by kernel_rfl)
     | false =>
      have q4 := bne_eq_false_iff_eq.1 h4
      have e := Eq.refl (F34_L a0 a1); conv at e => rhs; simp only [F34_L, h0, h1, h2, h3, h4, cdb]
      rw [e]
      exact rt (t4 ++ [.d h4]) [] [] hcx (by kernel_rfl)


theorem hwith (n : Int) : F55 n (-256) 256 = decide (-256 ≤ n ∧ n ≤ 256) := by
 unfold F55
 by_cases h1 : -256 ≤ n <;> by_cases h2 : n ≤ 256 <;> simp [h1, h2]
noncomputable def dsW (p x : P3) : Int := W ((W ((W ((W (p.1 - x.1)) * (W (p.1 - x.1)))) + (W ((W (p.2.1 - x.2.1)) * (W (p.2.1 - x.2.1)))))) + (W ((W (p.2.2 - x.2.2)) * (W (p.2.2 - x.2.2)))))
theorem dsW_bd {p x : P3} (hp : bd 64 p) (hx : bd 256 x) : 0 ≤ dsW p x ∧ dsW p x ≤ 400000 := by
 unfold bd at hp hx
 have e1 : W (p.1 - x.1) = p.1 - x.1 := W_eq (by omega) (by omega)
 have e2 : W (p.2.1 - x.2.1) = p.2.1 - x.2.1 := W_eq (by omega) (by omega)
 have e3 : W (p.2.2 - x.2.2) = p.2.2 - x.2.2 := W_eq (by omega) (by omega)
 have b1 := mul_bd (a := 320) (b := 320) (x := p.1 - x.1) (y := p.1 - x.1) (by omega) (by omega)
 have b2 := mul_bd (a := 320) (b := 320) (x := p.2.1 - x.2.1) (y := p.2.1 - x.2.1) (by omega) (by omega)
 have b3 := mul_bd (a := 320) (b := 320) (x := p.2.2 - x.2.2) (y := p.2.2 - x.2.2) (by omega) (by omega)
 have n1 : 0 ≤ (p.1 - x.1) * (p.1 - x.1) := by rcases Int.le_total 0 (p.1 - x.1) with h | h; exact Int.mul_nonneg h h; exact Int.mul_nonneg_of_nonpos_of_nonpos h h
 have n2 : 0 ≤ (p.2.1 - x.2.1) * (p.2.1 - x.2.1) := by rcases Int.le_total 0 (p.2.1 - x.2.1) with h | h; exact Int.mul_nonneg h h; exact Int.mul_nonneg_of_nonpos_of_nonpos h h
 have n3 : 0 ≤ (p.2.2 - x.2.2) * (p.2.2 - x.2.2) := by rcases Int.le_total 0 (p.2.2 - x.2.2) with h | h; exact Int.mul_nonneg h h; exact Int.mul_nonneg_of_nonpos_of_nonpos h h
 unfold dsW
 simp only [e1, e2, e3]
 generalize (p.1 - x.1) * (p.1 - x.1) = a at *
 generalize (p.2.1 - x.2.1) * (p.2.1 - x.2.1) = b at *
 generalize (p.2.2 - x.2.2) * (p.2.2 - x.2.2) = c at *
 rw [W_eq (n := a) (by omega) (by omega), W_eq (n := b) (by omega) (by omega), W_eq (n := c) (by omega) (by omega), W_eq (n := a + b) (by omega) (by omega), W_eq (n := a + b + c) (by omega) (by omega)]
 omega
noncomputable def ballW (m : ME) (x : P3) : Int := m.1.foldl (fun v p => imx v (dsW p x)) 0
theorem ballW_bd {x : P3} (hx : bd 256 x) : ∀ (l : List P3) (v : Int), (∀ p ∈ l, bd 64 p) → 0 ≤ v ∧ v ≤ 400000 → 0 ≤ l.foldl (fun v p => imx v (dsW p x)) v ∧ l.foldl (fun v p => imx v (dsW p x)) v ≤ 400000
 | [], v, _, h => h
 | p :: l, v, hp, h => by
   rw [List.foldl_cons]
   have := dsW_bd (hp p List.mem_cons_self) hx
   have := imx_bd v (dsW p x)
   exact ballW_bd hx l _ (fun y hy => hp y (List.mem_cons_of_mem _ hy)) (by omega)
theorem ball_lf (m : ME) (x : P3) : loopF (S28_1 m x) (toNat ((m.1.length : Int) - 0) + 1) (0, 0) = ((F56 (ballW m x)).1.2, (F56 (ballW m x)).2) := by
 have key := each_loop (S := S28_1 m x) (fun v i => (v, i)) (fun v p => .inl (imx v (dsW p x))) (fun v => ((F56 v).1.2, (F56 v).2)) (L := m.1) (v := 0) (n := toNat ((m.1.length : Int) - 0) + 1) (fun _ _ => True) ?_ (fun _ _ _ _ _ _ _ => trivial) ?_ (by omega) trivial
 · refine Eq.trans key ?_
   rw [foldE_inl]; rfl
 · intro i c hc v _
   obtain ⟨hlt, hce⟩ := List.getElem?_eq_some_iff.1 hc
   simp only [S28_1]
   rw [dqt (by omega), cond_true, getD_of hc]; rfl
 · intro v _
   simp only [S28_1]
   rw [dqf (by omega), cond_false]

noncomputable def mxF (l : List (Int × Int)) (v : Int) : Int := l.foldl (fun v s => imx v s.2) v
noncomputable def mnF (l : List (Int × Int)) (v : Int) : Int := l.foldl (fun v s => imn v s.1) v
theorem below_f (l : List (Int × Int)) (q : List Int) : F64_L_L l q = F97 (W (Int.tdiv (F98_L q) (mxF l (l.getD (toNat 0) default).2))) := by
 unfold F64_L_L
 have key := each_loop (S := S64_L_L_0 l q) (fun v i => (v, i)) (fun v s => .inl (imx v s.2)) (fun v => F97 (W (Int.tdiv (F98_L q) v))) (L := l) (v := (l.getD (toNat 0) default).2) (n := toNat ((l.length : Int) - 0) + 1) (fun _ _ => True) ?_ (fun _ _ _ _ _ _ _ => trivial) ?_ (by omega) trivial
 · refine Eq.trans key ?_
   rw [foldE_inl]; rfl
 · intro i c hc v _
   obtain ⟨hlt, hce⟩ := List.getElem?_eq_some_iff.1 hc
   simp only [S64_L_L_0]
   rw [dqt (by omega), cond_true, getD_of hc]; rfl
 · intro v _
   simp only [S64_L_L_0]
   rw [dqf (by omega), cond_false]
theorem above_f (l : List (Int × Int)) (q : List Int) : F67_L_L l q = F97 (F99 (F98_L q) (mnF l (l.getD (toNat 0) default).1)) := by
 unfold F67_L_L
 have key := each_loop (S := S67_L_L_0 l q) (fun v i => (v, i)) (fun v s => .inl (imn v s.1)) (fun v => F97 (F99 (F98_L q) v)) (L := l) (v := (l.getD (toNat 0) default).1) (n := toNat ((l.length : Int) - 0) + 1) (fun _ _ => True) ?_ (fun _ _ _ _ _ _ _ => trivial) ?_ (by omega) trivial
 · refine Eq.trans key ?_
   rw [foldE_inl]; rfl
 · intro i c hc v _
   obtain ⟨hlt, hce⟩ := List.getElem?_eq_some_iff.1 hc
   simp only [S67_L_L_0]
   rw [dqt (by omega), cond_true, getD_of hc]; rfl
 · intro v _
   simp only [S67_L_L_0]
   rw [dqf (by omega), cond_false]

theorem set_fold {α : Type} : ∀ (L : List α) (j : Nat), (L.foldl (fun (p : List Int × Nat) _ => (p.1.set p.2 1, p.2 + 1)) (List.replicate j 1 ++ List.replicate L.length 0, j)).1 = List.replicate (j + L.length) 1
 | [], j => by simp
 | c :: L, j => by
   rw [List.foldl_cons]
   have e : (List.replicate j (1 : Int) ++ List.replicate (L.length + 1) 0).set j 1 = List.replicate (j + 1) 1 ++ List.replicate L.length 0 := by
     rw [List.set_append_right (h := by rw [List.length_replicate]; exact Nat.le_refl _), List.length_replicate, Nat.sub_self, List.replicate_succ, List.set_cons_zero, List.replicate_succ' (n := j), List.append_assoc]; rfl
   simp only [List.length_cons]
   rw [e, set_fold L (j + 1)]
   congr 1; omega
theorem ones_h (m : ME) : F57 m = m.2.map fun _ => 1 := by
 unfold F57
 have key := each_loop (S := S57_0 m) (fun (v : List Int × Nat) i => (v.1, i)) (fun v _ => .inl (v.1.set v.2 1, v.2 + 1)) (fun v => v.1) (L := m.2) (v := (List.replicate (toNat (m.2.length : Int)) 0, 0)) (n := toNat ((((toNat (m.2.length : Int)) : Nat) : Int) - 0) + 1) (fun i v => v.2 = i) ?_ (fun i c hc v v' hv h => by simp only [Sum.inl.injEq] at h; subst h; show v.2 + 1 = i + 1; omega) ?_ (by omega) rfl
 · refine Eq.trans key ?_
   rw [foldE_inl]
   simp only [outE]
   have := set_fold m.2 0
   simp only [List.replicate_zero, List.nil_append, Nat.zero_add] at this
   rw [itn, this, List.map_const']
 · intro i c hc v hv
   obtain ⟨hlt, hce⟩ := List.getElem?_eq_some_iff.1 hc
   simp only [S57_0]
   rw [dqt (by omega), cond_true, itn, hv]; rfl
 · intro v _
   simp only [S57_0]
   rw [dqf (by omega), cond_false]

noncomputable def bxS (v : P3 × P3) (p : P3) : P3 × P3 := ((imn v.1.1 p.1, imn v.1.2.1 p.2.1, imn v.1.2.2 p.2.2), (imx v.2.1 p.1, imx v.2.2.1 p.2.1, imx v.2.2.2 p.2.2))
noncomputable def bxV (m : ME) : P3 × P3 := (m.1.drop 1).foldl bxS (m.1.getD (toNat 0) default, m.1.getD (toNat 0) default)
noncomputable def half (n : Int) : Int := Int.fdiv n (2 ^ (min (toNat 1) 64))
noncomputable def midV (v : P3 × P3) : P3 := (half (W (v.1.1 + v.2.1)), half (W (v.1.2.1 + v.2.2.1)), half (W (v.1.2.2 + v.2.2.2)))
theorem box_f {m : ME} (h : F35 m = 0) : F62 m = ((bxV m).1, (bxV m).2, 0) := by
 have hp := (pts_one (m := m) (by rw [h]; rfl)).1
 unfold F62
 rw [show F35 (m.1, m.2) = 0 from h, show (((0 : Int)) != 0) = false from rfl, cond_false]
 have key := each_loop (S := S62_0 m) (fun (v : P3 × P3) i => (i, v.1.1, v.1.2.1, v.1.2.2, v.2.1, v.2.2.1, v.2.2.2)) (fun v p => .inl (bxS v p)) (fun v => (v.1, v.2, 0)) (L := m.1) (v := (m.1.getD (toNat 0) default, m.1.getD (toNat 0) default)) (n := toNat ((m.1.length : Int) - 0) + 1) (fun _ _ => True) ?_ (fun _ _ _ _ _ _ _ => trivial) ?_ (by omega) trivial
 · refine Eq.trans key ?_
   rw [foldE_inl]
   have e : m.1.foldl bxS (m.1.getD (toNat 0) default, m.1.getD (toNat 0) default) = bxV m := by
     unfold bxV
     generalize m.1 = l at hp ⊢
     cases l with
     | nil => simp at hp
     | cons p t =>
       show t.foldl bxS (bxS (p, p) p) = t.foldl bxS (p, p)
       have n1 : ∀ a : Int, imn a a = a := fun a => by unfold imn; split <;> rfl
       have n2 : ∀ a : Int, imx a a = a := fun a => by unfold imx; split <;> rfl
       rw [show bxS (p, p) p = (p, p) from by unfold bxS; simp only [n1, n2]]
   rw [e]; rfl
 · intro i c hc v _
   obtain ⟨hlt, hce⟩ := List.getElem?_eq_some_iff.1 hc
   simp only [S62_0]
   rw [dqt (by omega), cond_true, getD_of hc]; rfl
 · intro v _
   simp only [S62_0]
   rw [dqf (by omega), cond_false]


theorem Len_0 {n : Int} (h : 0 ≤ n ∧ n ≤ 400000) : (F56 n).2 = 0 := by
 obtain ⟨r, hr, e⟩ := Len_f h
 obtain ⟨h0, h1, h2⟩ := hr
 rw [e]
 unfold lenV
 have hb : r ≤ 1073741824 := by
   by_cases hc : r ≤ 1073741824
   · exact hc
   · have := Int.mul_le_mul (show (1073741824 : Int) ≤ r by omega) (show (1073741824 : Int) ≤ r by omega) (by omega) (by omega)
     omega
 have hx : (if r * r = n * 1099511627776 then r else r + 1) = r ∨ (if r * r = n * 1099511627776 then r else r + 1) = r + 1 := by split <;> simp
 generalize (if r * r = n * 1099511627776 then r else r + 1) = s at hx ⊢
 rw [res_f (by omega) (by omega) (by omega)]


theorem half_bd {n : Int} (h : -128 ≤ n ∧ n ≤ 128) : -64 ≤ half n ∧ half n ≤ 64 := by
 unfold half
 rw [show ((2 : Int) ^ (min (toNat 1) 64)) = 2 from by decide, Int.fdiv_eq_ediv_of_nonneg _ (by decide)]
 omega
theorem bxS_bd : ∀ (l : List P3) (v : P3 × P3), (∀ p ∈ l, bd 64 p) → bd 64 v.1 → bd 64 v.2 → bd 64 (l.foldl bxS v).1 ∧ bd 64 (l.foldl bxS v).2
 | [], v, _, h1, h2 => ⟨h1, h2⟩
 | p :: l, v, hp, h1, h2 => by
   rw [List.foldl_cons]
   have hb := hp p List.mem_cons_self
   unfold bd at h1 h2 hb
   refine bxS_bd l _ (fun y hy => hp y (List.mem_cons_of_mem _ hy)) ?_ ?_
   · have a := imn_bd v.1.1 p.1; have b := imn_bd v.1.2.1 p.2.1; have c := imn_bd v.1.2.2 p.2.2
     unfold bd bxS; simp only; omega
   · have a := imx_bd v.2.1 p.1; have b := imx_bd v.2.2.1 p.2.1; have c := imx_bd v.2.2.2 p.2.2
     unfold bd bxS; simp only; omega
theorem pts_all {m : ME} (hv : F35 m = 0) : ∀ p ∈ m.1, bd 64 p := fun p hp => by
 obtain ⟨_, _, _, hpt, _⟩ := val_parts hv
 unfold F68 at hpt
 have hpb := pts_bd m _ 0 _ (by omega) hpt
 obtain ⟨j, hj, e⟩ := List.getElem_of_mem hp
 have := hpb j (Nat.zero_le _) hj
 rw [gdq, List.getElem?_eq_getElem hj, Option.getD_some, e] at this
 exact this
theorem mid_bd {m : ME} (hv : F35 m = 0) : bd 64 (midV (bxV m)) := by
 have hall := pts_all hv
 have hp := (pts_one (m := m) (by rw [hv]; rfl)).1
 have h0 : bd 64 (m.1.getD (toNat 0) default) := by
   rw [gdq, List.getElem?_eq_getElem (show toNat 0 < m.1.length from hp), Option.getD_some]
   exact hall _ (List.getElem_mem _)
 obtain ⟨a, b⟩ := bxS_bd (m.1.drop 1) (m.1.getD (toNat 0) default, m.1.getD (toNat 0) default) (fun p hp => hall p (List.mem_of_mem_drop hp)) h0 h0
 change bd 64 (bxV m).1 at a
 change bd 64 (bxV m).2 at b
 unfold bd at a b
 unfold bd midV
 rw [W_eq (n := (bxV m).1.1 + (bxV m).2.1) (by omega) (by omega), W_eq (n := (bxV m).1.2.1 + (bxV m).2.2.1) (by omega) (by omega), W_eq (n := (bxV m).1.2.2 + (bxV m).2.2.2) (by omega) (by omega)]
 exact ⟨half_bd (by omega), half_bd (by omega), half_bd (by omega)⟩


theorem dead_b {m : ME} {d : Int} (h : F35 m = 0) (hd : 0 ≤ d ∧ d ≤ 2) : ¬ (((F59_f60 (m.1, m.2) d).2 : Int) != 0) = true := by
 rw [show F59_f60 (m.1, m.2) d = _ from tab_b h hd]; show ¬ ((0 : Int) != 0) = true; decide
theorem dead_m {m : ME} {d : Int} (h : F35 m = 0) (hd : 0 ≤ d ∧ d ≤ 2) : ¬ (((F59_f61 (m.1, m.2) d).2 : Int) != 0) = true := by
 rw [show F59_f61 (m.1, m.2) d = _ from tab_m h hd]; show ¬ ((0 : Int) != 0) = true; decide
theorem dead_x {m : ME} (h : F35 m = 0) : ¬ (((F62 (m.1, m.2)).2.2 : Int) != 0) = true := by
 rw [show F62 (m.1, m.2) = _ from box_f h]; show ¬ ((0 : Int) != 0) = true; decide

def F33 (a0 : Zm) (a1 : Int) : ((Zm) × (List (List (Int × Int))) × (List (List (Int × Int))) × Int) × Int :=
 (bif (((F59_f60 (a0.1, a0.2) a1).2 : Int) != 0) then
  default
 else
  (bif (((F59_f61 (a0.1, a0.2) a1).2 : Int) != 0) then
   default
  else
   (bif (((F62 (a0.1, a0.2)).2.2 : Int) != 0) then
    default
   else
    (((a0.1, a0.2), (F59_f60 (a0.1, a0.2) a1).1, (F59_f61 (a0.1, a0.2) a1).1, (F28 (a0.1, a0.2) ((Int.fdiv (W ((F62 (a0.1, a0.2)).1.1 + (F62 (a0.1, a0.2)).2.1.1)) (2 ^ (min (toNat 1) 64))), (Int.fdiv (W ((F62 (a0.1, a0.2)).1.2.1 + (F62 (a0.1, a0.2)).2.1.2.1)) (2 ^ (min (toNat 1) 64))), (Int.fdiv (W ((F62 (a0.1, a0.2)).1.2.2 + (F62 (a0.1, a0.2)).2.1.2.2)) (2 ^ (min (toNat 1) 64))))).1), (F28 (a0.1, a0.2) ((Int.fdiv (W ((F62 (a0.1, a0.2)).1.1 + (F62 (a0.1, a0.2)).2.1.1)) (2 ^ (min (toNat 1) 64))), (Int.fdiv (W ((F62 (a0.1, a0.2)).1.2.1 + (F62 (a0.1, a0.2)).2.1.2.1)) (2 ^ (min (toNat 1) 64))), (Int.fdiv (W ((F62 (a0.1, a0.2)).1.2.2 + (F62 (a0.1, a0.2)).2.1.2.2)) (2 ^ (min (toNat 1) 64))))).2))))

theorem C33 (a0 : Zm) (a1 : Int) (l0_1 : a0.1.length ≤ 9223372036854775807) (l0_2 : a0.2.length ≤ 9223372036854775807) (hv : F35 a0 = 0) (hd : 0 ≤ a1 ∧ a1 ≤ 2) : Con Tryz.prog 33 [(.a [(.s 0 0 a0.1.length 3), (.s 1 0 a0.2.length 3)]), (iv a1)] [(.live false true (flat c30 a0.1)), (.live false true (flat c94 a0.2))] (.t [(.a [(.s 0 0 a0.1.length 3), (.s 1 0 a0.2.length 3), (.s 2 0 (F33 a0 a1).1.2.1.length 1), (.s 3 0 (F33 a0 a1).1.2.2.1.length 1), (iv (F33 a0 a1).1.2.2.2)]), (iv (F33 a0 a1).2)]) [(.live true true (flat c103 (F33 a0 a1).1.2.1)), (.live true true (flat c103 (F33 a0 a1).1.2.2.1))] := by
 refine con_s Tryz.func33 (by kernel_rfl) fun cx hcx => ?_
 let t0 : List (St Tryz.prog) := [.c [0, 1] (C59_f60 (a0.1, a0.2) a1 (by (try simp only [Lt]); omega) (by (try simp only [Lt]); omega))]
 cases h0 : (((F59_f60 (a0.1, a0.2) a1).2 : Int) != 0) with
 | true =>
  have q0 := bne_iff_ne.1 h0
  first | exact absurd h0 (dead_b hv hd) | exact absurd h1 (dead_m hv hd) | exact absurd h2 (dead_x hv)
 | false =>
  have q0 := bne_eq_false_iff_eq.1 h0
  let t1 : List (St Tryz.prog) := (t0 ++ [.d h0, .c [0, 1] (C59_f61 (a0.1, a0.2) a1 (by (try simp only [Lt]); omega) (by (try simp only [Lt]); omega))])
  cases h1 : (((F59_f61 (a0.1, a0.2) a1).2 : Int) != 0) with
  | true =>
   have q1 := bne_iff_ne.1 h1
   first | exact absurd h0 (dead_b hv hd) | exact absurd h1 (dead_m hv hd) | exact absurd h2 (dead_x hv)
  | false =>
   have q1 := bne_eq_false_iff_eq.1 h1
   let t2 : List (St Tryz.prog) := (t1 ++ [.d h1, .c [0, 1] (C62 (a0.1, a0.2) (by (try simp only [Lt]); omega) (by (try simp only [Lt]); omega))])
   cases h2 : (((F62 (a0.1, a0.2)).2.2 : Int) != 0) with
   | true =>
    have q2 := bne_iff_ne.1 h2
    first | exact absurd h0 (dead_b hv hd) | exact absurd h1 (dead_m hv hd) | exact absurd h2 (dead_x hv)
   | false =>
    have q2 := bne_eq_false_iff_eq.1 h2
    have e := Eq.refl (F33 a0 a1); conv at e => rhs; simp only [F33, h0, h1, h2, cdb]
    rw [e]
    exact rt (t2 ++ [.d h2, .p (show 0 ≤ (1 : Int) from by decide), .p (show 0 ≤ (1 : Int) from by decide), .p (show 0 ≤ (1 : Int) from by decide), .c [0, 1] (C28 (a0.1, a0.2) ((Int.fdiv (W ((F62 (a0.1, a0.2)).1.1 + (F62 (a0.1, a0.2)).2.1.1)) (2 ^ (min (toNat 1) 64))), (Int.fdiv (W ((F62 (a0.1, a0.2)).1.2.1 + (F62 (a0.1, a0.2)).2.1.2.1)) (2 ^ (min (toNat 1) 64))), (Int.fdiv (W ((F62 (a0.1, a0.2)).1.2.2 + (F62 (a0.1, a0.2)).2.1.2.2)) (2 ^ (min (toNat 1) 64)))) (by (try simp only [Lt]); omega) (by (try simp only [Lt]); omega))]) [] [4, 5] hcx (by kernel_rfl)

theorem ball_0 {m : ME} (hv : F35 m = 0) : (F28 m (midV (bxV m))).2 = 0 := by
 have hb := mid_bd hv
 have hb2 : bd 256 (midV (bxV m)) := by unfold bd at hb ⊢; omega
 unfold F28
 rw [show F35 (m.1, m.2) = 0 from hv, hwith, hwith, hwith, dqt hb2.1, dqt hb2.2.1, dqt hb2.2.2]
 show (loopF (S28_1 m (midV (bxV m))) (toNat ((m.1.length : Int) - 0) + 1) (0, 0)).2 = 0
 rw [ball_lf]
 exact Len_0 (ballW_bd hb2 m.1 0 (pts_all hv) (by omega))
theorem prep_f {m : ME} {d : Int} (h : F35 m = 0) (hd : 0 ≤ d ∧ d ≤ 2) : F33 m d =
   (((m.1, m.2), (F59_f60 m d).1, (F59_f61 m d).1, (F28 m (midV (bxV m))).1), 0) := by
 have h1 := Bool.eq_false_iff.2 (dead_b h hd)
 have h2 := Bool.eq_false_iff.2 (dead_m h hd)
 have h3 := Bool.eq_false_iff.2 (dead_x h)
 have hB := ball_0 h
 have e : F62 (m.1, m.2) = ((bxV m).1, (bxV m).2, 0) := box_f h
 unfold F33
 rw [h1, cond_false, h2, cond_false, h3, cond_false]
 rw [← hB, e]
 rfl
theorem chk_v {m : ME} {q : List Int} {d : Int} (h : ((F32_L m q d : Int) != 0) = false) : F35 m = 0 ∧ 0 ≤ d ∧ d ≤ 2 := by
 rw [chk_h] at h
 obtain ⟨hc, hd⟩ := chD_ok (bne_eq_false_iff_eq.1 h)
 exact ⟨hc.v, hd⟩
abbrev TBL := ME × TB × TB × Int
structure BndPre (T : TBL) (q : List Int) : Prop where
 hr : ∀ r ∈ T.2.1, r.length ≤ q.length
 hn : T.2.1.length ≤ 96
 hm : q.length ≤ 96
 hl : T.2.2.1.length = q.length
 hs : ∀ r ∈ T.2.2.1, r.length = q.length
 hp : (((F63_L_L T.2.1 q).2 : Int) != 0) = false → 1 ≤ (F63_L_L T.2.1 q).1.length ∧ (∀ s ∈ (F63_L_L T.2.1 q).1, 1 ≤ s.1) ∧ (∀ s ∈ (F63_L_L T.2.1 q).1, 1 ≤ s.2)
 he : (((F65_L_L T.2.2.1 q).2 : Int) != 0) = false → W (Int.tdiv (W (Int.tdiv (F98_L q) 1048576)) 1048576) ≠ 0 ∧ F99 (F65_L_L T.2.2.1 q).1.2 (W (Int.tdiv (W (Int.tdiv (F98_L q) 1048576)) 1048576)) ≠ 0
theorem potl_fine {m : ME} {q : List Int} {d : Int} (hC : ChOK m q) (hd : 0 ≤ d ∧ d ≤ 2) (h : (((F63_L_L (F59_f60 m d).1 q).2 : Int) != 0) = false) :
   1 ≤ (F63_L_L (F59_f60 m d).1 q).1.length ∧ (∀ s ∈ (F63_L_L (F59_f60 m d).1 q).1, 1 ≤ s.1) ∧ (∀ s ∈ (F63_L_L (F59_f60 m d).1 q).1, 1 ≤ s.2) := by
 have e : (F59_f60 m d).1 = (pans m).map (rowB m d) := by rw [tab_b hC.v hd]; rfl
 have hn := hC.n; have hl := hC.len; have hs := hC.pos
 have hpl : (pans m).length = m.2.length := List.length_map _
 have hrow : ∀ r ∈ (pans m).map (rowB m d), r.length = q.length ∧ ∀ s ∈ r, okP s := fun r hr => by
   obtain ⟨p, hp, rfl⟩ := List.mem_map.1 hr
   unfold rowB
   refine ⟨by rw [List.length_map]; omega, fun s hsm => ?_⟩
   obtain ⟨p', hp', rfl⟩ := List.mem_map.1 hsm
   exact (Between_okP (vld_pk hC.v hd hp' hp)).2
 rw [e, pot_h (fun r hr => by rw [(hrow r hr).1]; exact Nat.le_refl _) (by omega)] at h ⊢
 have hp := pot_pos hrow hC.ok (bne_eq_false_iff_eq.1 h)
 refine ⟨by rw [hp.1, List.length_map]; omega, fun s hs' => ?_, fun s hs' => ?_⟩
 · have := hp.2 s hs'; omega
 · have := hp.2 s hs'; omega
theorem enl_fine {m : ME} {q : List Int} {d : Int} (hC : ChOK m q) (hd : 0 ≤ d ∧ d ≤ 2) (h : (((F65_L_L (F59_f61 m d).1 q).2 : Int) != 0) = false) :
   W (Int.tdiv (W (Int.tdiv (F98_L q) 1048576)) 1048576) ≠ 0 ∧ F99 (F65_L_L (F59_f61 m d).1 q).1.2 (W (Int.tdiv (W (Int.tdiv (F98_L q) 1048576)) 1048576)) ≠ 0 := by
 have e : (F59_f61 m d).1 = MT m d := by rw [tab_m hC.v hd]; rfl
 have hn := hC.n; have hl := hC.len; have hs := hC.pos; have hle := hC.le
 have hpl : (pans m).length = m.2.length := List.length_map _
 rw [e, en_h (by omega) (by omega)] at h ⊢
 obtain ⟨hp, hv⟩ := en_pos hC hd (bne_eq_false_iff_eq.1 h)
 rw [one_eq hC.ok hC.pos (by omega)]
 unfold vs at hv
 have := (up_pos (a := (addV (((pans m).zip q).flatMap (eC m q d))).1.2) (n := q.sum) (by omega) (by omega)).1
 exact ⟨by omega, by omega⟩
theorem bnd_pre {m : ME} {q : List Int} {d : Int} (h : ((F32_L m q d : Int) != 0) = false) : BndPre (F33 m d).1 q := by
 obtain ⟨hv, hd⟩ := chk_v h
 have p1 := pot_pre h
 have p2 := en_pre h
 have hC : ChOK m q := by rw [chk_h] at h; exact (chD_ok (bne_eq_false_iff_eq.1 h)).1
 rw [prep_f hv hd]
 exact ⟨p1.1, p1.2.1, p1.2.2, p2.1, p2.2.1, fun h0 => potl_fine hC hd h0, fun h0 => enl_fine hC hd h0⟩
theorem ones_len_h (m : ME) : (F57 m).length = m.2.length := by rw [ones_h, List.length_map]


def F11_L (a0 : Zm) (a1 : List (Int)) (a2 : Int) : (Int × Int) × Int :=
 (bif (((F32_L (a0.1, a0.2) a1 a2) : Int) != 0) then
  ((0, 0), (F32_L (a0.1, a0.2) a1 a2))
 else
  (bif (((F33 (a0.1, a0.2) a2).2 : Int) != 0) then
   ((0, 0), (F33 (a0.1, a0.2) a2).2)
  else
   ((F34_L ((a0.1, a0.2), (F33 (a0.1, a0.2) a2).1.2.1, (F33 (a0.1, a0.2) a2).1.2.2.1, (F33 (a0.1, a0.2) a2).1.2.2.2) a1).1, (F34_L ((a0.1, a0.2), (F33 (a0.1, a0.2) a2).1.2.1, (F33 (a0.1, a0.2) a2).1.2.2.1, (F33 (a0.1, a0.2) a2).1.2.2.2) a1).2)))

theorem C11_L (a0 : Zm) (a1 : List (Int)) (a2 : Int) (l0_1 : a0.1.length ≤ 9223372036854775807) (l0_2 : a0.2.length ≤ 9223372036854775807) (l1 : a1.length ≤ 9223372036854775807) : Con Tryz.prog 11 [(.a [(.s 0 0 a0.1.length 3), (.s 1 0 a0.2.length 3)]), (.s 2 0 a1.length 1), (iv a2)] [(.live false true (flat c30 a0.1)), (.live false true (flat c94 a0.2)), (.live false true (flat c3 a1))] (.t [(.a (k2 (F11_L a0 a1 a2).1)), (iv (F11_L a0 a1 a2).2)]) [] := by
 refine con_s Tryz.func11 (by kernel_rfl) fun cx hcx => ?_
 try have hx1 := (bnd_pre h0).hn
 try have hx2 := (bnd_pre h0).hm
 try have hx3 := (bnd_pre h0).hl
 let t0 : List (St Tryz.prog) := [.c [0, 1, 2] (C32_L (a0.1, a0.2) a1 a2 (by (try simp only [Lt]); omega) (by (try simp only [Lt]); omega) (by omega))]
 cases h0 : (((F32_L (a0.1, a0.2) a1 a2) : Int) != 0) with
 | true =>
  have q0 := bne_iff_ne.1 h0
  try have hx1 := (bnd_pre h0).hn
  try have hx2 := (bnd_pre h0).hm
  try have hx3 := (bnd_pre h0).hl
  have e := Eq.refl (F11_L a0 a1 a2); conv at e => rhs; simp only [F11_L, h0, cdb]
  rw [e]
  exact rt (t0 ++ [.d h0]) [] [] hcx (by kernel_rfl)
 | false =>
  have q0 := bne_eq_false_iff_eq.1 h0
  try have hx1 := (bnd_pre h0).hn
  try have hx2 := (bnd_pre h0).hm
  try have hx3 := (bnd_pre h0).hl
  let t1 : List (St Tryz.prog) := (t0 ++ [.d h0, .c [0, 1] (C33 (a0.1, a0.2) a2 (by (try simp only [Lt]); omega) (by (try simp only [Lt]); omega) (chk_v h0).1 (chk_v h0).2)])
  cases h1 : (((F33 (a0.1, a0.2) a2).2 : Int) != 0) with
  | true =>
   have q1 := bne_iff_ne.1 h1
   try have hx1 := (bnd_pre h0).hn
   try have hx2 := (bnd_pre h0).hm
   try have hx3 := (bnd_pre h0).hl
   have e := Eq.refl (F11_L a0 a1 a2); conv at e => rhs; simp only [F11_L, h0, h1, cdb]
   rw [e]
   exact rt (t1 ++ [.d h1]) [] [] hcx (by kernel_rfl)
  | false =>
   have q1 := bne_eq_false_iff_eq.1 h1
   try have hx1 := (bnd_pre h0).hn
   try have hx2 := (bnd_pre h0).hm
   try have hx3 := (bnd_pre h0).hl
   have e := Eq.refl (F11_L a0 a1 a2); conv at e => rhs; simp only [F11_L, h0, h1, cdb]
   rw [e]
   exact rt (t1 ++ [.d h1, .c [0, 1, 5, 6, 2] (C34_L ((a0.1, a0.2), (F33 (a0.1, a0.2) a2).1.2.1, (F33 (a0.1, a0.2) a2).1.2.2.1, (F33 (a0.1, a0.2) a2).1.2.2.2) a1 (by (try simp only [Lt]); omega) (by (try simp only [Lt]); omega) (by (try simp only [Lt]); omega) (by (try simp only [Lt]); omega) (by (try simp only [Lt]); omega) (bnd_pre h0).hr (bnd_pre h0).hn (bnd_pre h0).hm (bnd_pre h0).hl (bnd_pre h0).hs (bnd_pre h0).hp (bnd_pre h0).he)]) [] [] hcx (by kernel_rfl)

def F31 (a0 : Zm) (a1 : Int) : (Int × Int) × Int :=
 (bif (((F35 (a0.1, a0.2)) : Int) != 0) then
  ((0, 0), (F35 (a0.1, a0.2)))
 else
  ((F11_L (a0.1, a0.2) (F57 (a0.1, a0.2)) a1).1, (F11_L (a0.1, a0.2) (F57 (a0.1, a0.2)) a1).2))

theorem C31 (a0 : Zm) (a1 : Int) (l0_1 : a0.1.length ≤ 9223372036854775807) (l0_2 : a0.2.length ≤ 9223372036854775807) : Con Tryz.prog 31 [(.a [(.s 0 0 a0.1.length 3), (.s 1 0 a0.2.length 3)]), (iv a1)] [(.live false true (flat c30 a0.1)), (.live false true (flat c94 a0.2))] (.t [(.a (k2 (F31 a0 a1).1)), (iv (F31 a0 a1).2)]) [] := by
 refine con_s Tryz.func31 (by kernel_rfl) fun cx hcx => ?_
 try have hg := (val_ok h0).2
 have ho := ones_len_h (a0.1, a0.2)
 let t0 : List (St Tryz.prog) := [.c [0, 1] (C35 (a0.1, a0.2) (by (try simp only [Lt]); omega) (by (try simp only [Lt]); omega))]
 cases h0 : (((F35 (a0.1, a0.2)) : Int) != 0) with
 | true =>
  have q0 := bne_iff_ne.1 h0
  try have hg := (val_ok h0).2
  have e := Eq.refl (F31 a0 a1); conv at e => rhs; simp only [F31, h0, cdb]
  rw [e]
  exact rt (t0 ++ [.d h0]) [] [] hcx (by kernel_rfl)
 | false =>
  have q0 := bne_eq_false_iff_eq.1 h0
  try have hg := (val_ok h0).2
  have e := Eq.refl (F31 a0 a1); conv at e => rhs; simp only [F31, h0, cdb]
  rw [e]
  exact rt (t0 ++ [.d h0, .c [0, 1] (C57 (a0.1, a0.2) (by (try simp only [Lt]); omega) (by (try simp only [Lt]); omega) (by (try simp only [Lt]); omega)), .c [0, 1, 4] (C11_L (a0.1, a0.2) (F57 (a0.1, a0.2)) a1 (by (try simp only [Lt]); omega) (by (try simp only [Lt]); omega) (by (try simp only [Lt]); omega))]) [] [] hcx (by kernel_rfl)

end Go.Proofs.YtaeagjnpobdglaaGreat
