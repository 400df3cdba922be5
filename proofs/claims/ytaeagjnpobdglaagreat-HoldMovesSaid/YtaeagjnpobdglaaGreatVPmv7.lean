/-
  Parts of the proofs of the laws: the executor, what functions of the program compute, and that it is what the statements ask. No premise.
-/
import Derived.Test.YtaeagjnpobdglaaGreatVPmv6
set_option linter.unusedVariables false
set_option linter.unusedSimpArgs false
set_option maxHeartbeats 4000000
open Int (toNat)
namespace Go.Proofs.YtaeagjnpobdglaaGreat
open Go.Proofs Go.Aw Go.RowKit
set_option maxRecDepth 100000

def F38 (a0 : Zt) (a1 : Zt) : Zt :=
 (F39 a0 1 a1)

theorem C38 (a0 : Zt) (a1 : Zt) : Con Tryz.prog 38 [(.a (k3 a0)), (.p 0 0)] [(.live false false (k3 a1))] (.a (k3 (F38 a0 a1))) [] := by
 refine con_s Tryz.func38 (by kernel_rfl) fun cx hcx => ?_
 have e := Eq.refl (F38 a0 a1); conv at e => rhs; simp only [F38]
 rw [e]
 exact rt [.c [] (C39 a0 1 a1)] [] [] hcx (by kernel_rfl)

noncomputable def B37_c38_1 : Code := (loopAtD [1, 1, 1, 0, 1] [] (bodyOf Tryz.f37) []).1
noncomputable def K37_c38_1 : List K := (loopAtD [1, 1, 1, 0, 1] [] (bodyOf Tryz.f37) []).2

def st37_c38_1 (a0 : Zm) (a1 : Bool) (a2_0 : Zt) (v5c : List SV) (v5n : Nat) (v6c : List SV) (v6n : Nat) (v7 : Int) : LS := ⟨slN 58 [(1, (.v (.bool a1))), (6, (.p 3 0)), (8, (.p 4 0)), (34, (.s 1 0 a0.2.length 3)), (35, (iv (a0.2.length : Int))), (36, (iv v7))], [(.live false true (flat c30 a0.1)), (.live false true (flat c94 a0.2)), (.live false false (k3 a2_0)), (.live true false [(.v (.slice none 0 0)), (.v (.slice none 0 0))]), (.live true false [(.s 5 0 v5n 3), (.s 6 0 v6n 3)]), (.live true true v5c), (.live true true v6c)]⟩

def S37_c38_1 (a0 : Zm) (a1 : Bool) (a2_0 : Zt) : (List Zt) × (List Zt) × Int → ((List Zt) × (List Zt) × Int) ⊕ ((Zm) × Int)
 | (v5, v6, v7) =>
  (bif (decide ((v7 : Int) < (a0.2.length : Int))) then
   (bif a1 then
    (.inl (v5, (v6.set (toNat v7) ((a0.2.getD (toNat v7) default).1, (a0.2.getD (toNat v7) default).2.2, (a0.2.getD (toNat v7) default).2.1)), (v7 + 1)))
   else
    (.inl (v5, v6, (v7 + 1))))
  else
   (bif (((F35 ((v5, v6).1, (v5, v6).2)) : Int) != 0) then
    (.inr ((([] : List Zt), ([] : List Zt)), (F35 ((v5, v6).1, (v5, v6).2))))
   else
    (.inr ((v5, v6), 0))))

noncomputable def B37_c38_0 : Code := (loopAtD [1, 1, 0, 1] [] (bodyOf Tryz.f37) []).1
noncomputable def K37_c38_0 : List K := (loopAtD [1, 1, 0, 1] [] (bodyOf Tryz.f37) []).2

def st37_c38_0 (a0 : Zm) (a1 : Bool) (a2_0 : Zt) (v2c : List SV) (v2n : Nat) (v3 : Int) : LS := ⟨slN 58 [(1, (.v (.bool a1))), (2, (.f 38 [(.p 2 0)])), (3, (.p 3 0)), (6, (.p 4 0)), (8, (.p 5 0)), (18, (.s 0 0 a0.1.length 3)), (19, (iv (a0.1.length : Int))), (20, (iv v3))], [(.live false true (flat c30 a0.1)), (.live false true (flat c94 a0.2)), (.live false false (k3 a2_0)), (.live true false [(.s 0 0 a0.1.length 3), (.s 1 0 a0.2.length 3)]), (.live true false [(.v (.slice none 0 0)), (.v (.slice none 0 0))]), (.live true false [(.s 6 0 v2n 3), (.s 7 0 (F74_L a0.2).length 3)]), (.live true true v2c), (.live true true (flat c94 (F74_L a0.2)))]⟩

def S37_c38_0 (a0 : Zm) (a1 : Bool) (a2_0 : Zt) : (List Zt) × Int → ((List Zt) × Int) ⊕ ((Zm) × Int)
 | (v2, v3) =>
  (bif (decide ((v3 : Int) < (a0.1.length : Int))) then
   (.inl ((v2 ++ [(F38 (a0.1.getD (toNat v3) default) a2_0)]), (v3 + 1)))
  else
   (.inr (loopF (S37_c38_1 a0 a1 a2_0) (toNat ((a0.2.length : Int) - 0) + 1) (v2, (F74_L a0.2), 0))))

theorem L37_c38_1 (a0 : Zm) (a1 : Bool) (a2_0 : Zt) (l0_1 : a0.1.length ≤ 9223372036854775807) (l0_2 : a0.2.length ≤ 9223372036854775807) (hv : F35 a0 = 0) {cx : Cx} (hcx : cx.base = 3) : ∀ (n : Nat) (v5 : List Zt) (v6 : List Zt) (v7 : Int), (0 ≤ v7) ∧ (v6.length = a0.2.length) ∧ (v7 ≤ a0.2.length) ∧ (v5.length ≤ 64) → toNat ((a0.2.length : Int) - v7) < n → Aw.Good Tryz.prog none 9 (bodyPost Tryz.prog Tryz.f37 (RR cx (.t [(.a [(.s 3 0 (loopF (S37_c38_1 a0 a1 a2_0) n (v5, v6, v7)).1.1.length 3), (.s 4 0 (loopF (S37_c38_1 a0 a1 a2_0) n (v5, v6, v7)).1.2.length 3)]), (iv (loopF (S37_c38_1 a0 a1 a2_0) n (v5, v6, v7)).2)]) [(.live true true (flat c30 (loopF (S37_c38_1 a0 a1 a2_0) n (v5, v6, v7)).1.1)), (.live true true (flat c94 (loopF (S37_c38_1 a0 a1 a2_0) n (v5, v6, v7)).1.2))] [])) cx [] (.l B37_c38_1 n :: K37_c38_1) (st37_c38_1 a0 a1 a2_0 (flat c30 v5) v5.length (flat c94 v6) v6.length v7) := by
 intro n
 induction n with
 | zero => intro v5 v6 v7 hi hn; exact absurd hn (nlz _)
 | succ n ih =>
   intro v5 v6 v7 hi hn
   refine good_round ?_
   have hpf := val_parts hv
   have hcl : (F74_L a0.2).length = a0.2.length := rfl
   cases h0 : (decide ((v7 : Int) < (a0.2.length : Int))) with
   | true =>
    have q0 := odt h0
    let t1 : List (St Tryz.prog) := [.d h0, .i v7 (a0.2.length), .L c94_len a0.2 v7 0 3]
    rcases bool_tf a1 with h1 | h1
    · skip
      have e := Eq.refl (S37_c38_1 a0 a1 a2_0 (v5, v6, v7)); conv at e => rhs; simp only [S37_c38_1, h0, h1, cdb]
      rw [loopF_inl e]
      refine ba (t1 ++ [.d h1, .i 0 3 (by decide), .i 2 3 (by decide), .i 1 3 (by decide), .i v7 (v6.length), .p (show ((0 + toNat v7 * 3) + 3 ≤ (flat c94 v6).length) from (flat_setl c94_len (by first | omega | (simp only [Lt]; omega)) (o := 0) (Nb rfl)))]) [] [1, 6, 8, 34, 35, 36] [3, 4, 5, 6] hcx (m := n) B37_c38_1 (K37_c38_1) (st37_c38_1 a0 a1 a2_0 (flat c30 v5) (v5.length) (splice (flat c94 v6) (0 + toNat v7 * 3) [(iv (a0.2.getD (toNat v7) default).1), (iv (a0.2.getD (toNat v7) default).2.2), (iv (a0.2.getD (toNat v7) default).2.1)]) (v6.length) (W (v7 + 1))) (by kernel_rfl) ?_
      have z0 : (W (v7 + 1)) = (v7 + 1) := W_eq (by omega) (by omega)
      have z1 : (splice (flat c94 v6) (0 + toNat v7 * 3) [(iv (a0.2.getD (toNat v7) default).1), (iv (a0.2.getD (toNat v7) default).2.2), (iv (a0.2.getD (toNat v7) default).2.1)]) = flat c94 (v6.set (toNat v7) ((a0.2.getD (toNat v7) default).1, (a0.2.getD (toNat v7) default).2.2, (a0.2.getD (toNat v7) default).2.1)) := (flat_set c94_len (by first | omega | (simp only [Lt]; omega)) (o := 0) (d := default) (Nb rfl) rfl)
      have z2 : v6.length = (v6.set (toNat v7) ((a0.2.getD (toNat v7) default).1, (a0.2.getD (toNat v7) default).2.2, (a0.2.getD (toNat v7) default).2.1)).length := by simp
      rw [z0, z1, z2]
      exact ih v5 (v6.set (toNat v7) ((a0.2.getD (toNat v7) default).1, (a0.2.getD (toNat v7) default).2.2, (a0.2.getD (toNat v7) default).2.1)) (v7 + 1) (by refine ⟨?_, ?_, ?_, ?_⟩ <;> (try simp only [Ls]) <;> first | omega | assumption | simp) (by (try simp only [Ls]); omega)
    · skip
      have e := Eq.refl (S37_c38_1 a0 a1 a2_0 (v5, v6, v7)); conv at e => rhs; simp only [S37_c38_1, h0, h1, cdb]
      rw [loopF_inl e]
      refine ba (t1 ++ [.d h1]) [] [1, 6, 8, 34, 35, 36] [3, 4, 5, 6] hcx (m := n) B37_c38_1 (K37_c38_1) (st37_c38_1 a0 a1 a2_0 (flat c30 v5) (v5.length) (flat c94 v6) (v6.length) (W (v7 + 1))) (by kernel_rfl) ?_
      have z0 : (W (v7 + 1)) = (v7 + 1) := W_eq (by omega) (by omega)
      rw [z0]
      exact ih v5 v6 (v7 + 1) (by refine ⟨?_, ?_, ?_, ?_⟩ <;> (try simp only [Ls]) <;> first | omega | assumption | simp) (by (try simp only [Ls]); omega)
   | false =>
    have q0 := odf h0
    let t1 : List (St Tryz.prog) := [.d h0]
    cases h1 : (((F35 ((v5, v6).1, (v5, v6).2)) : Int) != 0) with
    | true =>
     have q1 := bne_iff_ne.1 h1
     have e := Eq.refl (S37_c38_1 a0 a1 a2_0 (v5, v6, v7)); conv at e => rhs; simp only [S37_c38_1, h0, h1, cdb]
     rw [loopF_s, e]
     exact rt (t1 ++ [.c [5, 6] (C75_bad (v5, v6) (by (try simp only [Lt]); omega) (by (try simp only [Lt]); omega) h1)]) [.cell 3 0 3, .cell 3 1 3] [7, 8] hcx (by kernel_rfl)
    | false =>
     have q1 := bne_eq_false_iff_eq.1 h1
     have e := Eq.refl (S37_c38_1 a0 a1 a2_0 (v5, v6, v7)); conv at e => rhs; simp only [S37_c38_1, h0, h1, cdb]
     rw [loopF_s, e]
     exact rt (t1 ++ [.c [5, 6] (C75_good (v5, v6) (by (try simp only [Lt]); omega) (by (try simp only [Lt]); omega) h1)]) [] [5, 6] hcx (by kernel_rfl)

theorem L37_c38_0 (a0 : Zm) (a1 : Bool) (a2_0 : Zt) (l0_1 : a0.1.length ≤ 9223372036854775807) (l0_2 : a0.2.length ≤ 9223372036854775807) (hv : F35 a0 = 0) {cx : Cx} (hcx : cx.base = 3) : ∀ (n : Nat) (v2 : List Zt) (v3 : Int), (0 ≤ v3) ∧ (v2.length = toNat v3) ∧ (v3 ≤ a0.1.length) → toNat ((a0.1.length : Int) - v3) < n → Aw.Good Tryz.prog none 9 (bodyPost Tryz.prog Tryz.f37 (RR cx (.t [(.a [(.s 3 0 (loopF (S37_c38_0 a0 a1 a2_0) n (v2, v3)).1.1.length 3), (.s 4 0 (loopF (S37_c38_0 a0 a1 a2_0) n (v2, v3)).1.2.length 3)]), (iv (loopF (S37_c38_0 a0 a1 a2_0) n (v2, v3)).2)]) [(.live true true (flat c30 (loopF (S37_c38_0 a0 a1 a2_0) n (v2, v3)).1.1)), (.live true true (flat c94 (loopF (S37_c38_0 a0 a1 a2_0) n (v2, v3)).1.2))] [])) cx [] (.l B37_c38_0 n :: K37_c38_0) (st37_c38_0 a0 a1 a2_0 (flat c30 v2) v2.length v3) := by
 intro n
 induction n with
 | zero => intro v2 v3 hi hn; exact absurd hn (nlz _)
 | succ n ih =>
   intro v2 v3 hi hn
   refine good_round ?_
   have hpf := val_parts hv
   have hcl : (F74_L a0.2).length = a0.2.length := rfl
   cases h0 : (decide ((v3 : Int) < (a0.1.length : Int))) with
   | true =>
    have q0 := odt h0
    have e := Eq.refl (S37_c38_0 a0 a1 a2_0 (v2, v3)); conv at e => rhs; simp only [S37_c38_0, h0, cdb]
    rw [loopF_inl e]
    refine ba [.d h0, .i v3 (a0.1.length), .L c30_len a0.1 v3 0 3, .c [2] (C38 (a0.1.getD (toNat v3) default) a2_0), .p (show ((flat c30 v2).length = v2.length * 3 ∧ v2.length + 1 ≤ 2 ^ 40 ∧ (v2.length + 1) * 24 ≤ 2 ^ 47) from app_ok c30_len (by omega) (by omega))] [] [1, 2, 3, 6, 8, 18, 19, 20] [3, 4, 5, 10, 7] hcx (m := n) B37_c38_0 (K37_c38_0) (st37_c38_0 a0 a1 a2_0 (flat c30 v2 ++ (k3 (F38 (a0.1.getD (toNat v3) default) a2_0))) (v2.length + 1) (W (v3 + 1))) (by kernel_rfl) ?_
    have z0 : (W (v3 + 1)) = (v3 + 1) := W_eq (by omega) (by omega)
    have z1 : (flat c30 v2 ++ (k3 (F38 (a0.1.getD (toNat v3) default) a2_0))) = (flat c30 (v2 ++ [(F38 (a0.1.getD (toNat v3) default) a2_0)])) := (flat_append (c := c30) (l := v2) (m := [(F38 (a0.1.getD (toNat v3) default) a2_0)])).symm
    have z2 : (v2.length + 1) = (v2 ++ [(F38 (a0.1.getD (toNat v3) default) a2_0)]).length := len_app v2 [(F38 (a0.1.getD (toNat v3) default) a2_0)] rfl
    rw [z0, z1, z2]
    exact ih (v2 ++ [(F38 (a0.1.getD (toNat v3) default) a2_0)]) (v3 + 1) (by refine ⟨?_, ?_, ?_⟩ <;> (try simp only [Ls]) <;> first | omega | assumption | simp) (by (try simp only [Ls]); omega)
   | false =>
    have q0 := odf h0
    have e := Eq.refl (S37_c38_0 a0 a1 a2_0 (v2, v3)); conv at e => rhs; simp only [S37_c38_0, h0, cdb]
    rw [loopF_s, e]
    refine en [.d h0] [] [1, 6, 8, 34, 35, 36] [4, 5, 6, 7] hcx B37_c38_1 (K37_c38_1) (st37_c38_1 a0 a1 a2_0 (flat c30 v2) (v2.length) (flat c94 (F74_L a0.2)) ((F74_L a0.2).length) 0) (toNat ((a0.2.length : Int) - 0) + 1) (by kernel_rfl) ?_
    exact L37_c38_1 a0 a1 a2_0 l0_1 l0_2 hv hcx (toNat ((a0.2.length : Int) - 0) + 1) v2 (F74_L a0.2) 0 (by refine ⟨?_, ?_, ?_, ?_⟩ <;> (try simp only [Ls]) <;> first | omega | assumption | simp) (by (try simp only [Ls]); omega)

def F37_c38 (a0 : Zm) (a1 : Bool) (a2_0 : Zt) : (Zm) × Int :=
 (loopF (S37_c38_0 a0 a1 a2_0) (toNat ((a0.1.length : Int) - 0) + 1) (([] : List Zt), 0))

theorem C37_c38 (a0 : Zm) (a1 : Bool) (a2_0 : Zt) (l0_1 : a0.1.length ≤ 9223372036854775807) (l0_2 : a0.2.length ≤ 9223372036854775807) (hv : F35 a0 = 0) : Con Tryz.prog 37 [(.a [(.s 0 0 a0.1.length 3), (.s 1 0 a0.2.length 3)]), (.v (.bool a1)), (.f 38 [(.p 2 0)])] [(.live false true (flat c30 a0.1)), (.live false true (flat c94 a0.2)), (.live false false (k3 a2_0))] (.t [(.a [(.s 3 0 (F37_c38 a0 a1 a2_0).1.1.length 3), (.s 4 0 (F37_c38 a0 a1 a2_0).1.2.length 3)]), (iv (F37_c38 a0 a1 a2_0).2)]) [(.live true true (flat c30 (F37_c38 a0 a1 a2_0).1.1)), (.live true true (flat c94 (F37_c38 a0 a1 a2_0).1.2))] := by
 refine con_s Tryz.func37 (by kernel_rfl) fun cx hcx => ?_
 have hpf := val_parts hv
 have hcl : (F74_L a0.2).length = a0.2.length := rfl
 have e := Eq.refl (F37_c38 a0 a1 a2_0); conv at e => rhs; simp only [F37_c38]
 rw [e]
 refine en [.c [1] (C74_L a0.2 (by omega) (by omega) (by omega))] [.cell 6 0 3] [1, 2, 3, 6, 8, 18, 19, 20] [3, 4, 6, 7, 5] hcx B37_c38_0 (K37_c38_0) (st37_c38_0 a0 a1 a2_0 (flat c30 ([] : List Zt)) 0 0) (toNat ((a0.1.length : Int) - 0) + 1) (by kernel_rfl) ?_
 exact L37_c38_0 a0 a1 a2_0 l0_1 l0_2 hv hcx (toNat ((a0.1.length : Int) - 0) + 1) ([] : List Zt) 0 (by refine ⟨?_, ?_, ?_⟩ <;> (try simp only [Ls]) <;> first | omega | assumption | simp) (by (try simp only [Ls]); omega)

noncomputable def B37_f40_1 : Code := (loopAtD [1, 1, 1, 0, 1] [] (bodyOf Tryz.f37) []).1
noncomputable def K37_f40_1 : List K := (loopAtD [1, 1, 1, 0, 1] [] (bodyOf Tryz.f37) []).2

def st37_f40_1 (a0 : Zm) (a1 : Bool) (v5c : List SV) (v5n : Nat) (v6c : List SV) (v6n : Nat) (v7 : Int) : LS := ⟨slN 58 [(1, (.v (.bool a1))), (6, (.p 2 0)), (8, (.p 3 0)), (34, (.s 1 0 a0.2.length 3)), (35, (iv (a0.2.length : Int))), (36, (iv v7))], [(.live false true (flat c30 a0.1)), (.live false true (flat c94 a0.2)), (.live true false [(.v (.slice none 0 0)), (.v (.slice none 0 0))]), (.live true false [(.s 4 0 v5n 3), (.s 5 0 v6n 3)]), (.live true true v5c), (.live true true v6c)]⟩

def S37_f40_1 (a0 : Zm) (a1 : Bool) : (List Zt) × (List Zt) × Int → ((List Zt) × (List Zt) × Int) ⊕ ((Zm) × Int)
 | (v5, v6, v7) =>
  (bif (decide ((v7 : Int) < (a0.2.length : Int))) then
   (bif a1 then
    (.inl (v5, (v6.set (toNat v7) ((a0.2.getD (toNat v7) default).1, (a0.2.getD (toNat v7) default).2.2, (a0.2.getD (toNat v7) default).2.1)), (v7 + 1)))
   else
    (.inl (v5, v6, (v7 + 1))))
  else
   (bif (((F35 ((v5, v6).1, (v5, v6).2)) : Int) != 0) then
    (.inr ((([] : List Zt), ([] : List Zt)), (F35 ((v5, v6).1, (v5, v6).2))))
   else
    (.inr ((v5, v6), 0))))

noncomputable def B37_f40_0 : Code := (loopAtD [1, 1, 0, 1] [] (bodyOf Tryz.f37) []).1
noncomputable def K37_f40_0 : List K := (loopAtD [1, 1, 0, 1] [] (bodyOf Tryz.f37) []).2

def st37_f40_0 (a0 : Zm) (a1 : Bool) (v2c : List SV) (v2n : Nat) (v3 : Int) : LS := ⟨slN 58 [(1, (.v (.bool a1))), (2, (.v (.func (.func 40) #[] #[]))), (3, (.p 2 0)), (6, (.p 3 0)), (8, (.p 4 0)), (18, (.s 0 0 a0.1.length 3)), (19, (iv (a0.1.length : Int))), (20, (iv v3))], [(.live false true (flat c30 a0.1)), (.live false true (flat c94 a0.2)), (.live true false [(.s 0 0 a0.1.length 3), (.s 1 0 a0.2.length 3)]), (.live true false [(.v (.slice none 0 0)), (.v (.slice none 0 0))]), (.live true false [(.s 5 0 v2n 3), (.s 6 0 (F74_L a0.2).length 3)]), (.live true true v2c), (.live true true (flat c94 (F74_L a0.2)))]⟩

def S37_f40_0 (a0 : Zm) (a1 : Bool) : (List Zt) × Int → ((List Zt) × Int) ⊕ ((Zm) × Int)
 | (v2, v3) =>
  (bif (decide ((v3 : Int) < (a0.1.length : Int))) then
   (.inl ((v2 ++ [(F40 (a0.1.getD (toNat v3) default))]), (v3 + 1)))
  else
   (.inr (loopF (S37_f40_1 a0 a1) (toNat ((a0.2.length : Int) - 0) + 1) (v2, (F74_L a0.2), 0))))

theorem L37_f40_1 (a0 : Zm) (a1 : Bool) (l0_1 : a0.1.length ≤ 9223372036854775807) (l0_2 : a0.2.length ≤ 9223372036854775807) (hv : F35 a0 = 0) {cx : Cx} (hcx : cx.base = 2) : ∀ (n : Nat) (v5 : List Zt) (v6 : List Zt) (v7 : Int), (0 ≤ v7) ∧ (v6.length = a0.2.length) ∧ (v7 ≤ a0.2.length) ∧ (v5.length ≤ 64) → toNat ((a0.2.length : Int) - v7) < n → Aw.Good Tryz.prog none 9 (bodyPost Tryz.prog Tryz.f37 (RR cx (.t [(.a [(.s 2 0 (loopF (S37_f40_1 a0 a1) n (v5, v6, v7)).1.1.length 3), (.s 3 0 (loopF (S37_f40_1 a0 a1) n (v5, v6, v7)).1.2.length 3)]), (iv (loopF (S37_f40_1 a0 a1) n (v5, v6, v7)).2)]) [(.live true true (flat c30 (loopF (S37_f40_1 a0 a1) n (v5, v6, v7)).1.1)), (.live true true (flat c94 (loopF (S37_f40_1 a0 a1) n (v5, v6, v7)).1.2))] [])) cx [] (.l B37_f40_1 n :: K37_f40_1) (st37_f40_1 a0 a1 (flat c30 v5) v5.length (flat c94 v6) v6.length v7) := by
 intro n
 induction n with
 | zero => intro v5 v6 v7 hi hn; exact absurd hn (nlz _)
 | succ n ih =>
   intro v5 v6 v7 hi hn
   refine good_round ?_
   have hpf := val_parts hv
   have hcl : (F74_L a0.2).length = a0.2.length := rfl
   cases h0 : (decide ((v7 : Int) < (a0.2.length : Int))) with
   | true =>
    have q0 := odt h0
    let t1 : List (St Tryz.prog) := [.d h0, .i v7 (a0.2.length), .L c94_len a0.2 v7 0 3]
    rcases bool_tf a1 with h1 | h1
    · skip
      have e := Eq.refl (S37_f40_1 a0 a1 (v5, v6, v7)); conv at e => rhs; simp only [S37_f40_1, h0, h1, cdb]
      rw [loopF_inl e]
      refine ba (t1 ++ [.d h1, .i 0 3 (by decide), .i 2 3 (by decide), .i 1 3 (by decide), .i v7 (v6.length), .p (show ((0 + toNat v7 * 3) + 3 ≤ (flat c94 v6).length) from (flat_setl c94_len (by first | omega | (simp only [Lt]; omega)) (o := 0) (Nb rfl)))]) [] [1, 6, 8, 34, 35, 36] [2, 3, 4, 5] hcx (m := n) B37_f40_1 (K37_f40_1) (st37_f40_1 a0 a1 (flat c30 v5) (v5.length) (splice (flat c94 v6) (0 + toNat v7 * 3) [(iv (a0.2.getD (toNat v7) default).1), (iv (a0.2.getD (toNat v7) default).2.2), (iv (a0.2.getD (toNat v7) default).2.1)]) (v6.length) (W (v7 + 1))) (by kernel_rfl) ?_
      have z0 : (W (v7 + 1)) = (v7 + 1) := W_eq (by omega) (by omega)
      have z1 : (splice (flat c94 v6) (0 + toNat v7 * 3) [(iv (a0.2.getD (toNat v7) default).1), (iv (a0.2.getD (toNat v7) default).2.2), (iv (a0.2.getD (toNat v7) default).2.1)]) = flat c94 (v6.set (toNat v7) ((a0.2.getD (toNat v7) default).1, (a0.2.getD (toNat v7) default).2.2, (a0.2.getD (toNat v7) default).2.1)) := (flat_set c94_len (by first | omega | (simp only [Lt]; omega)) (o := 0) (d := default) (Nb rfl) rfl)
      have z2 : v6.length = (v6.set (toNat v7) ((a0.2.getD (toNat v7) default).1, (a0.2.getD (toNat v7) default).2.2, (a0.2.getD (toNat v7) default).2.1)).length := by simp
      rw [z0, z1, z2]
      exact ih v5 (v6.set (toNat v7) ((a0.2.getD (toNat v7) default).1, (a0.2.getD (toNat v7) default).2.2, (a0.2.getD (toNat v7) default).2.1)) (v7 + 1) (by refine ⟨?_, ?_, ?_, ?_⟩ <;> (try simp only [Ls]) <;> first | omega | assumption | simp) (by (try simp only [Ls]); omega)
    · skip
      have e := Eq.refl (S37_f40_1 a0 a1 (v5, v6, v7)); conv at e => rhs; simp only [S37_f40_1, h0, h1, cdb]
      rw [loopF_inl e]
      refine ba (t1 ++ [.d h1]) [] [1, 6, 8, 34, 35, 36] [2, 3, 4, 5] hcx (m := n) B37_f40_1 (K37_f40_1) (st37_f40_1 a0 a1 (flat c30 v5) (v5.length) (flat c94 v6) (v6.length) (W (v7 + 1))) (by kernel_rfl) ?_
      have z0 : (W (v7 + 1)) = (v7 + 1) := W_eq (by omega) (by omega)
      rw [z0]
      exact ih v5 v6 (v7 + 1) (by refine ⟨?_, ?_, ?_, ?_⟩ <;> (try simp only [Ls]) <;> first | omega | assumption | simp) (by (try simp only [Ls]); omega)
   | false =>
    have q0 := odf h0
    let t1 : List (St Tryz.prog) := [.d h0]
    cases h1 : (((F35 ((v5, v6).1, (v5, v6).2)) : Int) != 0) with
    | true =>
     have q1 := bne_iff_ne.1 h1
     have e := Eq.refl (S37_f40_1 a0 a1 (v5, v6, v7)); conv at e => rhs; simp only [S37_f40_1, h0, h1, cdb]
     rw [loopF_s, e]
     exact rt (t1 ++ [.c [4, 5] (C75_bad (v5, v6) (by (try simp only [Lt]); omega) (by (try simp only [Lt]); omega) h1)]) [.cell 2 0 3, .cell 2 1 3] [6, 7] hcx (by kernel_rfl)
    | false =>
     have q1 := bne_eq_false_iff_eq.1 h1
     have e := Eq.refl (S37_f40_1 a0 a1 (v5, v6, v7)); conv at e => rhs; simp only [S37_f40_1, h0, h1, cdb]
     rw [loopF_s, e]
     exact rt (t1 ++ [.c [4, 5] (C75_good (v5, v6) (by (try simp only [Lt]); omega) (by (try simp only [Lt]); omega) h1)]) [] [4, 5] hcx (by kernel_rfl)

theorem L37_f40_0 (a0 : Zm) (a1 : Bool) (l0_1 : a0.1.length ≤ 9223372036854775807) (l0_2 : a0.2.length ≤ 9223372036854775807) (hv : F35 a0 = 0) {cx : Cx} (hcx : cx.base = 2) : ∀ (n : Nat) (v2 : List Zt) (v3 : Int), (0 ≤ v3) ∧ (v2.length = toNat v3) ∧ (v3 ≤ a0.1.length) → toNat ((a0.1.length : Int) - v3) < n → Aw.Good Tryz.prog none 9 (bodyPost Tryz.prog Tryz.f37 (RR cx (.t [(.a [(.s 2 0 (loopF (S37_f40_0 a0 a1) n (v2, v3)).1.1.length 3), (.s 3 0 (loopF (S37_f40_0 a0 a1) n (v2, v3)).1.2.length 3)]), (iv (loopF (S37_f40_0 a0 a1) n (v2, v3)).2)]) [(.live true true (flat c30 (loopF (S37_f40_0 a0 a1) n (v2, v3)).1.1)), (.live true true (flat c94 (loopF (S37_f40_0 a0 a1) n (v2, v3)).1.2))] [])) cx [] (.l B37_f40_0 n :: K37_f40_0) (st37_f40_0 a0 a1 (flat c30 v2) v2.length v3) := by
 intro n
 induction n with
 | zero => intro v2 v3 hi hn; exact absurd hn (nlz _)
 | succ n ih =>
   intro v2 v3 hi hn
   refine good_round ?_
   have hpf := val_parts hv
   have hcl : (F74_L a0.2).length = a0.2.length := rfl
   cases h0 : (decide ((v3 : Int) < (a0.1.length : Int))) with
   | true =>
    have q0 := odt h0
    have e := Eq.refl (S37_f40_0 a0 a1 (v2, v3)); conv at e => rhs; simp only [S37_f40_0, h0, cdb]
    rw [loopF_inl e]
    refine ba [.d h0, .i v3 (a0.1.length), .L c30_len a0.1 v3 0 3, .c [] (C40 (a0.1.getD (toNat v3) default)), .p (show ((flat c30 v2).length = v2.length * 3 ∧ v2.length + 1 ≤ 2 ^ 40 ∧ (v2.length + 1) * 24 ≤ 2 ^ 47) from app_ok c30_len (by omega) (by omega))] [] [1, 2, 3, 6, 8, 18, 19, 20] [2, 3, 4, 9, 6] hcx (m := n) B37_f40_0 (K37_f40_0) (st37_f40_0 a0 a1 (flat c30 v2 ++ (k3 (F40 (a0.1.getD (toNat v3) default)))) (v2.length + 1) (W (v3 + 1))) (by kernel_rfl) ?_
    have z0 : (W (v3 + 1)) = (v3 + 1) := W_eq (by omega) (by omega)
    have z1 : (flat c30 v2 ++ (k3 (F40 (a0.1.getD (toNat v3) default)))) = (flat c30 (v2 ++ [(F40 (a0.1.getD (toNat v3) default))])) := (flat_append (c := c30) (l := v2) (m := [(F40 (a0.1.getD (toNat v3) default))])).symm
    have z2 : (v2.length + 1) = (v2 ++ [(F40 (a0.1.getD (toNat v3) default))]).length := len_app v2 [(F40 (a0.1.getD (toNat v3) default))] rfl
    rw [z0, z1, z2]
    exact ih (v2 ++ [(F40 (a0.1.getD (toNat v3) default))]) (v3 + 1) (by refine ⟨?_, ?_, ?_⟩ <;> (try simp only [Ls]) <;> first | omega | assumption | simp) (by (try simp only [Ls]); omega)
   | false =>
    have q0 := odf h0
    have e := Eq.refl (S37_f40_0 a0 a1 (v2, v3)); conv at e => rhs; simp only [S37_f40_0, h0, cdb]
    rw [loopF_s, e]
    refine en [.d h0] [] [1, 6, 8, 34, 35, 36] [3, 4, 5, 6] hcx B37_f40_1 (K37_f40_1) (st37_f40_1 a0 a1 (flat c30 v2) (v2.length) (flat c94 (F74_L a0.2)) ((F74_L a0.2).length) 0) (toNat ((a0.2.length : Int) - 0) + 1) (by kernel_rfl) ?_
    exact L37_f40_1 a0 a1 l0_1 l0_2 hv hcx (toNat ((a0.2.length : Int) - 0) + 1) v2 (F74_L a0.2) 0 (by refine ⟨?_, ?_, ?_, ?_⟩ <;> (try simp only [Ls]) <;> first | omega | assumption | simp) (by (try simp only [Ls]); omega)

def F37_f40 (a0 : Zm) (a1 : Bool) : (Zm) × Int :=
 (loopF (S37_f40_0 a0 a1) (toNat ((a0.1.length : Int) - 0) + 1) (([] : List Zt), 0))

theorem C37_f40 (a0 : Zm) (a1 : Bool) (l0_1 : a0.1.length ≤ 9223372036854775807) (l0_2 : a0.2.length ≤ 9223372036854775807) (hv : F35 a0 = 0) : Con Tryz.prog 37 [(.a [(.s 0 0 a0.1.length 3), (.s 1 0 a0.2.length 3)]), (.v (.bool a1)), (.v (.func (.func 40) #[] #[]))] [(.live false true (flat c30 a0.1)), (.live false true (flat c94 a0.2))] (.t [(.a [(.s 2 0 (F37_f40 a0 a1).1.1.length 3), (.s 3 0 (F37_f40 a0 a1).1.2.length 3)]), (iv (F37_f40 a0 a1).2)]) [(.live true true (flat c30 (F37_f40 a0 a1).1.1)), (.live true true (flat c94 (F37_f40 a0 a1).1.2))] := by
 refine con_s Tryz.func37 (by kernel_rfl) fun cx hcx => ?_
 have hpf := val_parts hv
 have hcl : (F74_L a0.2).length = a0.2.length := rfl
 have e := Eq.refl (F37_f40 a0 a1); conv at e => rhs; simp only [F37_f40]
 rw [e]
 refine en [.c [1] (C74_L a0.2 (by omega) (by omega) (by omega))] [.cell 5 0 3] [1, 2, 3, 6, 8, 18, 19, 20] [2, 3, 5, 6, 4] hcx B37_f40_0 (K37_f40_0) (st37_f40_0 a0 a1 (flat c30 ([] : List Zt)) 0 0) (toNat ((a0.1.length : Int) - 0) + 1) (by kernel_rfl) ?_
 exact L37_f40_0 a0 a1 l0_1 l0_2 hv hcx (toNat ((a0.1.length : Int) - 0) + 1) ([] : List Zt) 0 (by refine ⟨?_, ?_, ?_⟩ <;> (try simp only [Ls]) <;> first | omega | assumption | simp) (by (try simp only [Ls]); omega)

noncomputable def B37_f41_1 : Code := (loopAtD [1, 1, 1, 0, 1] [] (bodyOf Tryz.f37) []).1
noncomputable def K37_f41_1 : List K := (loopAtD [1, 1, 1, 0, 1] [] (bodyOf Tryz.f37) []).2

def st37_f41_1 (a0 : Zm) (a1 : Bool) (v5c : List SV) (v5n : Nat) (v6c : List SV) (v6n : Nat) (v7 : Int) : LS := ⟨slN 58 [(1, (.v (.bool a1))), (6, (.p 2 0)), (8, (.p 3 0)), (34, (.s 1 0 a0.2.length 3)), (35, (iv (a0.2.length : Int))), (36, (iv v7))], [(.live false true (flat c30 a0.1)), (.live false true (flat c94 a0.2)), (.live true false [(.v (.slice none 0 0)), (.v (.slice none 0 0))]), (.live true false [(.s 4 0 v5n 3), (.s 5 0 v6n 3)]), (.live true true v5c), (.live true true v6c)]⟩

def S37_f41_1 (a0 : Zm) (a1 : Bool) : (List Zt) × (List Zt) × Int → ((List Zt) × (List Zt) × Int) ⊕ ((Zm) × Int)
 | (v5, v6, v7) =>
  (bif (decide ((v7 : Int) < (a0.2.length : Int))) then
   (bif a1 then
    (.inl (v5, (v6.set (toNat v7) ((a0.2.getD (toNat v7) default).1, (a0.2.getD (toNat v7) default).2.2, (a0.2.getD (toNat v7) default).2.1)), (v7 + 1)))
   else
    (.inl (v5, v6, (v7 + 1))))
  else
   (bif (((F35 ((v5, v6).1, (v5, v6).2)) : Int) != 0) then
    (.inr ((([] : List Zt), ([] : List Zt)), (F35 ((v5, v6).1, (v5, v6).2))))
   else
    (.inr ((v5, v6), 0))))

noncomputable def B37_f41_0 : Code := (loopAtD [1, 1, 0, 1] [] (bodyOf Tryz.f37) []).1
noncomputable def K37_f41_0 : List K := (loopAtD [1, 1, 0, 1] [] (bodyOf Tryz.f37) []).2

def st37_f41_0 (a0 : Zm) (a1 : Bool) (v2c : List SV) (v2n : Nat) (v3 : Int) : LS := ⟨slN 58 [(1, (.v (.bool a1))), (2, (.v (.func (.func 41) #[] #[]))), (3, (.p 2 0)), (6, (.p 3 0)), (8, (.p 4 0)), (18, (.s 0 0 a0.1.length 3)), (19, (iv (a0.1.length : Int))), (20, (iv v3))], [(.live false true (flat c30 a0.1)), (.live false true (flat c94 a0.2)), (.live true false [(.s 0 0 a0.1.length 3), (.s 1 0 a0.2.length 3)]), (.live true false [(.v (.slice none 0 0)), (.v (.slice none 0 0))]), (.live true false [(.s 5 0 v2n 3), (.s 6 0 (F74_L a0.2).length 3)]), (.live true true v2c), (.live true true (flat c94 (F74_L a0.2)))]⟩

def S37_f41_0 (a0 : Zm) (a1 : Bool) : (List Zt) × Int → ((List Zt) × Int) ⊕ ((Zm) × Int)
 | (v2, v3) =>
  (bif (decide ((v3 : Int) < (a0.1.length : Int))) then
   (.inl ((v2 ++ [(F41 (a0.1.getD (toNat v3) default))]), (v3 + 1)))
  else
   (.inr (loopF (S37_f41_1 a0 a1) (toNat ((a0.2.length : Int) - 0) + 1) (v2, (F74_L a0.2), 0))))

theorem L37_f41_1 (a0 : Zm) (a1 : Bool) (l0_1 : a0.1.length ≤ 9223372036854775807) (l0_2 : a0.2.length ≤ 9223372036854775807) (hv : F35 a0 = 0) {cx : Cx} (hcx : cx.base = 2) : ∀ (n : Nat) (v5 : List Zt) (v6 : List Zt) (v7 : Int), (0 ≤ v7) ∧ (v6.length = a0.2.length) ∧ (v7 ≤ a0.2.length) ∧ (v5.length ≤ 64) → toNat ((a0.2.length : Int) - v7) < n → Aw.Good Tryz.prog none 9 (bodyPost Tryz.prog Tryz.f37 (RR cx (.t [(.a [(.s 2 0 (loopF (S37_f41_1 a0 a1) n (v5, v6, v7)).1.1.length 3), (.s 3 0 (loopF (S37_f41_1 a0 a1) n (v5, v6, v7)).1.2.length 3)]), (iv (loopF (S37_f41_1 a0 a1) n (v5, v6, v7)).2)]) [(.live true true (flat c30 (loopF (S37_f41_1 a0 a1) n (v5, v6, v7)).1.1)), (.live true true (flat c94 (loopF (S37_f41_1 a0 a1) n (v5, v6, v7)).1.2))] [])) cx [] (.l B37_f41_1 n :: K37_f41_1) (st37_f41_1 a0 a1 (flat c30 v5) v5.length (flat c94 v6) v6.length v7) := by
 intro n
 induction n with
 | zero => intro v5 v6 v7 hi hn; exact absurd hn (nlz _)
 | succ n ih =>
   intro v5 v6 v7 hi hn
   refine good_round ?_
   have hpf := val_parts hv
   have hcl : (F74_L a0.2).length = a0.2.length := rfl
   cases h0 : (decide ((v7 : Int) < (a0.2.length : Int))) with
   | true =>
    have q0 := odt h0
    let t1 : List (St Tryz.prog) := [.d h0, .i v7 (a0.2.length), .L c94_len a0.2 v7 0 3]
    rcases bool_tf a1 with h1 | h1
    · skip
      have e := Eq.refl (S37_f41_1 a0 a1 (v5, v6, v7)); conv at e => rhs; simp only [S37_f41_1, h0, h1, cdb]
      rw [loopF_inl e]
      refine ba (t1 ++ [.d h1, .i 0 3 (by decide), .i 2 3 (by decide), .i 1 3 (by decide), .i v7 (v6.length), .p (show ((0 + toNat v7 * 3) + 3 ≤ (flat c94 v6).length) from (flat_setl c94_len (by first | omega | (simp only [Lt]; omega)) (o := 0) (Nb rfl)))]) [] [1, 6, 8, 34, 35, 36] [2, 3, 4, 5] hcx (m := n) B37_f41_1 (K37_f41_1) (st37_f41_1 a0 a1 (flat c30 v5) (v5.length) (splice (flat c94 v6) (0 + toNat v7 * 3) [(iv (a0.2.getD (toNat v7) default).1), (iv (a0.2.getD (toNat v7) default).2.2), (iv (a0.2.getD (toNat v7) default).2.1)]) (v6.length) (W (v7 + 1))) (by kernel_rfl) ?_
      have z0 : (W (v7 + 1)) = (v7 + 1) := W_eq (by omega) (by omega)
      have z1 : (splice (flat c94 v6) (0 + toNat v7 * 3) [(iv (a0.2.getD (toNat v7) default).1), (iv (a0.2.getD (toNat v7) default).2.2), (iv (a0.2.getD (toNat v7) default).2.1)]) = flat c94 (v6.set (toNat v7) ((a0.2.getD (toNat v7) default).1, (a0.2.getD (toNat v7) default).2.2, (a0.2.getD (toNat v7) default).2.1)) := (flat_set c94_len (by first | omega | (simp only [Lt]; omega)) (o := 0) (d := default) (Nb rfl) rfl)
      have z2 : v6.length = (v6.set (toNat v7) ((a0.2.getD (toNat v7) default).1, (a0.2.getD (toNat v7) default).2.2, (a0.2.getD (toNat v7) default).2.1)).length := by simp
      rw [z0, z1, z2]
      exact ih v5 (v6.set (toNat v7) ((a0.2.getD (toNat v7) default).1, (a0.2.getD (toNat v7) default).2.2, (a0.2.getD (toNat v7) default).2.1)) (v7 + 1) (by refine ⟨?_, ?_, ?_, ?_⟩ <;> (try simp only [Ls]) <;> first | omega | assumption | simp) (by (try simp only [Ls]); omega)
    · skip
      have e := Eq.refl (S37_f41_1 a0 a1 (v5, v6, v7)); conv at e => rhs; simp only [S37_f41_1, h0, h1, cdb]
      rw [loopF_inl e]
      refine ba (t1 ++ [.d h1]) [] [1, 6, 8, 34, 35, 36] [2, 3, 4, 5] hcx (m := n) B37_f41_1 (K37_f41_1) (st37_f41_1 a0 a1 (flat c30 v5) (v5.length) (flat c94 v6) (v6.length) (W (v7 + 1))) (by kernel_rfl) ?_
      have z0 : (W (v7 + 1)) = (v7 + 1) := W_eq (by omega) (by omega)
      rw [z0]
      exact ih v5 v6 (v7 + 1) (by refine ⟨?_, ?_, ?_, ?_⟩ <;> (try simp only [Ls]) <;> first | omega | assumption | simp) (by (try simp only [Ls]); omega)
   | false =>
    have q0 := odf h0
    let t1 : List (St Tryz.prog) := [.d h0]
    cases h1 : (((F35 ((v5, v6).1, (v5, v6).2)) : Int) != 0) with
    | true =>
     have q1 := bne_iff_ne.1 h1
     have e := Eq.refl (S37_f41_1 a0 a1 (v5, v6, v7)); conv at e => rhs; simp only [S37_f41_1, h0, h1, cdb]
     rw [loopF_s, e]
     exact rt (t1 ++ [.c [4, 5] (C75_bad (v5, v6) (by (try simp only [Lt]); omega) (by (try simp only [Lt]); omega) h1)]) [.cell 2 0 3, .cell 2 1 3] [6, 7] hcx (by kernel_rfl)
    | false =>
     have q1 := bne_eq_false_iff_eq.1 h1
     have e := Eq.refl (S37_f41_1 a0 a1 (v5, v6, v7)); conv at e => rhs; simp only [S37_f41_1, h0, h1, cdb]
     rw [loopF_s, e]
     exact rt (t1 ++ [.c [4, 5] (C75_good (v5, v6) (by (try simp only [Lt]); omega) (by (try simp only [Lt]); omega) h1)]) [] [4, 5] hcx (by kernel_rfl)

theorem L37_f41_0 (a0 : Zm) (a1 : Bool) (l0_1 : a0.1.length ≤ 9223372036854775807) (l0_2 : a0.2.length ≤ 9223372036854775807) (hv : F35 a0 = 0) {cx : Cx} (hcx : cx.base = 2) : ∀ (n : Nat) (v2 : List Zt) (v3 : Int), (0 ≤ v3) ∧ (v2.length = toNat v3) ∧ (v3 ≤ a0.1.length) → toNat ((a0.1.length : Int) - v3) < n → Aw.Good Tryz.prog none 9 (bodyPost Tryz.prog Tryz.f37 (RR cx (.t [(.a [(.s 2 0 (loopF (S37_f41_0 a0 a1) n (v2, v3)).1.1.length 3), (.s 3 0 (loopF (S37_f41_0 a0 a1) n (v2, v3)).1.2.length 3)]), (iv (loopF (S37_f41_0 a0 a1) n (v2, v3)).2)]) [(.live true true (flat c30 (loopF (S37_f41_0 a0 a1) n (v2, v3)).1.1)), (.live true true (flat c94 (loopF (S37_f41_0 a0 a1) n (v2, v3)).1.2))] [])) cx [] (.l B37_f41_0 n :: K37_f41_0) (st37_f41_0 a0 a1 (flat c30 v2) v2.length v3) := by
 intro n
 induction n with
 | zero => intro v2 v3 hi hn; exact absurd hn (nlz _)
 | succ n ih =>
   intro v2 v3 hi hn
   refine good_round ?_
   have hpf := val_parts hv
   have hcl : (F74_L a0.2).length = a0.2.length := rfl
   cases h0 : (decide ((v3 : Int) < (a0.1.length : Int))) with
   | true =>
    have q0 := odt h0
    have e := Eq.refl (S37_f41_0 a0 a1 (v2, v3)); conv at e => rhs; simp only [S37_f41_0, h0, cdb]
    rw [loopF_inl e]
    refine ba [.d h0, .i v3 (a0.1.length), .L c30_len a0.1 v3 0 3, .c [] (C41 (a0.1.getD (toNat v3) default)), .p (show ((flat c30 v2).length = v2.length * 3 ∧ v2.length + 1 ≤ 2 ^ 40 ∧ (v2.length + 1) * 24 ≤ 2 ^ 47) from app_ok c30_len (by omega) (by omega))] [] [1, 2, 3, 6, 8, 18, 19, 20] [2, 3, 4, 9, 6] hcx (m := n) B37_f41_0 (K37_f41_0) (st37_f41_0 a0 a1 (flat c30 v2 ++ (k3 (F41 (a0.1.getD (toNat v3) default)))) (v2.length + 1) (W (v3 + 1))) (by kernel_rfl) ?_
    have z0 : (W (v3 + 1)) = (v3 + 1) := W_eq (by omega) (by omega)
    have z1 : (flat c30 v2 ++ (k3 (F41 (a0.1.getD (toNat v3) default)))) = (flat c30 (v2 ++ [(F41 (a0.1.getD (toNat v3) default))])) := (flat_append (c := c30) (l := v2) (m := [(F41 (a0.1.getD (toNat v3) default))])).symm
    have z2 : (v2.length + 1) = (v2 ++ [(F41 (a0.1.getD (toNat v3) default))]).length := len_app v2 [(F41 (a0.1.getD (toNat v3) default))] rfl
    rw [z0, z1, z2]
    exact ih (v2 ++ [(F41 (a0.1.getD (toNat v3) default))]) (v3 + 1) (by refine ⟨?_, ?_, ?_⟩ <;> (try simp only [Ls]) <;> first | omega | assumption | simp) (by (try simp only [Ls]); omega)
   | false =>
    have q0 := odf h0
    have e := Eq.refl (S37_f41_0 a0 a1 (v2, v3)); conv at e => rhs; simp only [S37_f41_0, h0, cdb]
    rw [loopF_s, e]
    refine en [.d h0] [] [1, 6, 8, 34, 35, 36] [3, 4, 5, 6] hcx B37_f41_1 (K37_f41_1) (st37_f41_1 a0 a1 (flat c30 v2) (v2.length) (flat c94 (F74_L a0.2)) ((F74_L a0.2).length) 0) (toNat ((a0.2.length : Int) - 0) + 1) (by kernel_rfl) ?_
    exact L37_f41_1 a0 a1 l0_1 l0_2 hv hcx (toNat ((a0.2.length : Int) - 0) + 1) v2 (F74_L a0.2) 0 (by refine ⟨?_, ?_, ?_, ?_⟩ <;> (try simp only [Ls]) <;> first | omega | assumption | simp) (by (try simp only [Ls]); omega)

def F37_f41 (a0 : Zm) (a1 : Bool) : (Zm) × Int :=
 (loopF (S37_f41_0 a0 a1) (toNat ((a0.1.length : Int) - 0) + 1) (([] : List Zt), 0))

theorem C37_f41 (a0 : Zm) (a1 : Bool) (l0_1 : a0.1.length ≤ 9223372036854775807) (l0_2 : a0.2.length ≤ 9223372036854775807) (hv : F35 a0 = 0) : Con Tryz.prog 37 [(.a [(.s 0 0 a0.1.length 3), (.s 1 0 a0.2.length 3)]), (.v (.bool a1)), (.v (.func (.func 41) #[] #[]))] [(.live false true (flat c30 a0.1)), (.live false true (flat c94 a0.2))] (.t [(.a [(.s 2 0 (F37_f41 a0 a1).1.1.length 3), (.s 3 0 (F37_f41 a0 a1).1.2.length 3)]), (iv (F37_f41 a0 a1).2)]) [(.live true true (flat c30 (F37_f41 a0 a1).1.1)), (.live true true (flat c94 (F37_f41 a0 a1).1.2))] := by
 refine con_s Tryz.func37 (by kernel_rfl) fun cx hcx => ?_
 have hpf := val_parts hv
 have hcl : (F74_L a0.2).length = a0.2.length := rfl
 have e := Eq.refl (F37_f41 a0 a1); conv at e => rhs; simp only [F37_f41]
 rw [e]
 refine en [.c [1] (C74_L a0.2 (by omega) (by omega) (by omega))] [.cell 5 0 3] [1, 2, 3, 6, 8, 18, 19, 20] [2, 3, 5, 6, 4] hcx B37_f41_0 (K37_f41_0) (st37_f41_0 a0 a1 (flat c30 ([] : List Zt)) 0 0) (toNat ((a0.1.length : Int) - 0) + 1) (by kernel_rfl) ?_
 exact L37_f41_0 a0 a1 l0_1 l0_2 hv hcx (toNat ((a0.1.length : Int) - 0) + 1) ([] : List Zt) 0 (by refine ⟨?_, ?_, ?_⟩ <;> (try simp only [Ls]) <;> first | omega | assumption | simp) (by (try simp only [Ls]); omega)


def chgV (to : P3 → P3) (fs : List P3) (m : ME) : ME × Int := bif (((F35 (m.1.map to, fs)) : Int) != 0) then (([], []), F35 (m.1.map to, fs)) else ((m.1.map to, fs), 0)
def swp (c : P3) : P3 := (c.1, c.2.2, c.2.1)
theorem set_mid {α : Type} (v : List α) (c y : α) (l : List α) {i : Nat} (h : v.length = i) : (v ++ c :: l).set i y = v ++ [y] ++ l := by
 subst h
 rw [List.set_append_right _ _ (Nat.le_refl _), Nat.sub_self, List.set_cons_zero, List.append_assoc]; rfl
theorem chg_move (m : ME) (k : P3) : F37_c38 m false k = chgV (fun p => F38 p k) m.2 m := by
 unfold F37_c38
 have key := each_loop (S := S37_c38_0 m false k) (fun v i => (v, i)) (fun v p => .inl (v ++ [F38 p k])) (fun v => loopF (S37_c38_1 m false k) (toNat ((m.2.length : Int) - 0) + 1) (v, m.2, 0)) (L := m.1) (v := []) (n := toNat ((m.1.length : Int) - 0) + 1) (fun _ _ => True) ?_ (fun _ _ _ _ _ _ _ => trivial) ?_ (by omega) trivial
 · refine Eq.trans key ?_
   rw [foldE_inl, snocs (fun p => F38 p k)]
   simp only [outE, List.nil_append]
   have k2 := each_loop (S := S37_c38_1 m false k) (fun (_ : Unit) i => (m.1.map (fun p => F38 p k), m.2, i)) (fun v _ => .inl v) (fun _ => chgV (fun p => F38 p k) m.2 m) (L := m.2) (v := ()) (n := toNat ((m.2.length : Int) - 0) + 1) (fun _ _ => True) ?_ (fun _ _ _ _ _ _ _ => trivial) ?_ (by omega) trivial
   · refine Eq.trans k2 ?_
     rw [foldE_inl (fun v _ => v)]; rfl
   · intro i c hc v _
     obtain ⟨hlt, _⟩ := List.getElem?_eq_some_iff.1 hc
     simp only [S37_c38_1]
     rw [dqt (by omega), cond_true]; rw [cond_false]; rfl
   · intro v _
     simp only [S37_c38_1]
     rw [dqf (by omega), cond_false]
     unfold chgV
     generalize F35 (m.1.map (fun p => F38 p k), m.2) = e
     cases (e != 0) <;> rfl
 · intro i c hc v _
   obtain ⟨hlt, _⟩ := List.getElem?_eq_some_iff.1 hc
   simp only [S37_c38_0]
   rw [dqt (by omega), cond_true, getD_of hc]; rfl
 · intro v _
   simp only [S37_c38_0]
   rw [dqf (by omega), cond_false]; rfl
theorem chg_turn (m : ME) : F37_f40 m false = chgV F40 m.2 m := by
 unfold F37_f40
 have key := each_loop (S := S37_f40_0 m false) (fun v i => (v, i)) (fun v p => .inl (v ++ [F40 p])) (fun v => loopF (S37_f40_1 m false) (toNat ((m.2.length : Int) - 0) + 1) (v, m.2, 0)) (L := m.1) (v := []) (n := toNat ((m.1.length : Int) - 0) + 1) (fun _ _ => True) ?_ (fun _ _ _ _ _ _ _ => trivial) ?_ (by omega) trivial
 · refine Eq.trans key ?_
   rw [foldE_inl, snocs F40]
   simp only [outE, List.nil_append]
   have k2 := each_loop (S := S37_f40_1 m false) (fun (_ : Unit) i => (m.1.map F40, m.2, i)) (fun v _ => .inl v) (fun _ => chgV F40 m.2 m) (L := m.2) (v := ()) (n := toNat ((m.2.length : Int) - 0) + 1) (fun _ _ => True) ?_ (fun _ _ _ _ _ _ _ => trivial) ?_ (by omega) trivial
   · refine Eq.trans k2 ?_
     rw [foldE_inl (fun v _ => v)]; rfl
   · intro i c hc v _
     obtain ⟨hlt, _⟩ := List.getElem?_eq_some_iff.1 hc
     simp only [S37_f40_1]
     rw [dqt (by omega), cond_true]; rw [cond_false]; rfl
   · intro v _
     simp only [S37_f40_1]
     rw [dqf (by omega), cond_false]
     unfold chgV
     generalize F35 (m.1.map F40, m.2) = e
     cases (e != 0) <;> rfl
 · intro i c hc v _
   obtain ⟨hlt, _⟩ := List.getElem?_eq_some_iff.1 hc
   simp only [S37_f40_0]
   rw [dqt (by omega), cond_true, getD_of hc]; rfl
 · intro v _
   simp only [S37_f40_0]
   rw [dqf (by omega), cond_false]; rfl
theorem chg_mirror (m : ME) : F37_f41 m true = chgV F41 (m.2.map swp) m := by
 unfold F37_f41
 have key := each_loop (S := S37_f41_0 m true) (fun v i => (v, i)) (fun v p => .inl (v ++ [F41 p])) (fun v => loopF (S37_f41_1 m true) (toNat ((m.2.length : Int) - 0) + 1) (v, m.2, 0)) (L := m.1) (v := []) (n := toNat ((m.1.length : Int) - 0) + 1) (fun _ _ => True) ?_ (fun _ _ _ _ _ _ _ => trivial) ?_ (by omega) trivial
 · refine Eq.trans key ?_
   rw [foldE_inl, snocs F41]
   simp only [outE, List.nil_append]
   have k2 := each_loop (S := S37_f41_1 m true) (fun v i => (m.1.map F41, v ++ m.2.drop (toNat i), i)) (fun v c => .inl (v ++ [swp c])) (fun v => chgV F41 v m) (L := m.2) (v := []) (n := toNat ((m.2.length : Int) - 0) + 1) (fun i v => v.length = i) ?_ ?_ ?_ (by omega) rfl
   · refine Eq.trans k2 ?_
     rw [foldE_inl, snocs swp]; rfl
   · intro i c hc v hv
     obtain ⟨hlt, hce⟩ := List.getElem?_eq_some_iff.1 hc
     simp only [S37_f41_1]
     rw [dqt (by omega), cond_true, cond_true, getD_of hc, itn, List.drop_eq_getElem_cons hlt, hce, set_mid v c _ _ hv]
     rfl
   · intro i c hc v v' hv e
     cases e
     rw [List.length_append, hv]; rfl
   · intro v hv
     simp only [S37_f41_1]
     rw [dqf (by omega), cond_false, itn, List.drop_length, List.append_nil]
     unfold chgV
     generalize F35 (m.1.map F41, v) = e
     cases (e != 0) <;> rfl
 · intro i c hc v _
   obtain ⟨hlt, _⟩ := List.getElem?_eq_some_iff.1 hc
   simp only [S37_f41_0]
   rw [dqt (by omega), cond_true, getD_of hc]; rfl
 · intro v _
   simp only [S37_f41_0]
   rw [dqf (by omega), cond_false]; rfl
theorem chgV_len (to : P3 → P3) (fs : List P3) (m : ME) : (chgV to fs m).1.1.length ≤ m.1.length ∧ (chgV to fs m).1.2.length ≤ fs.length := by
 unfold chgV
 cases (((F35 (m.1.map to, fs)) : Int) != 0) with
 | true => exact ⟨Nat.zero_le _, Nat.zero_le _⟩
 | false => rw [cond_false]; simp only [List.length_map]; exact ⟨Nat.le_refl _, Nat.le_refl _⟩
theorem chgV_ok {to : P3 → P3} {fs : List P3} {m : ME} (h : (chgV to fs m).2 = 0) : (chgV to fs m).1 = (m.1.map to, fs) ∧ F35 (m.1.map to, fs) = 0 := by
 unfold chgV at h ⊢
 cases hv : (((F35 (m.1.map to, fs)) : Int) != 0) with
 | true => rw [hv, cond_true] at h; simp only at h; rw [h] at hv; cases hv
 | false => exact ⟨rfl, bne_eq_false_iff_eq.1 hv⟩


def F12 (a0 : Zm) (a1 : Zt) : (Zm) × Int :=
 (bif (((F35 (a0.1, a0.2)) : Int) != 0) then
  ((([] : List Zt), ([] : List Zt)), (F35 (a0.1, a0.2)))
 else
  (bif (!(F36 a1 128)) then
   ((([] : List Zt), ([] : List Zt)), 1)
  else
   (((F37_c38 (a0.1, a0.2) false a1).1.1, (F37_c38 (a0.1, a0.2) false a1).1.2), (F37_c38 (a0.1, a0.2) false a1).2)))

theorem C12 (a0 : Zm) (a1 : Zt) (l0_1 : a0.1.length ≤ 9223372036854775807) (l0_2 : a0.2.length ≤ 9223372036854775807) : Con Tryz.prog 12 [(.a [(.s 0 0 a0.1.length 3), (.s 1 0 a0.2.length 3)]), (.a (k3 a1))] [(.live false true (flat c30 a0.1)), (.live false true (flat c94 a0.2))] (.t [(.a [(.s 2 0 (F12 a0 a1).1.1.length 3), (.s 3 0 (F12 a0 a1).1.2.length 3)]), (iv (F12 a0 a1).2)]) [(.live true true (flat c30 (F12 a0 a1).1.1)), (.live true true (flat c94 (F12 a0 a1).1.2))] := by
 refine con_s Tryz.func12 (by kernel_rfl) fun cx hcx => ?_
 let t0 : List (St Tryz.prog) := [.c [0, 1] (C35 (a0.1, a0.2) (by (try simp only [Lt]); omega) (by (try simp only [Lt]); omega))]
 cases h0 : (((F35 (a0.1, a0.2)) : Int) != 0) with
 | true =>
  have q0 := bne_iff_ne.1 h0
  have e := Eq.refl (F12 a0 a1); conv at e => rhs; simp only [F12, h0, cdb]
  rw [e]
  exact rt (t0 ++ [.d h0]) [.cell 4 0 3, .cell 4 1 3] [5, 6] hcx (by kernel_rfl)
 | false =>
  have q0 := bne_eq_false_iff_eq.1 h0
  let t1 : List (St Tryz.prog) := (t0 ++ [.d h0, .c [] (C36 a1 128)])
  cases h1 : (!(F36 a1 128)) with
  | true =>
   have e := Eq.refl (F12 a0 a1); conv at e => rhs; simp only [F12, h0, h1, cdb]
   rw [e]
   exact rt (t1 ++ [.d h1]) [.cell 4 0 3, .cell 4 1 3] [5, 6] hcx (by kernel_rfl)
  | false =>
   have e := Eq.refl (F12 a0 a1); conv at e => rhs; simp only [F12, h0, h1, cdb]
   rw [e]
   exact rt (t1 ++ [.d h1, .c [0, 1, 3] (C37_c38 (a0.1, a0.2) false a1 (by (try simp only [Lt]); omega) (by (try simp only [Lt]); omega) (bne_eq_false_iff_eq.1 h0))]) [] [5, 6] hcx (by kernel_rfl)

def F13 (a0 : Zm) : (Zm) × Int :=
 (bif (((F35 (a0.1, a0.2)) : Int) != 0) then
  ((([] : List Zt), ([] : List Zt)), (F35 (a0.1, a0.2)))
 else
  (((F37_f40 (a0.1, a0.2) false).1.1, (F37_f40 (a0.1, a0.2) false).1.2), (F37_f40 (a0.1, a0.2) false).2))

theorem C13 (a0 : Zm) (l0_1 : a0.1.length ≤ 9223372036854775807) (l0_2 : a0.2.length ≤ 9223372036854775807) : Con Tryz.prog 13 [(.a [(.s 0 0 a0.1.length 3), (.s 1 0 a0.2.length 3)])] [(.live false true (flat c30 a0.1)), (.live false true (flat c94 a0.2))] (.t [(.a [(.s 2 0 (F13 a0).1.1.length 3), (.s 3 0 (F13 a0).1.2.length 3)]), (iv (F13 a0).2)]) [(.live true true (flat c30 (F13 a0).1.1)), (.live true true (flat c94 (F13 a0).1.2))] := by
 refine con_s Tryz.func13 (by kernel_rfl) fun cx hcx => ?_
 let t0 : List (St Tryz.prog) := [.c [0, 1] (C35 (a0.1, a0.2) (by (try simp only [Lt]); omega) (by (try simp only [Lt]); omega))]
 cases h0 : (((F35 (a0.1, a0.2)) : Int) != 0) with
 | true =>
  have q0 := bne_iff_ne.1 h0
  have e := Eq.refl (F13 a0); conv at e => rhs; simp only [F13, h0, cdb]
  rw [e]
  exact rt (t0 ++ [.d h0]) [.cell 3 0 3, .cell 3 1 3] [4, 5] hcx (by kernel_rfl)
 | false =>
  have q0 := bne_eq_false_iff_eq.1 h0
  have e := Eq.refl (F13 a0); conv at e => rhs; simp only [F13, h0, cdb]
  rw [e]
  exact rt (t0 ++ [.d h0, .c [0, 1] (C37_f40 (a0.1, a0.2) false (by (try simp only [Lt]); omega) (by (try simp only [Lt]); omega) (bne_eq_false_iff_eq.1 h0))]) [] [4, 5] hcx (by kernel_rfl)

def F14 (a0 : Zm) : (Zm) × Int :=
 (bif (((F35 (a0.1, a0.2)) : Int) != 0) then
  ((([] : List Zt), ([] : List Zt)), (F35 (a0.1, a0.2)))
 else
  (((F37_f41 (a0.1, a0.2) true).1.1, (F37_f41 (a0.1, a0.2) true).1.2), (F37_f41 (a0.1, a0.2) true).2))

theorem C14 (a0 : Zm) (l0_1 : a0.1.length ≤ 9223372036854775807) (l0_2 : a0.2.length ≤ 9223372036854775807) : Con Tryz.prog 14 [(.a [(.s 0 0 a0.1.length 3), (.s 1 0 a0.2.length 3)])] [(.live false true (flat c30 a0.1)), (.live false true (flat c94 a0.2))] (.t [(.a [(.s 2 0 (F14 a0).1.1.length 3), (.s 3 0 (F14 a0).1.2.length 3)]), (iv (F14 a0).2)]) [(.live true true (flat c30 (F14 a0).1.1)), (.live true true (flat c94 (F14 a0).1.2))] := by
 refine con_s Tryz.func14 (by kernel_rfl) fun cx hcx => ?_
 let t0 : List (St Tryz.prog) := [.c [0, 1] (C35 (a0.1, a0.2) (by (try simp only [Lt]); omega) (by (try simp only [Lt]); omega))]
 cases h0 : (((F35 (a0.1, a0.2)) : Int) != 0) with
 | true =>
  have q0 := bne_iff_ne.1 h0
  have e := Eq.refl (F14 a0); conv at e => rhs; simp only [F14, h0, cdb]
  rw [e]
  exact rt (t0 ++ [.d h0]) [.cell 3 0 3, .cell 3 1 3] [4, 5] hcx (by kernel_rfl)
 | false =>
  have q0 := bne_eq_false_iff_eq.1 h0
  have e := Eq.refl (F14 a0); conv at e => rhs; simp only [F14, h0, cdb]
  rw [e]
  exact rt (t0 ++ [.d h0, .c [0, 1] (C37_f41 (a0.1, a0.2) true (by (try simp only [Lt]); omega) (by (try simp only [Lt]); omega) (bne_eq_false_iff_eq.1 h0))]) [] [4, 5] hcx (by kernel_rfl)

def F10 : Bool :=
 (bif (((F28 (F29.1, F29.2) (0, 0, 0)).2 : Int) == 0) then
  (bif (((F28 (F29.1, F29.2) (0, 0, 0)).1 : Int) == 1048576) then
   (bif (((F30 (F29.1, F29.2) 1).2 : Int) == 0) then
    (bif (((F30 (F29.1, F29.2) 1).1 : Int) == 1280) then
     (bif (((F31 (F29.1, F29.2) 0).2 : Int) == 0) then
      (bif (decide (((F31 (F29.1, F29.2) 0).1.1 : Int) > 0)) then
       (decide (((F31 (F29.1, F29.2) 0).1.2 : Int) ≤ 1048576))
      else
       false)
     else
      false)
    else
     false)
   else
    false)
  else
   false)
 else
  false)

theorem C10 : Con Tryz.prog 10 [] [] (.v (.bool F10)) [] := by
 refine con_s Tryz.func10 (by kernel_rfl) fun cx hcx => ?_
 have ho1 : F29.1.length = 6 := by kernel_rfl
 have ho2 : F29.2.length = 8 := by kernel_rfl
 let t0 : List (St Tryz.prog) := [.c [] (C29), .c [0, 1] (C28 (F29.1, F29.2) (0, 0, 0) (by (try simp only [Lt]); omega) (by (try simp only [Lt]); omega)), .c [] (C29), .c [2, 3] (C30 (F29.1, F29.2) 1 (by (try simp only [Lt]); omega) (by (try simp only [Lt]); omega)), .c [] (C29), .c [4, 5] (C31 (F29.1, F29.2) 0 (by (try simp only [Lt]); omega) (by (try simp only [Lt]); omega))]
 cases h0 : (((F28 (F29.1, F29.2) (0, 0, 0)).2 : Int) == 0) with
 | true =>
  have q0 := eq_of_beq h0
  let t1 : List (St Tryz.prog) := (t0 ++ [.d h0])
  cases h1 : (((F28 (F29.1, F29.2) (0, 0, 0)).1 : Int) == 1048576) with
  | true =>
   have q1 := eq_of_beq h1
   let t2 : List (St Tryz.prog) := (t1 ++ [.d h1])
   cases h2 : (((F30 (F29.1, F29.2) 1).2 : Int) == 0) with
   | true =>
    have q2 := eq_of_beq h2
    let t3 : List (St Tryz.prog) := (t2 ++ [.d h2])
    cases h3 : (((F30 (F29.1, F29.2) 1).1 : Int) == 1280) with
    | true =>
     have q3 := eq_of_beq h3
     let t4 : List (St Tryz.prog) := (t3 ++ [.d h3])
     cases h4 : (((F31 (F29.1, F29.2) 0).2 : Int) == 0) with
     | true =>
      have q4 := eq_of_beq h4
      let t5 : List (St Tryz.prog) := (t4 ++ [.d h4])
      cases h5 : (decide (((F31 (F29.1, F29.2) 0).1.1 : Int) > 0)) with
      | true =>
       have q5 := odt h5
       have e := Eq.refl F10; conv at e => rhs; simp only [F10, h0, h1, h2, h3, h4, h5, cdb]
       rw [e]
       exact rt (t5 ++ [.d h5]) [] [] hcx (by kernel_rfl)
      | false =>
       have q5 := odf h5
       have e := Eq.refl F10; conv at e => rhs; simp only [F10, h0, h1, h2, h3, h4, h5, cdb]
       rw [e]
       exact rt (t5 ++ [.d h5]) [] [] hcx (by kernel_rfl)
     | false =>
      have q4 := ne_of_beq_false h4
      have e := Eq.refl F10; conv at e => rhs; simp only [F10, h0, h1, h2, h3, h4, cdb]
      rw [e]
      exact rt (t4 ++ [.d h4]) [] [] hcx (by kernel_rfl)
    | false =>
     have q3 := ne_of_beq_false h3
     have e := Eq.refl F10; conv at e => rhs; simp only [F10, h0, h1, h2, h3, cdb]
     rw [e]
     exact rt (t3 ++ [.d h3]) [] [] hcx (by kernel_rfl)
   | false =>
    have q2 := ne_of_beq_false h2
    have e := Eq.refl F10; conv at e => rhs; simp only [F10, h0, h1, h2, cdb]
    rw [e]
    exact rt (t2 ++ [.d h2]) [] [] hcx (by kernel_rfl)
  | false =>
   have q1 := ne_of_beq_false h1
   have e := Eq.refl F10; conv at e => rhs; simp only [F10, h0, h1, cdb]
   rw [e]
   exact rt (t1 ++ [.d h1]) [] [] hcx (by kernel_rfl)
 | false =>
  have q0 := ne_of_beq_false h0
  have e := Eq.refl F10; conv at e => rhs; simp only [F10, h0, cdb]
  rw [e]
  exact rt (t0 ++ [.d h0]) [] [] hcx (by kernel_rfl)

def F15 (a0 : Int × Int) (a1 : Int × Int) : Bool :=
 (bif (((F42 a0 a1).2.2 : Int) == 0) then
  (F42 a0 a1).2.1
 else
  false)

theorem C15 (a0 : Int × Int) (a1 : Int × Int) : Con Tryz.prog 15 [(.a [(iv a0.1), (iv a0.2)]), (.a [(iv a1.1), (iv a1.2)])] [] (.v (.bool (F15 a0 a1))) [] := by
 refine con_s Tryz.func15 (by kernel_rfl) fun cx hcx => ?_
 let t0 : List (St Tryz.prog) := [.c [] (C42 a0 a1)]
 cases h0 : (((F42 a0 a1).2.2 : Int) == 0) with
 | true =>
  have q0 := eq_of_beq h0
  have e := Eq.refl (F15 a0 a1); conv at e => rhs; simp only [F15, h0, cdb]
  rw [e]
  exact rt (t0 ++ [.d h0]) [] [] hcx (by kernel_rfl)
 | false =>
  have q0 := ne_of_beq_false h0
  have e := Eq.refl (F15 a0 a1); conv at e => rhs; simp only [F15, h0, cdb]
  rw [e]
  exact rt (t0 ++ [.d h0]) [] [] hcx (by kernel_rfl)

theorem sane_h : F10 = true := by kernel_rfl

theorem meet_m {a c : Int × Int} (ha : vs a) (hc : vs c) (h1 : a.1 ≤ c.2) (h2 : c.1 ≤ a.2) : F15 a c = true := by
 have hm : (F42 a c).2.1 = true ∧ (F42 a c).2.2 = 0 := by
   unfold F42 F45_2
   have e1 : F76 (a, c).1 = true := val_f (a := a.1) (b := a.2) ha.1 ha.2.1 ha.2.2
   have e2 : F76 (a, c).2 = true := val_f (a := c.1) (b := c.2) hc.1 hc.2.1 hc.2.2
   have h3 := ha.2.1; have h4 := hc.2.1
   rw [e1, e2, dqf (by (repeat' split) <;> omega)]
   exact ⟨rfl, rfl⟩
 unfold F15
 rw [hm.1, hm.2]; rfl
theorem bnd_vs {m : ME} {q : List Int} {d : Int} (h : (F11_L m q d).2 = 0) : vs (F11_L m q d).1 := by
 have := bnd_val h
 unfold vs; omega

theorem mov_len (m : ME) (k : P3) : (F12 m k).1.1.length ≤ m.1.length ∧ (F12 m k).1.2.length ≤ m.2.length := by
 unfold F12
 rw [chg_move]
 have h := chgV_len (fun p => F38 p k) m.2 m
 cases (((F35 (m.1, m.2)) : Int) != 0) with
 | true => exact ⟨Nat.zero_le _, Nat.zero_le _⟩
 | false =>
   rw [cond_false]
   cases (!F36 k 128) with
   | true => exact ⟨Nat.zero_le _, Nat.zero_le _⟩
   | false => exact h
theorem trn_len (m : ME) : (F13 m).1.1.length ≤ m.1.length ∧ (F13 m).1.2.length ≤ m.2.length := by
 unfold F13
 rw [chg_turn]
 have h := chgV_len F40 m.2 m
 cases (((F35 (m.1, m.2)) : Int) != 0) with
 | true => exact ⟨Nat.zero_le _, Nat.zero_le _⟩
 | false =>
   rw [cond_false]
   exact h
theorem mir_len (m : ME) : (F14 m).1.1.length ≤ m.1.length ∧ (F14 m).1.2.length ≤ m.2.length := by
 unfold F14
 rw [chg_mirror]
 have h := chgV_len F41 (m.2.map swp) m
 cases (((F35 (m.1, m.2)) : Int) != 0) with
 | true => exact ⟨Nat.zero_le _, Nat.zero_le _⟩
 | false =>
   rw [cond_false]
   rw [List.length_map] at h
   exact h


noncomputable def B3_j2 : Code := (codeAtD [1, 0, 1, 0, 0] [] (bodyOf Tryz.f3)).1
noncomputable def K3_j2 : List K := (codeAtD [1, 0, 1, 0, 0] [] (bodyOf Tryz.f3)).2

def st3_j2 (a0 : Zm) (a1 : List (Int) × Int) (a2 : Zt) : LS := ⟨slN 124 [], [(.live false true (flat c30 a0.1)), (.live false true (flat c94 a0.2)), (.live false true (flat c3 a1.1))]⟩

def S3_j2 (a0 : Zm) (a1 : List (Int) × Int) (a2 : Zt) : Unit → Bool
 | () =>
  F10

noncomputable def B3_j10 : Code := (codeAtD [1, 1, 1, 1, 1, 1, 1, 0, 1, 0, 0] [] (bodyOf Tryz.f3)).1
noncomputable def K3_j10 : List K := (codeAtD [1, 1, 1, 1, 1, 1, 1, 0, 1, 0, 0] [] (bodyOf Tryz.f3)).2

def st3_j10 (a0 : Zm) (a1 : List (Int) × Int) (a2 : Zt) : LS := ⟨slN 124 [], [(.live false true (flat c30 a0.1)), (.live false true (flat c94 a0.2)), (.live false true (flat c3 a1.1))]⟩

def S3_j10 (a0 : Zm) (a1 : List (Int) × Int) (a2 : Zt) : Unit → Bool
 | () =>
  false

noncomputable def B3_j14 : Code := (codeAtD [1, 1, 1, 1, 1, 1, 1, 1, 1, 1, 0, 1, 0, 0] [] (bodyOf Tryz.f3)).1
noncomputable def K3_j14 : List K := (codeAtD [1, 1, 1, 1, 1, 1, 1, 1, 1, 1, 0, 1, 0, 0] [] (bodyOf Tryz.f3)).2

def st3_j14 (a0 : Zm) (a1 : List (Int) × Int) (a2 : Zt) : LS := ⟨slN 124 [], [(.live false true (flat c30 a0.1)), (.live false true (flat c94 a0.2)), (.live false true (flat c3 a1.1))]⟩

def S3_j14 (a0 : Zm) (a1 : List (Int) × Int) (a2 : Zt) : Unit → Bool
 | () =>
  false

theorem L3_j2 (a0 : Zm) (a1 : List (Int) × Int) (a2 : Zt) (l0_1 : a0.1.length ≤ 9223372036854775807) (l0_2 : a0.2.length ≤ 9223372036854775807) (l1_1 : a1.1.length ≤ 9223372036854775807) {cx : Cx} (hcx : cx.base = 3) : True → Aw.Good Tryz.prog none 9 (bodyPost Tryz.prog Tryz.f3 (RR cx (.v (.bool (S3_j2 a0 a1 a2 ()))) [] [])) cx [] (.c B3_j2 :: K3_j2) (st3_j2 a0 a1 a2) := by
 intro hi
 have e := Eq.refl (S3_j2 a0 a1 a2 ()); conv at e => rhs; simp only [S3_j2]
 rw [e]
 exact rt [.c [] (C10)] [] [] hcx (by kernel_rfl)

theorem L3_j10 (a0 : Zm) (a1 : List (Int) × Int) (a2 : Zt) (l0_1 : a0.1.length ≤ 9223372036854775807) (l0_2 : a0.2.length ≤ 9223372036854775807) (l1_1 : a1.1.length ≤ 9223372036854775807) {cx : Cx} (hcx : cx.base = 3) : True → Aw.Good Tryz.prog none 9 (bodyPost Tryz.prog Tryz.f3 (RR cx (.v (.bool (S3_j10 a0 a1 a2 ()))) [] [])) cx [] (.c B3_j10 :: K3_j10) (st3_j10 a0 a1 a2) := by
 intro hi
 have e := Eq.refl (S3_j10 a0 a1 a2 ()); conv at e => rhs; simp only [S3_j10]
 rw [e]
 exact rt [] [] [] hcx (by kernel_rfl)

theorem L3_j14 (a0 : Zm) (a1 : List (Int) × Int) (a2 : Zt) (l0_1 : a0.1.length ≤ 9223372036854775807) (l0_2 : a0.2.length ≤ 9223372036854775807) (l1_1 : a1.1.length ≤ 9223372036854775807) {cx : Cx} (hcx : cx.base = 3) : True → Aw.Good Tryz.prog none 9 (bodyPost Tryz.prog Tryz.f3 (RR cx (.v (.bool (S3_j14 a0 a1 a2 ()))) [] [])) cx [] (.c B3_j14 :: K3_j14) (st3_j14 a0 a1 a2) := by
 intro hi
 have e := Eq.refl (S3_j14 a0 a1 a2 ()); conv at e => rhs; simp only [S3_j14]
 rw [e]
 exact rt [] [] [] hcx (by kernel_rfl)

def F3 (a0 : Zm) (a1 : List (Int) × Int) (a2 : Zt) : Bool :=
 (bif (F9 (a0.1, a0.2) a1.2) then
  (S3_j2 a0 a1 a2 ())
 else
  (bif (decide (((a1.1.length : Int) : Int) > 300)) then
   (S3_j2 a0 a1 a2 ())
  else
   (bif (((F11_L (a0.1, a0.2) a1.1 a1.2).2 : Int) != 0) then
    F10
   else
    (bif (((F13 (a0.1, a0.2)).2 : Int) != 0) then
     (S3_j10 a0 a1 a2 ())
    else
     (bif (((F14 (a0.1, a0.2)).2 : Int) != 0) then
      (S3_j10 a0 a1 a2 ())
     else
      (bif (((F11_L ((F13 (a0.1, a0.2)).1.1, (F13 (a0.1, a0.2)).1.2) a1.1 a1.2).2 : Int) != 0) then
       (S3_j14 a0 a1 a2 ())
      else
       (bif (((F11_L ((F14 (a0.1, a0.2)).1.1, (F14 (a0.1, a0.2)).1.2) a1.1 a1.2).2 : Int) != 0) then
        (S3_j14 a0 a1 a2 ())
       else
        (bif (!(F15 (F11_L (a0.1, a0.2) a1.1 a1.2).1 (F11_L ((F13 (a0.1, a0.2)).1.1, (F13 (a0.1, a0.2)).1.2) a1.1 a1.2).1)) then
         (S3_j14 a0 a1 a2 ())
        else
         (bif (!(F15 (F11_L (a0.1, a0.2) a1.1 a1.2).1 (F11_L ((F14 (a0.1, a0.2)).1.1, (F14 (a0.1, a0.2)).1.2) a1.1 a1.2).1)) then
          (S3_j14 a0 a1 a2 ())
         else
          (bif (((F12 (a0.1, a0.2) a2).2 : Int) != 0) then
           F10
          else
           (bif (((F11_L ((F12 (a0.1, a0.2) a2).1.1, (F12 (a0.1, a0.2) a2).1.2) a1.1 a1.2).2 : Int) == 0) then
            (bif (F15 (F11_L (a0.1, a0.2) a1.1 a1.2).1 (F11_L ((F12 (a0.1, a0.2) a2).1.1, (F12 (a0.1, a0.2) a2).1.2) a1.1 a1.2).1) then
             F10
            else
             false)
           else
            false)))))))))))

theorem C3 (a0 : Zm) (a1 : List (Int) × Int) (a2 : Zt) (l0_1 : a0.1.length ≤ 9223372036854775807) (l0_2 : a0.2.length ≤ 9223372036854775807) (l1_1 : a1.1.length ≤ 9223372036854775807) : Con Tryz.prog 3 [(.a [(.s 0 0 a0.1.length 3), (.s 1 0 a0.2.length 3)]), (.a [(.s 2 0 a1.1.length 1), (iv a1.2)]), (.a (k3 a2))] [(.live false true (flat c30 a0.1)), (.live false true (flat c94 a0.2)), (.live false true (flat c3 a1.1))] (.v (.bool (F3 a0 a1 a2))) [] := by
 refine con_s Tryz.func3 (by kernel_rfl) fun cx hcx => ?_
 have hx1 := mov_len (a0.1, a0.2) a2
 have hx2 := trn_len (a0.1, a0.2)
 have hx3 := mir_len (a0.1, a0.2)
 dsimp only at hx1 hx2 hx3
 let t0 : List (St Tryz.prog) := [.c [0, 1] (C9 (a0.1, a0.2) a1.2 (by (try simp only [Lt]); omega) (by (try simp only [Lt]); omega))]
 cases h0 : (F9 (a0.1, a0.2) a1.2) with
 | true =>
  have e := Eq.refl (F3 a0 a1 a2); conv at e => rhs; simp only [F3, h0, cdb]
  rw [e]
  refine ga (t0 ++ [.d h0, .z 2]) [] [] [] hcx B3_j2 (K3_j2) (st3_j2 a0 a1 a2) (by kernel_rfl) ?_
  exact L3_j2 a0 a1 a2 l0_1 l0_2 l1_1 hcx trivial
 | false =>
  let t1 : List (St Tryz.prog) := (t0 ++ [.d h0])
  cases h1 : (decide (((a1.1.length : Int) : Int) > 300)) with
  | true =>
   have q1 := odt h1
   have e := Eq.refl (F3 a0 a1 a2); conv at e => rhs; simp only [F3, h0, h1, cdb]
   rw [e]
   refine ga (t1 ++ [.d h1, .z 2]) [] [] [] hcx B3_j2 (K3_j2) (st3_j2 a0 a1 a2) (by kernel_rfl) ?_
   exact L3_j2 a0 a1 a2 l0_1 l0_2 l1_1 hcx trivial
  | false =>
   have q1 := odf h1
   let t2 : List (St Tryz.prog) := (t1 ++ [.d h1, .c [0, 1, 2] (C11_L (a0.1, a0.2) a1.1 a1.2 (by (try simp only [Lt]); omega) (by (try simp only [Lt]); omega) (by omega))])
   cases h2 : (((F11_L (a0.1, a0.2) a1.1 a1.2).2 : Int) != 0) with
   | true =>
    have q2 := bne_iff_ne.1 h2
    have e := Eq.refl (F3 a0 a1 a2); conv at e => rhs; simp only [F3, h0, h1, h2, cdb]
    rw [e]
    exact rt (t2 ++ [.d h2, .c [] (C10)]) [] [] hcx (by kernel_rfl)
   | false =>
    have q2 := bne_eq_false_iff_eq.1 h2
    let t3 : List (St Tryz.prog) := (t2 ++ [.d h2, .c [0, 1] (C12 (a0.1, a0.2) a2 (by (try simp only [Lt]); omega) (by (try simp only [Lt]); omega)), .c [0, 1] (C13 (a0.1, a0.2) (by (try simp only [Lt]); omega) (by (try simp only [Lt]); omega)), .c [0, 1] (C14 (a0.1, a0.2) (by (try simp only [Lt]); omega) (by (try simp only [Lt]); omega))])
    cases h3 : (((F13 (a0.1, a0.2)).2 : Int) != 0) with
    | true =>
     have q3 := bne_iff_ne.1 h3
     have e := Eq.refl (F3 a0 a1 a2); conv at e => rhs; simp only [F3, h0, h1, h2, h3, cdb]
     rw [e]
     refine ga (t3 ++ [.d h3, .z 10]) [] [] [] hcx B3_j10 (K3_j10) (st3_j10 a0 a1 a2) (by kernel_rfl) ?_
     exact L3_j10 a0 a1 a2 l0_1 l0_2 l1_1 hcx trivial
    | false =>
     have q3 := bne_eq_false_iff_eq.1 h3
     let t4 : List (St Tryz.prog) := (t3 ++ [.d h3])
     cases h4 : (((F14 (a0.1, a0.2)).2 : Int) != 0) with
     | true =>
      have q4 := bne_iff_ne.1 h4
      have e := Eq.refl (F3 a0 a1 a2); conv at e => rhs; simp only [F3, h0, h1, h2, h3, h4, cdb]
      rw [e]
      refine ga (t4 ++ [.d h4, .z 10]) [] [] [] hcx B3_j10 (K3_j10) (st3_j10 a0 a1 a2) (by kernel_rfl) ?_
      exact L3_j10 a0 a1 a2 l0_1 l0_2 l1_1 hcx trivial
     | false =>
      have q4 := bne_eq_false_iff_eq.1 h4
      let t5 : List (St Tryz.prog) := (t4 ++ [.d h4, .c [10, 11, 2] (C11_L ((F13 (a0.1, a0.2)).1.1, (F13 (a0.1, a0.2)).1.2) a1.1 a1.2 (by (try simp only [Lt]); omega) (by (try simp only [Lt]); omega) (by (try simp only [Lt]); omega)), .c [13, 14, 2] (C11_L ((F14 (a0.1, a0.2)).1.1, (F14 (a0.1, a0.2)).1.2) a1.1 a1.2 (by (try simp only [Lt]); omega) (by (try simp only [Lt]); omega) (by (try simp only [Lt]); omega))])
      cases h5 : (((F11_L ((F13 (a0.1, a0.2)).1.1, (F13 (a0.1, a0.2)).1.2) a1.1 a1.2).2 : Int) != 0) with
      | true =>
       have q5 := bne_iff_ne.1 h5
       have e := Eq.refl (F3 a0 a1 a2); conv at e => rhs; simp only [F3, h0, h1, h2, h3, h4, h5, cdb]
       rw [e]
       refine ga (t5 ++ [.d h5, .z 14]) [] [] [] hcx B3_j14 (K3_j14) (st3_j14 a0 a1 a2) (by kernel_rfl) ?_
       exact L3_j14 a0 a1 a2 l0_1 l0_2 l1_1 hcx trivial
      | false =>
       have q5 := bne_eq_false_iff_eq.1 h5
       let t6 : List (St Tryz.prog) := (t5 ++ [.d h5])
       cases h6 : (((F11_L ((F14 (a0.1, a0.2)).1.1, (F14 (a0.1, a0.2)).1.2) a1.1 a1.2).2 : Int) != 0) with
       | true =>
        have q6 := bne_iff_ne.1 h6
        have e := Eq.refl (F3 a0 a1 a2); conv at e => rhs; simp only [F3, h0, h1, h2, h3, h4, h5, h6, cdb]
        rw [e]
        refine ga (t6 ++ [.d h6, .z 14]) [] [] [] hcx B3_j14 (K3_j14) (st3_j14 a0 a1 a2) (by kernel_rfl) ?_
        exact L3_j14 a0 a1 a2 l0_1 l0_2 l1_1 hcx trivial
       | false =>
        have q6 := bne_eq_false_iff_eq.1 h6
        let t7 : List (St Tryz.prog) := (t6 ++ [.d h6, .c [] (C15 (F11_L (a0.1, a0.2) a1.1 a1.2).1 (F11_L ((F13 (a0.1, a0.2)).1.1, (F13 (a0.1, a0.2)).1.2) a1.1 a1.2).1)])
        cases h7 : (!(F15 (F11_L (a0.1, a0.2) a1.1 a1.2).1 (F11_L ((F13 (a0.1, a0.2)).1.1, (F13 (a0.1, a0.2)).1.2) a1.1 a1.2).1)) with
        | true =>
         have e := Eq.refl (F3 a0 a1 a2); conv at e => rhs; simp only [F3, h0, h1, h2, h3, h4, h5, h6, h7, cdb]
         rw [e]
         refine ga (t7 ++ [.d h7, .z 14]) [] [] [] hcx B3_j14 (K3_j14) (st3_j14 a0 a1 a2) (by kernel_rfl) ?_
         exact L3_j14 a0 a1 a2 l0_1 l0_2 l1_1 hcx trivial
        | false =>
         let t8 : List (St Tryz.prog) := (t7 ++ [.d h7, .c [] (C15 (F11_L (a0.1, a0.2) a1.1 a1.2).1 (F11_L ((F14 (a0.1, a0.2)).1.1, (F14 (a0.1, a0.2)).1.2) a1.1 a1.2).1)])
         cases h8 : (!(F15 (F11_L (a0.1, a0.2) a1.1 a1.2).1 (F11_L ((F14 (a0.1, a0.2)).1.1, (F14 (a0.1, a0.2)).1.2) a1.1 a1.2).1)) with
         | true =>
          have e := Eq.refl (F3 a0 a1 a2); conv at e => rhs; simp only [F3, h0, h1, h2, h3, h4, h5, h6, h7, h8, cdb]
          rw [e]
          refine ga (t8 ++ [.d h8, .z 14]) [] [] [] hcx B3_j14 (K3_j14) (st3_j14 a0 a1 a2) (by kernel_rfl) ?_
          exact L3_j14 a0 a1 a2 l0_1 l0_2 l1_1 hcx trivial
         | false =>
          let t9 : List (St Tryz.prog) := (t8 ++ [.d h8])
          cases h9 : (((F12 (a0.1, a0.2) a2).2 : Int) != 0) with
          | true =>
           have q9 := bne_iff_ne.1 h9
           have e := Eq.refl (F3 a0 a1 a2); conv at e => rhs; simp only [F3, h0, h1, h2, h3, h4, h5, h6, h7, h8, h9, cdb]
           rw [e]
           exact rt (t9 ++ [.d h9, .c [] (C10)]) [] [] hcx (by kernel_rfl)
          | false =>
           have q9 := bne_eq_false_iff_eq.1 h9
           let t10 : List (St Tryz.prog) := (t9 ++ [.d h9, .c [7, 8, 2] (C11_L ((F12 (a0.1, a0.2) a2).1.1, (F12 (a0.1, a0.2) a2).1.2) a1.1 a1.2 (by (try simp only [Lt]); omega) (by (try simp only [Lt]); omega) (by (try simp only [Lt]); omega))])
           cases h10 : (((F11_L ((F12 (a0.1, a0.2) a2).1.1, (F12 (a0.1, a0.2) a2).1.2) a1.1 a1.2).2 : Int) == 0) with
           | true =>
            have q10 := eq_of_beq h10
            let t11 : List (St Tryz.prog) := (t10 ++ [.d h10, .c [] (C15 (F11_L (a0.1, a0.2) a1.1 a1.2).1 (F11_L ((F12 (a0.1, a0.2) a2).1.1, (F12 (a0.1, a0.2) a2).1.2) a1.1 a1.2).1)])
            cases h11 : (F15 (F11_L (a0.1, a0.2) a1.1 a1.2).1 (F11_L ((F12 (a0.1, a0.2) a2).1.1, (F12 (a0.1, a0.2) a2).1.2) a1.1 a1.2).1) with
            | true =>
             have e := Eq.refl (F3 a0 a1 a2); conv at e => rhs; simp only [F3, h0, h1, h2, h3, h4, h5, h6, h7, h8, h9, h10, h11, cdb]
             rw [e]
             exact rt (t11 ++ [.d h11, .c [] (C10)]) [] [] hcx (by kernel_rfl)
            | false =>
             have e := Eq.refl (F3 a0 a1 a2); conv at e => rhs; simp only [F3, h0, h1, h2, h3, h4, h5, h6, h7, h8, h9, h10, h11, cdb]
             rw [e]
             exact rt (t11 ++ [.d h11]) [] [] hcx (by kernel_rfl)
           | false =>
            have q10 := ne_of_beq_false h10
            have e := Eq.refl (F3 a0 a1 a2); conv at e => rhs; simp only [F3, h0, h1, h2, h3, h4, h5, h6, h7, h8, h9, h10, cdb]
            rw [e]
            exact rt (t10 ++ [.d h10]) [] [] hcx (by kernel_rfl)


theorem getD_map0 (f : P3 → P3) (hf : f default = default) (l : List P3) (i : Nat) : (l.map f).getD i default = f (l.getD i default) := by
 rw [gdq, gdq, List.getElem?_map]
 cases l[i]? with
 | none => exact hf.symm
 | some a => rfl

def padd (p q : P3) : P3 := (p.1 + q.1, p.2.1 + q.2.1, p.2.2 + q.2.2)
def fP (f : Int → P3 → P3) (s : Int) (c : PN) : PN := (f s c.1, f s c.2.1, f s c.2.2)
structure Iso (f : Int → P3 → P3) : Prop where
 ad : ∀ s p q, padd (f s p) (f s q) = f (2 * s) (padd p q)
 tk : ∀ k s p, tm k (f s p) = f (k * s) (tm k p)
 dist : ∀ s p q, ds (f s p) (f s q) = ds p q
 gap : ∀ s c q, ne3 (fP f s c) (fP f s q) = ne3 c q
 nor : ∀ p, dt (nrm (fP f 1 p)) (nrm (fP f 1 p)) = dt (nrm p) (nrm p)
theorem q_iso {f : Int → P3 → P3} (I : Iso f) {s : Int} {p : PN} (h : bdP 100000 p) (h' : bdP 100000 (fP f s p)) : q1 (fP f s p) = fP f (2 * s) (q1 p) ∧ q2 (fP f s p) = fP f (2 * s) (q2 p) ∧ q3 (fP f s p) = fP f (2 * s) (q3 p) ∧ q4 (fP f s p) = fP f (2 * s) (q4 p) := by
 obtain ⟨h1, h2, h3⟩ := h
 obtain ⟨g1, g2, g3⟩ := h'
 have md : ∀ {a b : P3}, bd 100000 a → bd 100000 b → bd 100000 (f s a) → bd 100000 (f s b) → F125 (f s a) (f s b) = f (2 * s) (F125 a b) := fun ha hb ga gb => by
   rw [mid_f ga gb, mid_f ha hb]; exact I.ad s _ _
 have tw : ∀ {a : P3}, bd 100000 a → bd 100000 (f s a) → F93 (f s a) 2 = f (2 * s) (F93 a 2) := fun ha ga => by
   rw [times_f ga, times_f ha]; exact I.tk 2 s _
 unfold q1 q2 q3 q4
 simp only [fP] at g1 g2 g3 ⊢
 rw [tw h1 g1, tw h2 g2, tw h3 g3, md h1 h2 g1 g2, md h2 h3 g2 g3, md h3 h1 g3 g1]
 exact ⟨rfl, rfl, rfl, rfl⟩
theorem cut_iso {f : Int → P3 → P3} (I : Iso f) : ∀ (d : Nat) {s m m' : Int} {p : PN}, bdP m p → m * 2 ^ d ≤ 100000 → 0 ≤ m → bdP m' (fP f s p) → m' * 2 ^ d ≤ 100000 → 0 ≤ m' → cutL d (fP f s p) = (cutL d p).map (fP f (2 ^ d * s))
 | 0, s, m, m', p, _, _, _, _, _, _ => by simp only [cutL, List.map_cons, List.map_nil]; rw [show (2 : Int) ^ 0 * s = s by omega]
 | d + 1, s, m, m', p, h, hm, h0, h', hm', h0' => by
   have hp : (1 : Int) ≤ 2 ^ d := Int.add_one_le_of_lt (Int.pow_pos (by omega))
   have e1 : ∀ m : Int, m * 2 ^ (d + 1) = 2 * m * 2 ^ d := fun m => by rw [Int.pow_succ]; grind
   have lem : ∀ m : Int, 0 ≤ m → m * 2 ^ (d + 1) ≤ 100000 → m ≤ 100000 ∧ 2 * m * 2 ^ d ≤ 100000 := fun m h0 hm => by
     have := Int.mul_le_mul_of_nonneg_left hp h0
     have e2 : m * 2 ^ (d + 1) = m * 2 ^ d + m * 2 ^ d := by rw [Int.pow_succ]; grind
     rw [e1] at hm
     have e3 := e1 m
     omega
   have a := lem m h0 hm; have a' := lem m' h0' hm'
   obtain ⟨k1, k2, k3, k4⟩ := q_iso I (h.mono a.1) (h'.mono a'.1)
   have key : ∀ y, y ∈ quad p → fP f (2 * s) y ∈ quad (fP f s p) → cutL d (fP f (2 * s) y) = (cutL d y).map (fP f (2 ^ (d + 1) * s)) := fun y hy hy' => by
     have e4 : (2 : Int) ^ (d + 1) * s = 2 ^ d * (2 * s) := by rw [Int.pow_succ]; grind
     rw [e4]
     exact cut_iso I d (quad_bd h a.1 hy) a.2 (by omega) (quad_bd h' a'.1 hy') a'.2 (by omega)
   simp only [cutL, k1, k2, k3, k4, List.map_append]
   rw [key _ (by simp [quad]) (by rw [← k1]; simp [quad]), key _ (by simp [quad]) (by rw [← k2]; simp [quad]), key _ (by simp [quad]) (by rw [← k3]; simp [quad]), key _ (by simp [quad]) (by rw [← k4]; simp [quad])]
theorem fa3_iso {f : Int → P3 → P3} (I : Iso f) (s : Int) (c q : PN) : fa3 (fP f s c) (fP f s q) = fa3 c q := by
 unfold fa3 fP
 simp only [I.dist]
theorem rim_dt {p q : PN} {d : Int} (hp : vp p = 0) (hq : vp q = 0) (h : dt (nrm p) (nrm p) = dt (nrm q) (nrm q)) : F117 p d = F117 q d := by
 obtain ⟨r, e, hr, r1, r2⟩ := rt_rim hp
 obtain ⟨r', e', hr', r1', r2'⟩ := rt_rim hq
 have : r = r' := by
   obtain ⟨a0, a1, a2⟩ := hr
   obtain ⟨b0, b1, b2⟩ := hr'
   rw [h] at a1 a2
   rcases Int.lt_trichotomy r r' with k | k | k
   · have := Int.mul_le_mul (show r + 1 ≤ r' by omega) (show r + 1 ≤ r' by omega) (by omega) (by omega); omega
   · exact k
   · have := Int.mul_le_mul (show r' + 1 ≤ r by omega) (show r' + 1 ≤ r by omega) (by omega) (by omega); omega
 unfold F117
 rw [e, e', this]
theorem sc_pow {d : Int} (hd : 0 ≤ d ∧ d ≤ 3) : sc d = 2 ^ d.toNat := by
 rcases d4 hd with rfl | rfl | rfl | rfl <;> decide
theorem bet_iso {f : Int → P3 → P3} (I : Iso f) {p b : PN} {d : Int} (hd : 0 ≤ d ∧ d ≤ 3) (hp : vp p = 0) (hp' : vp (fP f 1 p) = 0) : betS (fP f 1 p) (fP f (sc d) b) d = betS p b d := by
 unfold betS
 have hpow : (64 : Int) * 2 ^ d.toNat ≤ 100000 := by rcases d4 hd with rfl | rfl | rfl | rfl <;> decide
 rw [cut_iso I d.toNat (vp_ok hp).1 hpow (by decide) (vp_ok hp').1 hpow (by decide), rim_dt hp' hp (I.nor p), accS_eq, accS_eq, List.map_map, List.map_map, Int.mul_one, ← sc_pow hd]
 have e1 : (bLo d (fP f (sc d) b)) ∘ (fP f (sc d)) = bLo d b := by
   funext c; simp only [Function.comp, bLo, fa3_iso I]
 have e2 : (bHi (F117 p d) d (fP f (sc d) b)) ∘ (fP f (sc d)) = bHi (F117 p d) d b := by
   funext c; simp only [Function.comp, bHi, I.gap]
 rw [e1, e2]
def sw12 (p : PN) : PN := (p.2.1, p.1, p.2.2)
def sw23 (p : PN) : PN := (p.1, p.2.2, p.2.1)
def symF (F : PN → Int) : Prop := (∀ c, F (sw12 c) = F c) ∧ ∀ c, F (sw23 c) = F c
theorem mid_cm (p q : P3) : F125 p q = F125 q p := by
 unfold F125
 rw [Int.add_comm p.1, Int.add_comm p.2.1, Int.add_comm p.2.2]
theorem csum_sym {F : PN → Int} (hF : symF F) : ∀ n : Nat, symF fun p => ((cutL n p).map F).sum
 | 0 => by
   refine ⟨fun c => ?_, fun c => ?_⟩ <;> simp only [cutL, List.map_cons, List.map_nil, List.sum_cons, List.sum_nil]
   · rw [hF.1]
   · rw [hF.2]
 | n + 1 => by
   obtain ⟨i1, i2⟩ := csum_sym hF n
   have st : ∀ p, ((cutL (n + 1) p).map F).sum = ((cutL n (q1 p)).map F).sum + (((cutL n (q2 p)).map F).sum + (((cutL n (q3 p)).map F).sum + ((cutL n (q4 p)).map F).sum)) := fun p => by
     simp only [cutL, List.map_append, List.sum_append]
   generalize hG : (fun p => ((cutL n p).map F).sum) = G at i1 i2
   have hg : ∀ p, ((cutL n p).map F).sum = G p := fun p => by rw [← hG]
   refine ⟨fun p => ?_, fun p => ?_⟩
   · simp only [st, hg]
     have a1 : q1 (sw12 p) = sw12 (q2 p) := by unfold q1 q2 sw12; simp only; rw [mid_cm p.2.1 p.1, mid_cm p.2.2 p.2.1]
     have a2 : q2 (sw12 p) = sw12 (q1 p) := by unfold q1 q2 sw12; simp only; rw [mid_cm p.2.1 p.1, mid_cm p.1 p.2.2]
     have a3 : q3 (sw12 p) = sw12 (q3 p) := by unfold q3 sw12; simp only; rw [mid_cm p.2.2 p.2.1, mid_cm p.1 p.2.2]
     have a4 : q4 (sw12 p) = sw23 (q4 p) := by unfold q4 sw12 sw23; simp only; rw [mid_cm p.2.1 p.1, mid_cm p.1 p.2.2, mid_cm p.2.2 p.2.1]
     rw [a1, a2, a3, a4, i1, i1, i1, i2]; omega
   · simp only [st, hg]
     have a1 : q1 (sw23 p) = sw23 (q1 p) := by unfold q1 sw23; simp only; rw [mid_cm p.1 p.2.2, mid_cm p.2.1 p.1]
     have a2 : q2 (sw23 p) = sw23 (q3 p) := by unfold q2 q3 sw23; simp only; rw [mid_cm p.1 p.2.2, mid_cm p.2.2 p.2.1]
     have a3 : q3 (sw23 p) = sw23 (q2 p) := by unfold q2 q3 sw23; simp only; rw [mid_cm p.2.1 p.1, mid_cm p.2.2 p.2.1]
     have a4 : q4 (sw23 p) = sw12 (sw23 (sw12 (q4 p))) := by unfold q4 sw12 sw23; simp only; rw [mid_cm p.1 p.2.2, mid_cm p.2.2 p.2.1, mid_cm p.2.1 p.1]
     rw [a1, a2, a3, a4, i2, i2, i2, i1, i2, i1]; omega
theorem fa3_lub {c q : PN} {M : Int} (h0 : 0 ≤ M) (h : ∀ a, (a = c.1 ∨ a = c.2.1 ∨ a = c.2.2) → ∀ x, (x = q.1 ∨ x = q.2.1 ∨ x = q.2.2) → ds a x ≤ M) : fa3 c q ≤ M := by
 unfold fa3
 exact mx_le (mx_le (mx_le (mx_le (mx_le (mx_le (mx_le (mx_le (mx_le h0 (h _ (.inl rfl) _ (.inl rfl))) (h _ (.inl rfl) _ (.inr (.inl rfl)))) (h _ (.inl rfl) _ (.inr (.inr rfl)))) (h _ (.inr (.inl rfl)) _ (.inl rfl))) (h _ (.inr (.inl rfl)) _ (.inr (.inl rfl)))) (h _ (.inr (.inl rfl)) _ (.inr (.inr rfl)))) (h _ (.inr (.inr rfl)) _ (.inl rfl))) (h _ (.inr (.inr rfl)) _ (.inr (.inl rfl)))) (h _ (.inr (.inr rfl)) _ (.inr (.inr rfl)))
theorem fa3_nn (c q : PN) : 0 ≤ fa3 c q := by
 unfold fa3
 exact Int.le_trans (le_mx1 0 _) (Int.le_trans (le_mx1 _ _) (Int.le_trans (le_mx1 _ _) (Int.le_trans (le_mx1 _ _) (Int.le_trans (le_mx1 _ _) (Int.le_trans (le_mx1 _ _) (Int.le_trans (le_mx1 _ _) (Int.le_trans (le_mx1 _ _) (le_mx1 _ _))))))))
theorem fa3_same {c q c' q' : PN} (hc : ∀ a, (a = c'.1 ∨ a = c'.2.1 ∨ a = c'.2.2) → (a = c.1 ∨ a = c.2.1 ∨ a = c.2.2)) (hq : ∀ a, (a = q'.1 ∨ a = q'.2.1 ∨ a = q'.2.2) → (a = q.1 ∨ a = q.2.1 ∨ a = q.2.2)) : fa3 c' q' ≤ fa3 c q :=
 fa3_lub (fa3_nn c q) fun a ha x hx => fa3_all c q (hc a ha) (hq x hx)
theorem lo3_12 (a b c : Int) : lo3 b a c = lo3 a b c := by unfold lo3; simp only [Int.lt_irrefl, if_false]; (repeat' split) <;> omega
theorem lo3_23 (a b c : Int) : lo3 a c b = lo3 a b c := by unfold lo3; simp only [Int.lt_irrefl, if_false]; (repeat' split) <;> omega
theorem hi3_12 (a b c : Int) : hi3 b a c = hi3 a b c := by unfold hi3; simp only [Int.lt_irrefl, if_false]; (repeat' split) <;> omega
theorem hi3_23 (a b c : Int) : hi3 a c b = hi3 a b c := by unfold hi3; simp only [Int.lt_irrefl, if_false]; (repeat' split) <;> omega
theorem ne3_sw (c q : PN) : ne3 (sw12 c) q = ne3 c q ∧ ne3 (sw23 c) q = ne3 c q ∧ ne3 c (sw12 q) = ne3 c q ∧ ne3 c (sw23 q) = ne3 c q := by
 unfold ne3 blo bhi sw12 sw23
 simp only [lo3_12, hi3_12, lo3_23, hi3_23, and_self]
theorem fa3_sw (c q : PN) : fa3 (sw12 c) q = fa3 c q ∧ fa3 (sw23 c) q = fa3 c q ∧ fa3 c (sw12 q) = fa3 c q ∧ fa3 c (sw23 q) = fa3 c q := by
 have t12 : ∀ (c : PN) a, (a = (sw12 c).1 ∨ a = (sw12 c).2.1 ∨ a = (sw12 c).2.2) ↔ (a = c.1 ∨ a = c.2.1 ∨ a = c.2.2) := fun c a => by
   unfold sw12; simp only; grind
 have t23 : ∀ (c : PN) a, (a = (sw23 c).1 ∨ a = (sw23 c).2.1 ∨ a = (sw23 c).2.2) ↔ (a = c.1 ∨ a = c.2.1 ∨ a = c.2.2) := fun c a => by
   unfold sw23; simp only; grind
 refine ⟨?_, ?_, ?_, ?_⟩ <;> refine Int.le_antisymm (fa3_same ?_ ?_) (fa3_same ?_ ?_) <;> intro a ha <;> first | exact ha | exact (t12 _ a).1 ha | exact (t12 _ a).2 ha | exact (t23 _ a).1 ha | exact (t23 _ a).2 ha
theorem cr_flip (u v : P3) : cr v u = (-(cr u v).1, -(cr u v).2.1, -(cr u v).2.2) := by
 unfold cr
 simp only [Prod.mk.injEq]
 refine ⟨?_, ?_, ?_⟩ <;> grind
theorem nrm_sw (p : PN) : dt (nrm (sw23 p)) (nrm (sw23 p)) = dt (nrm p) (nrm p) := by
 have e : nrm (sw23 p) = (-(nrm p).1, -(nrm p).2.1, -(nrm p).2.2) := cr_flip _ _
 rw [e]
 generalize nrm p = n
 unfold dt
 simp only [Int.neg_mul_neg]
theorem bet_symb (p : PN) (d : Int) : (∀ b, betS p (sw12 b) d = betS p b d) ∧ ∀ b, betS p (sw23 b) d = betS p b d := by
 constructor
 · intro b
   have e1 : bLo d (sw12 b) = bLo d b := by funext c; simp only [bLo, (fa3_sw c b).2.2.1]
   have e2 : ∀ R, bHi R d (sw12 b) = bHi R d b := fun R => by funext c; simp only [bHi, (ne3_sw c b).2.2.1]
   unfold betS
   rw [e1, e2]
 · intro b
   have e1 : bLo d (sw23 b) = bLo d b := by funext c; simp only [bLo, (fa3_sw c b).2.2.2]
   have e2 : ∀ R, bHi R d (sw23 b) = bHi R d b := fun R => by funext c; simp only [bHi, (ne3_sw c b).2.2.2]
   unfold betS
   rw [e1, e2]
theorem bet_sw {p : PN} {d : Int} (hp : vp p = 0) (hp' : vp (sw23 p) = 0) (b : PN) : betS (sw23 p) b d = betS p b d := by
 unfold betS
 rw [accS_eq, accS_eq, rim_dt hp' hp (nrm_sw p)]
 have s1 := (csum_sym (F := bLo d b) ⟨fun c => by simp only [bLo, (fa3_sw c b).1], fun c => by simp only [bLo, (fa3_sw c b).2.1]⟩ d.toNat).2 p
 have s2 := (csum_sym (F := bHi (F117 p d) d b) ⟨fun c => by simp only [bHi, (ne3_sw c b).1], fun c => by simp only [bHi, (ne3_sw c b).2.1]⟩ d.toNat).2 p
 simp only at s1 s2
 rw [s1, s2]


def mvF (v : P3) (s : Int) (x : P3) : P3 := (x.1 + s * v.1, x.2.1 + s * v.2.1, x.2.2 + s * v.2.2)
def tnF (_ : Int) (x : P3) : P3 := (-x.2.1, x.1, x.2.2)
def mrF (_ : Int) (x : P3) : P3 := (-x.1, x.2.1, x.2.2)
theorem lo3_add (a b c t : Int) : lo3 (a + t) (b + t) (c + t) = lo3 a b c + t := by unfold lo3; simp only [Int.lt_irrefl, if_false]; (repeat' split) <;> omega
theorem hi3_add (a b c t : Int) : hi3 (a + t) (b + t) (c + t) = hi3 a b c + t := by unfold hi3; simp only [Int.lt_irrefl, if_false]; (repeat' split) <;> omega
theorem gp_add (a b c d t : Int) : gp (a + t) (b + t) (c + t) (d + t) = gp a b c d := by unfold gp mx; (repeat' split) <;> omega
theorem gp_flip (a b c d : Int) : gp (-b) (-a) (-d) (-c) = gp a b c d := by unfold gp mx; (repeat' split) <;> omega
theorem lo3_ng (a b c : Int) : lo3 (-a) (-b) (-c) = -hi3 a b c := by unfold lo3 hi3; simp only [Int.lt_irrefl, if_false]; (repeat' split) <;> omega
theorem hi3_ng (a b c : Int) : hi3 (-a) (-b) (-c) = -lo3 a b c := by unfold lo3 hi3; simp only [Int.lt_irrefl, if_false]; (repeat' split) <;> omega
theorem mv_iso (v : P3) : Iso (mvF v) where
 ad := fun s p q => by simp only [padd, mvF, Prod.mk.injEq]; refine ⟨?_, ?_, ?_⟩ <;> grind
 tk := fun k s p => by simp only [tm, mvF, Prod.mk.injEq]; refine ⟨?_, ?_, ?_⟩ <;> grind
 dist := fun s p q => by
   have e : sb (mvF v s p) (mvF v s q) = sb p q := by simp only [sb, mvF, Prod.mk.injEq]; omega
   unfold ds; rw [e]
 gap := fun s c q => by unfold ne3 nr blo bhi fP mvF; simp only [lo3_add, hi3_add, gp_add]
 nor := fun p => by
   have e : ∀ a b, sb (mvF v 1 a) (mvF v 1 b) = sb a b := fun a b => by simp only [sb, mvF, Prod.mk.injEq]; omega
   unfold nrm fP; simp only [e]
theorem tn_iso : Iso tnF where
 ad := fun s p q => by simp only [padd, tnF, Prod.mk.injEq, and_true]; omega
 tk := fun k s p => by simp only [tm, tnF, Prod.mk.injEq, Int.mul_neg, and_true]
 dist := fun s p q => by
   have e : sb (tnF s p) (tnF s q) = (-(sb p q).2.1, (sb p q).1, (sb p q).2.2) := by simp only [sb, tnF, Prod.mk.injEq, and_true]; omega
   unfold ds; rw [e]; unfold dt; simp only [Int.neg_mul_neg]; omega
 gap := fun s c q => by unfold ne3 nr blo bhi fP tnF; simp only [lo3_ng, hi3_ng, gp_flip]; omega
 nor := fun p => by
   have e : ∀ a b, sb (tnF 1 a) (tnF 1 b) = tnF 1 (sb a b) := fun a b => by simp only [sb, tnF, Prod.mk.injEq, and_true]; omega
   have c : ∀ u w, cr (tnF 1 u) (tnF 1 w) = tnF 1 (cr u w) := fun u w => by simp only [cr, tnF, Prod.mk.injEq]; refine ⟨?_, ?_, ?_⟩ <;> grind
   unfold nrm fP; simp only [e, c]
   generalize cr (sb p.2.1 p.1) (sb p.2.2 p.1) = n
   unfold tnF dt; simp only [Int.neg_mul_neg]; omega
theorem mr_iso : Iso mrF where
 ad := fun s p q => by simp only [padd, mrF, Prod.mk.injEq, and_true]; omega
 tk := fun k s p => by simp only [tm, mrF, Prod.mk.injEq, Int.mul_neg, and_true]
 dist := fun s p q => by
   have e : sb (mrF s p) (mrF s q) = (-(sb p q).1, (sb p q).2.1, (sb p q).2.2) := by simp only [sb, mrF, Prod.mk.injEq, and_true]; omega
   unfold ds; rw [e]; unfold dt; simp only [Int.neg_mul_neg]
 gap := fun s c q => by unfold ne3 nr blo bhi fP mrF; simp only [lo3_ng, hi3_ng, gp_flip]
 nor := fun p => by
   have e : ∀ a b, sb (mrF 1 a) (mrF 1 b) = mrF 1 (sb a b) := fun a b => by simp only [sb, mrF, Prod.mk.injEq, and_true]; omega
   have c : ∀ u w, cr (mrF 1 u) (mrF 1 w) = ((cr u w).1, -(cr u w).2.1, -(cr u w).2.2) := fun u w => by simp only [cr, mrF, Prod.mk.injEq]; refine ⟨?_, ?_, ?_⟩ <;> grind
   unfold nrm fP; simp only [e, c]
   generalize cr (sb p.2.1 p.1) (sb p.2.2 p.1) = n
   unfold dt; simp only [Int.neg_mul_neg]
def keeps (g : PN → PN) : Prop := ∀ p q d, 0 ≤ d ∧ d ≤ 2 → vp p = 0 → vp q = 0 → vp (g p) = 0 → vp (g q) = 0 → F60 (g p) (g q) d = F60 p q d ∧ F61 (g p) (g q) d = F61 p q d
theorem pk_0 {p q : PN} {d : Int} (hp : vp p = 0) (hq : vp q = 0) (hd : 0 ≤ d ∧ d ≤ 2) : pk p q d = 0 := by unfold pk; rw [if_pos hp, if_pos hq, if_pos hd]
theorem tm_iso {f : Int → P3 → P3} (I : Iso f) (k : Int) (q : PN) : tmP k (fP f 1 q) = fP f k (tmP k q) := by
 unfold tmP fP; simp only [I.tk, Int.mul_one]
theorem keep_iso {f : Int → P3 → P3} (I : Iso f) : keeps (fP f 1) := by
 intro p q d hd hp hq hp' hq'
 have hd3 : 0 ≤ d ∧ d ≤ 3 := by omega
 have hpow : (64 : Int) * 2 ^ d.toNat ≤ 100000 := by rcases d4 hd3 with rfl | rfl | rfl | rfl <;> decide
 constructor
 · rw [Between_f (pk_0 hp' hq' hd), Between_f (pk_0 hp hq hd), tm_iso I, bet_iso I hd3 hp hp']
 · rw [Mutual_f, Mutual_f]
   unfold mutV
   rw [pk_0 hp' hq' hd, pk_0 hp hq hd, if_pos rfl, if_pos rfl]
   have e : mutL (fP f 1 p) (fP f 1 q) d = mutL p q d := by
     unfold mutL
     rw [cut_iso I d.toNat (vp_ok hq).1 hpow (by decide) (vp_ok hq').1 hpow (by decide), List.map_map, Int.mul_one, ← sc_pow hd3]
     refine List.map_congr_left fun c _ => ?_
     exact bet_iso I hd3 hp hp'
   rw [e]
theorem keep_sw : keeps sw23 := by
 intro p q d hd hp hq hp' hq'
 constructor
 · rw [Between_f (pk_0 hp' hq' hd), Between_f (pk_0 hp hq hd), bet_sw hp hp', show tmP (sc d) (sw23 q) = sw23 (tmP (sc d) q) from rfl, (bet_symb p d).2]
 · rw [Mutual_f, Mutual_f]
   unfold mutV
   rw [pk_0 hp' hq' hd, pk_0 hp hq hd, if_pos rfl, if_pos rfl]
   have e : ∀ b, betS (sw23 p) b d = betS p b d := bet_sw hp hp'
   have s1 := (csum_sym (F := fun b => (betS p b d).1) ⟨fun c => by simp only [(bet_symb p d).1], fun c => by simp only [(bet_symb p d).2]⟩ d.toNat).2 q
   have s2 := (csum_sym (F := fun b => (betS p b d).2) ⟨fun c => by simp only [(bet_symb p d).1], fun c => by simp only [(bet_symb p d).2]⟩ d.toNat).2 q
   rw [sums_eq, sums_eq]
   unfold mutL
   simp only [List.map_map, Function.comp_def, e]
   simp only at s1 s2
   rw [s1, s2]
theorem vp_sw {p : PN} (h : vp p = 0) : vp (sw23 p) = 0 := by
 have h1 := (vp_ok h).1
 have h2 := (vp_ok h).2
 have e := nrm_sw p
 unfold vp
 rw [if_pos (show bdP 64 (sw23 p) from ⟨h1.1, h1.2.2, h1.2.1⟩)]
 by_cases hz : (nrm (sw23 p)).1 = 0 ∧ (nrm (sw23 p)).2.1 = 0 ∧ (nrm (sw23 p)).2.2 = 0
 · exfalso
   unfold dt at e h2
   rw [hz.1, hz.2.1, hz.2.2] at e
   omega
 · rw [if_neg hz]


theorem chV_same {m m' : ME} {q : List Int} (hv : F35 m = 0) (hv' : F35 m' = 0) (hl : m'.2.length = m.2.length) (h : chV m q = 0) : chV m' q = 0 := by
 unfold chV at h ⊢
 rw [hv] at h
 rw [hv', hl]
 exact h
theorem bnd_unf {m : ME} {q : List Int} {d : Int} (hc : ((F32_L m q d : Int) != 0) = false) : F11_L m q d = F34_L ((m.1, m.2), (pans m).map (rowB m d), MT m d, (F28 m (midV (bxV m))).1) q := by
 obtain ⟨hv, hd⟩ := chk_v (m := m) hc
 unfold F11_L
 have hc2 : ((F32_L (m.1, m.2) q d : Int) != 0) = false := hc
 rw [hc2, cond_false]
 have hpf := prep_f (m := m) hv hd
 have hpf' : F33 (m.1, m.2) d = _ := hpf
 have eB : (F59_f60 m d).1 = (pans m).map (rowB m d) := by rw [tab_b hv hd]; rfl
 have eM : (F59_f61 m d).1 = MT m d := by rw [tab_m hv hd]; rfl
 rw [hpf', eB, eM]
 rfl
theorem bnds_ball (M M' : ME) (T T2 : TB) (B B' : Int) (q : List Int) : (F34_L (M', T, T2, B') q).2 = (F34_L (M, T, T2, B) q).2 ∧ (F34_L (M', T, T2, B') q).1.1 = (F34_L (M, T, T2, B) q).1.1 := by
 unfold F34_L
 simp only
 generalize F63_L_L T q = P
 generalize F65_L_L T2 q = E
 generalize F64_L_L P.1 q = b
 generalize F67_L_L P.1 q = a
 generalize F66_L E.1 q = t
 cases (P.2 : Int) != 0 with
 | true => exact ⟨rfl, rfl⟩
 | false =>
   cases (b.2 : Int) != 0 with
   | true => exact ⟨rfl, rfl⟩
   | false =>
     cases (E.2 : Int) != 0 with
     | true => exact ⟨rfl, rfl⟩
     | false =>
       cases (t.2 : Int) != 0 with
       | true => exact ⟨rfl, rfl⟩
       | false =>
         cases (a.2 : Int) != 0 with
         | true => exact ⟨rfl, rfl⟩
         | false => exact ⟨rfl, rfl⟩
theorem bnd_same {m m' : ME} {g : PN → PN} {q : List Int} {d : Int} (hg : keeps g) (hp : pans m' = (pans m).map g) (hv' : F35 m' = 0) (hl : m'.2.length = m.2.length) (h : (F11_L m q d).2 = 0) :
   (F11_L m' q d).2 = 0 ∧ (F11_L m' q d).1.1 = (F11_L m q d).1.1 := by
 have hc : ((F32_L m q d : Int) != 0) = false := by
   cases hc : ((F32_L m q d : Int) != 0) with
   | false => rfl
   | true =>
     exfalso
     unfold F11_L at h
     have hc2 : ((F32_L (m.1, m.2) q d : Int) != 0) = true := hc
     rw [hc2, cond_true] at h
     exact bne_iff_ne.1 hc2 h
 obtain ⟨hv, hd⟩ := chk_v (m := m) hc
 have hc' : ((F32_L m' q d : Int) != 0) = false := by
   rw [chk_h] at hc ⊢
   have h0 := bne_eq_false_iff_eq.1 hc
   have hch : chV m q = 0 := by
     unfold chD at h0
     cases h1 : (chV m q != 0) with
     | true => rw [h1, cond_true] at h0; exact h0
     | false => exact bne_eq_false_iff_eq.1 h1
   have hch' := chV_same hv hv' hl hch
   unfold chD at h0 ⊢
   rw [hch] at h0
   rw [hch']
   exact bne_eq_false_iff_eq.2 h0
 have v : ∀ p ∈ pans m, vp p = 0 := fun p hp' => by obtain ⟨c, hc, rfl⟩ := List.mem_map.1 hp'; exact vld_pan hv c hc
 have v' : ∀ p ∈ pans m, vp (g p) = 0 := fun p hp' => by
   have : g p ∈ pans m' := by rw [hp]; exact List.mem_map.2 ⟨p, hp', rfl⟩
   obtain ⟨c, hc, e⟩ := List.mem_map.1 this
   rw [← e]; exact vld_pan hv' c hc
 have eT : (pans m').map (rowB m' d) = (pans m).map (rowB m d) := by
   rw [hp, List.map_map]
   refine List.map_congr_left fun p hp' => ?_
   simp only [Function.comp]
   unfold rowB
   rw [hp, List.map_map]
   refine List.map_congr_left fun p2 hp2 => ?_
   simp only [Function.comp]
   rw [(hg p2 p d hd (v p2 hp2) (v p hp') (v' p2 hp2) (v' p hp')).1]
 have eM : MT m' d = MT m d := by
   unfold MT
   rw [hp, List.map_map]
   refine List.map_congr_left fun p hp' => ?_
   simp only [Function.comp]
   rw [List.map_map]
   refine List.map_congr_left fun p2 hp2 => ?_
   simp only [Function.comp]
   rw [(hg p2 p d hd (v p2 hp2) (v p hp') (v' p2 hp2) (v' p hp')).2]
 rw [bnd_unf hc] at h ⊢
 rw [bnd_unf hc', eT, eM]
 have k := bnds_ball (m.1, m.2) (m'.1, m'.2) ((pans m).map (rowB m d)) (MT m d) (F28 m (midV (bxV m))).1 (F28 m' (midV (bxV m'))).1 q
 exact ⟨k.1.trans h, k.2⟩
theorem chg_meet {m m' : ME} {g : PN → PN} {q : List Int} {d : Int} (hg : keeps g) (hp : pans m' = (pans m).map g) (hv' : F35 m' = 0) (hl : m'.2.length = m.2.length) (h : (F11_L m q d).2 = 0) :
   (F11_L m' q d).2 = 0 ∧ F15 (F11_L m q d).1 (F11_L m' q d).1 = true := by
 obtain ⟨h', e⟩ := bnd_same hg hp hv' hl h
 have a := bnd_val h; have b := bnd_val h'
 exact ⟨h', meet_m (bnd_vs h) (bnd_vs h') (by omega) (by omega)⟩


structure Img (T φ : P3 → P3) (g : PN → PN) : Prop where
 t0 : T default = default
 inj : ∀ p q, T p = T q → p = q
 tb : ∀ p, bd 64 (T p) ↔ bd 64 p
 ph : φ = id ∨ φ = swp
 pan : ∀ (m : ME) c, F101 (m.1.map T, m.2.map φ) (φ c) = g (F101 m c)
 gv : ∀ p, vp p = 0 → vp (g p) = 0
 vol : ∀ p, bdP 64 p → F103 (g p) = F103 p
theorem tri_swp (f : P3) (p q : Int) : tri (swp f) p q = tri f q p := by
 have c : ∀ a b c d : Int, (if a = b ∧ c = d then (1 : Int) else 0) = (if c = d ∧ a = b then 1 else 0) := fun a b c d => by by_cases h : a = b <;> by_cases k : c = d <;> simp [h, k]
 unfold tri swp
 simp only
 rw [c f.1 p f.2.2 q, c f.2.2 p f.2.1 q, c f.2.1 p f.1 q]
 ac_rfl
theorem cnt_swp : ∀ (l : List P3) (p q : Int), cnt (l.map swp) p q = cnt l q p
 | [], _, _ => rfl
 | f :: l, p, q => by
   simp only [List.map_cons, cnt]
   rw [tri_swp, cnt_swp l]
section
variable {T φ : P3 → P3} {g : PN → PN}
theorem img_pans (H : Img T φ g) (m : ME) : pans (m.1.map T, m.2.map φ) = (pans m).map g := by
 unfold pans
 rw [List.map_map, List.map_map]
 exact List.map_congr_left fun c _ => H.pan m c
theorem img_1 (H : Img T φ g) (m : ME) (n : Nat) (s : Int × Int) : loopF (S50_1 (m.1.map T, m.2.map φ)) n s = loopF (S50_1 m) n s := by
 refine loopF_eq (fun _ => True) (fun s _ => ?_) (fun _ _ _ _ => trivial) n s trivial
 obtain ⟨v3, v4⟩ := s
 simp only [S50_1]
 rw [getD_map0 T H.t0, getD_map0 T H.t0, eq_b, eq_b]
 have e : decide (T (m.1.getD (toNat v3) default) = T (m.1.getD (toNat v4) default)) = decide (m.1.getD (toNat v3) default = m.1.getD (toNat v4) default) := by
   by_cases h : m.1.getD (toNat v3) default = m.1.getD (toNat v4) default
   · rw [dqt h, dqt (by rw [h])]
   · rw [dqf h, dqf (fun k => h (H.inj _ _ k))]
 rw [e]
theorem s2_ok {m : ME} {i : Nat} {c : P3} (hc : m.2[i]? = some c) (hin : inF m.1.length c) (hv : vp (F101 m c) = 0) (v : List Bool) : S50_2 m (v, (i : Int)) = .inl ((((v.set (toNat c.1) true).set (toNat c.2.1) true).set (toNat c.2.2) true), (i : Int) + 1) := by
 obtain ⟨hlt, _⟩ := List.getElem?_eq_some_iff.1 hc
 obtain ⟨⟨a1, a2⟩, ⟨b1, b2⟩, ⟨c1, c2⟩⟩ := hin
 have hp : F81 (m.1, m.2) (i : Int) = F101 m c := by
   unfold F81
   rw [getD_of hc]; rfl
 obtain ⟨hb, hd⟩ := vp_ok hv
 have hN : F80 (F101 m c) = nrm (F101 m c) := by rw [← nrm_eq]; exact nrm_s hb
 simp only [S50_2]
 rw [dqt (by omega), cond_true, getD_of hc, dqf (by omega), cond_false, dqf (by omega), cond_false, dqf (by omega), cond_false, dqf (by omega), cond_false, dqf (by omega), cond_false, dqf (by omega), cond_false, hp, hN]
 generalize nrm (F101 m c) = N at *
 have hne : N ≠ (0, 0, 0) := fun h => by rw [h] at hd; exact absurd hd (by decide)
 have hz : (((N.1 : Int) == 0) && (((N.2.1 : Int) == 0) && (((N.2.2 : Int) == 0) && true))) = false := (eq_b N (0, 0, 0)).trans (dqf hne)
 rw [hz, cond_false]
theorem set_swp (v : List Bool) (a b c : Nat) : ((v.set a true).set c true).set b true = ((v.set a true).set b true).set c true := by
 by_cases h : b = c
 · subst h; rfl
 · rw [List.set_comm _ _ (fun e => h e.symm)]
theorem vol_img (H : Img T φ g) {m : ME} (hv : F35 m = 0) : F83 (m.1.map T, m.2.map φ) = F83 m := by
 rw [vol_b, vol_b]
 simp only
 rw [List.foldl_map]
 have key : ∀ (l : List P3) (v : Int), (∀ c ∈ l, c ∈ m.2) → l.foldl (fun v c => W (v + F103 (F101 (m.1.map T, m.2.map φ) (φ c)))) v = l.foldl (fun v c => W (v + F103 (F101 m c))) v := by
   intro l
   induction l with
   | nil => intro v _; rfl
   | cons c l ih =>
     intro v hl
     rw [List.foldl_cons, List.foldl_cons, H.pan, H.vol _ (vp_ok (vld_pan hv c (hl c List.mem_cons_self))).1]
     exact ih _ (fun x hx => hl x (List.mem_cons_of_mem _ hx))
 exact key m.2 0 (fun c hc => hc)
theorem img_6 (H : Img T φ g) {m : ME} (hv : F35 m = 0) (n : Nat) (s : List Bool × Int) : loopF (S50_6 (m.1.map T, m.2.map φ)) n s = loopF (S50_6 m) n s := by
 refine loopF_eq (fun _ => True) (fun s _ => ?_) (fun _ _ _ _ => trivial) n s trivial
 obtain ⟨v, i⟩ := s
 simp only [S50_6]
 rw [vol_img H hv]
theorem img_4 (H : Img T φ g) {m : ME} (hv : F35 m = 0) (n : Nat) (s : List Bool × Int) : loopF (S50_4 (m.1.map T, m.2.map φ)) n s = loopF (S50_4 m) n s := by
 have h96 : m.2.length ≤ 96 := (val_parts hv).2.2.1
 refine loopF_eq (fun _ => True) (fun s _ => ?_) (fun _ _ _ _ => trivial) n s trivial
 obtain ⟨v, i⟩ := s
 have e1 : ∀ p q, F82 (m.1, m.2) p q = cnt m.2 p q := fun p q => edg_f m h96 p q
 have e2 : ∀ p q, F82 (m.1.map T, m.2.map φ) p q = cnt (m.2.map φ) p q := fun p q => edg_f (m.1.map T, m.2.map φ) (by simp only [List.length_map]; exact h96) p q
 simp only [S50_4]
 rw [img_6 H hv]
 simp only [e1, e2, List.length_map]
 rcases H.ph with rfl | rfl
 · simp only [List.map_id]
 · simp only [cnt_swp, getD_map0 swp rfl]
   simp only [swp]
   generalize m.2.getD (toNat i) default = f
   generalize (cnt m.2 f.1 f.2.1 != 1) = b1
   generalize (cnt m.2 f.2.1 f.1 != 1) = b2
   generalize (cnt m.2 f.2.1 f.2.2 != 1) = b3
   generalize (cnt m.2 f.2.2 f.2.1 != 1) = b4
   generalize (cnt m.2 f.2.2 f.1 != 1) = b5
   generalize (cnt m.2 f.1 f.2.2 != 1) = b6
   cases b1 <;> cases b2 <;> cases b3 <;> cases b4 <;> cases b5 <;> cases b6 <;> rfl
theorem img_2s (H : Img T φ g) {m : ME} (hv : F35 m = 0) (v : List Bool) {i : Nat} (hlt : i < m.2.length) : ∃ u, S50_2 (m.1.map T, m.2.map φ) (v, (i : Int)) = .inl (u, (i : Int) + 1) ∧ S50_2 m (v, (i : Int)) = .inl (u, (i : Int) + 1) := by
 have hc : m.2[i]? = some m.2[i] := List.getElem?_eq_getElem hlt
 generalize m.2[i] = c at hc
 have hm : c ∈ m.2 := List.mem_of_getElem? hc
 have hvp := vld_pan hv c hm
 obtain ⟨h64, _, _, _, hf⟩ := val_parts hv
 have hfc := hf (i : Int) (by omega) (by omega)
 rw [getD_of hc] at hfc
 have hin : inF m.1.length c := face_in (m := m) (by rw [hfc]; rfl) h64
 have hc' : (m.2.map φ)[i]? = some (φ c) := by rw [List.getElem?_map, hc]; rfl
 have hvp' : vp (F101 (m.1.map T, m.2.map φ) (φ c)) = 0 := by rw [H.pan]; exact H.gv _ hvp
 have hin' : inF (m.1.map T).length (φ c) := by
   rw [List.length_map]
   rcases H.ph with rfl | rfl
   · exact hin
   · exact ⟨hin.1, hin.2.2, hin.2.1⟩
 refine ⟨_, ?_, s2_ok hc hin hvp v⟩
 rw [s2_ok (m := (m.1.map T, m.2.map φ)) hc' hin' hvp']
 rcases H.ph with rfl | rfl
 · rfl
 · simp only [swp]; rw [set_swp]
theorem img_2 (H : Img T φ g) {m : ME} (hv : F35 m = 0) (n : Nat) (s : List Bool × Int) (h0 : 0 ≤ s.2) : loopF (S50_2 (m.1.map T, m.2.map φ)) n s = loopF (S50_2 m) n s := by
 have out : ∀ (v : List Bool) (i : Nat), ¬ i < m.2.length → S50_2 (m.1.map T, m.2.map φ) (v, (i : Int)) = .inr (loopF (S50_4 m) (toNat ((m.2.length : Int) - 0) + 1) (v, 0)) := fun v i hn => by
   simp only [S50_2, List.length_map]
   rw [dqf (by omega), cond_false, img_4 H hv]
 refine loopF_eq (fun s => 0 ≤ s.2) (fun s hs => ?_) (fun s s' hs e => ?_) n s h0
 · obtain ⟨v, j⟩ := s
   obtain ⟨i, rfl⟩ := Int.eq_ofNat_of_zero_le hs
   by_cases hlt : i < m.2.length
   · obtain ⟨u, e1, e2⟩ := img_2s H hv v hlt
     exact e1.trans e2.symm
   · refine (out v i hlt).trans ?_
     simp only [S50_2]
     rw [dqf (by omega), cond_false]
 · obtain ⟨v, j⟩ := s
   obtain ⟨i, rfl⟩ := Int.eq_ofNat_of_zero_le hs
   by_cases hlt : i < m.2.length
   · obtain ⟨u, e1, e2⟩ := img_2s H hv v hlt
     have := e1.symm.trans e
     cases this
     show (0 : Int) ≤ (i : Int) + 1
     omega
   · have := (out v i hlt).symm.trans e
     cases this
theorem img_val (H : Img T φ g) {m : ME} (hv : F35 m = 0) : F35 (m.1.map T, m.2.map φ) = 0 := by
 rw [← hv, val_eq, val_eq]
 unfold F50
 simp only [List.length_map]
 have e : ∀ n s, loopF (S50_0 (m.1.map T, m.2.map φ)) n s = loopF (S50_0 m) n s := fun n s => by
   refine loopF_eq (fun _ => True) (fun v _ => ?_) (fun _ _ _ _ => trivial) n s trivial
   simp only [S50_0, List.length_map]
   have e2 : F79 (T (m.1.getD (toNat v) default)) 64 = F79 (m.1.getD (toNat v) default) 64 := by
     rw [near02_eq, near02_eq]; exact decide_eq_decide.2 (H.tb _)
   rw [getD_map0 T H.t0, e2, img_1 H, img_2 H hv _ _ (Int.le_refl 0)]
 rw [e]
end

end Go.Proofs.YtaeagjnpobdglaaGreat

namespace Go.Proofs.YtaeagjnpobdglaaGreat
open Go.Proofs Go.Aw Go.RowKit
set_option maxRecDepth 100000

theorem vp_of {p p' : PN} (hb : bdP 64 p') (hn : dt (nrm p') (nrm p') = dt (nrm p) (nrm p)) (h : vp p = 0) : vp p' = 0 := by
 have h2 := (vp_ok h).2
 unfold vp
 rw [if_pos hb]
 by_cases hz : (nrm p').1 = 0 ∧ (nrm p').2.1 = 0 ∧ (nrm p').2.2 = 0
 · exfalso
   unfold dt at hn h2
   rw [hz.1, hz.2.1, hz.2.2] at hn
   omega
 · rw [if_neg hz]
theorem prod3_f {p : PN} (h : bdP 64 p) : F103 p = dt p.1 (cr p.2.1 p.2.2) := by
 obtain ⟨h1, h2, h3⟩ := h
 unfold F103
 rw [scr (h2.mono (by decide)) (h3.mono (by decide))]
 unfold bd at h1 h2 h3
 have b1 := mul_bd (a := 64) (b := 64) h2.2.1 h3.2.2; have b2 := mul_bd (a := 64) (b := 64) h2.2.2 h3.2.1
 have b3 := mul_bd (a := 64) (b := 64) h2.2.2 h3.1; have b4 := mul_bd (a := 64) (b := 64) h2.1 h3.2.2
 have b5 := mul_bd (a := 64) (b := 64) h2.1 h3.2.1; have b6 := mul_bd (a := 64) (b := 64) h2.2.1 h3.1
 unfold F132 dt cr
 simp only
 have c1 := mul_bd (a := 64) (b := 8192) (y := p.2.1.2.1 * p.2.2.2.2 - p.2.1.2.2 * p.2.2.2.1) h1.1 (by omega)
 have c2 := mul_bd (a := 64) (b := 8192) (y := p.2.1.2.2 * p.2.2.1 - p.2.1.1 * p.2.2.2.2) h1.2.1 (by omega)
 have c3 := mul_bd (a := 64) (b := 8192) (y := p.2.1.1 * p.2.2.2.1 - p.2.1.2.1 * p.2.2.1) h1.2.2 (by omega)
 generalize p.1.1 * (p.2.1.2.1 * p.2.2.2.2 - p.2.1.2.2 * p.2.2.2.1) = a at *
 generalize p.1.2.1 * (p.2.1.2.2 * p.2.2.1 - p.2.1.1 * p.2.2.2.2) = b at *
 generalize p.1.2.2 * (p.2.1.1 * p.2.2.2.1 - p.2.1.2.1 * p.2.2.1) = c at *
 rw [W_eq (n := a) (by omega) (by omega), W_eq (n := b) (by omega) (by omega), W_eq (n := c) (by omega) (by omega), W_eq (n := a + b) (by omega) (by omega), W_eq (n := a + b + c) (by omega) (by omega)]
theorem tn_bd (p : P3) : bd 64 (tnF 1 p) ↔ bd 64 p := by unfold bd tnF; simp only; omega
theorem mr_bd (p : P3) : bd 64 (mrF 1 p) ↔ bd 64 p := by unfold bd mrF; simp only; omega
theorem tn_img : Img (tnF 1) id (fP tnF 1) where
 t0 := rfl
 inj := fun p q h => by unfold tnF at h; simp only [Prod.mk.injEq] at h; exact Prod.ext (by omega) (Prod.ext (by omega) (by omega))
 tb := tn_bd
 ph := .inl rfl
 pan := fun m c => by unfold F101; simp only [getD_map0 (tnF 1) rfl, id]; rfl
 gv := fun p h => vp_of (show bdP 64 (fP tnF 1 p) from ⟨(tn_bd _).2 (vp_ok h).1.1, (tn_bd _).2 (vp_ok h).1.2.1, (tn_bd _).2 (vp_ok h).1.2.2⟩) (tn_iso.nor p) h
 vol := fun p h => by
   rw [prod3_f (p := fP tnF 1 p) ⟨(tn_bd _).2 h.1, (tn_bd _).2 h.2.1, (tn_bd _).2 h.2.2⟩, prod3_f h]
   simp only [fP, tnF, dt, cr]; grind
theorem mr_img : Img (mrF 1) swp (fun p => sw23 (fP mrF 1 p)) where
 t0 := rfl
 inj := fun p q h => by unfold mrF at h; simp only [Prod.mk.injEq] at h; exact Prod.ext (by omega) (Prod.ext (by omega) (by omega))
 tb := mr_bd
 ph := .inr rfl
 pan := fun m c => by unfold F101; simp only [getD_map0 (mrF 1) rfl, swp]; rfl
 gv := fun p h => vp_sw (vp_of (show bdP 64 (fP mrF 1 p) from ⟨(mr_bd _).2 (vp_ok h).1.1, (mr_bd _).2 (vp_ok h).1.2.1, (mr_bd _).2 (vp_ok h).1.2.2⟩) (mr_iso.nor p) h)
 vol := fun p h => by
   rw [prod3_f (p := sw23 (fP mrF 1 p)) ⟨(mr_bd _).2 h.1, (mr_bd _).2 h.2.2, (mr_bd _).2 h.2.1⟩, prod3_f h]
   simp only [sw23, fP, mrF, dt, cr]; grind
theorem turn_ok {m : ME} (hv : F35 m = 0) : F13 m = ((m.1.map (tnF 1), m.2), 0) := by
 have e : m.1.map F40 = m.1.map (tnF 1) := List.map_congr_left fun p hp => by
   have := pts_all hv p hp
   unfold bd at this
   unfold F40 tnF
   rw [W_eq (by omega) (by omega), Int.zero_sub]
 have hi := img_val tn_img hv
 rw [List.map_id] at hi
 unfold F13
 rw [show ((F35 (m.1, m.2) : Int) != 0) = false from bne_eq_false_iff_eq.2 hv, cond_false, chg_turn]
 unfold chgV
 simp only [e]
 rw [hi]; rfl
theorem mirror_ok {m : ME} (hv : F35 m = 0) : F14 m = ((m.1.map (mrF 1), m.2.map swp), 0) := by
 have e : m.1.map F41 = m.1.map (mrF 1) := List.map_congr_left fun p hp => by
   have := pts_all hv p hp
   unfold bd at this
   unfold F41 mrF
   rw [W_eq (by omega) (by omega), Int.zero_sub]
 have hi := img_val mr_img hv
 unfold F14
 rw [show ((F35 (m.1, m.2) : Int) != 0) = false from bne_eq_false_iff_eq.2 hv, cond_false, chg_mirror]
 unfold chgV
 simp only [e]
 rw [hi]; rfl
theorem keep_mr : keeps (fun p => sw23 (fP mrF 1 p)) := by
 intro p q d hd hp hq hp' hq'
 have h1 : vp (fP mrF 1 p) = 0 := vp_sw hp'
 have h2 : vp (fP mrF 1 q) = 0 := vp_sw hq'
 have a := keep_iso mr_iso p q d hd hp hq h1 h2
 have b := keep_sw (fP mrF 1 p) (fP mrF 1 q) d hd h1 h2 hp' hq'
 exact ⟨b.1.trans a.1, b.2.trans a.2⟩

end Go.Proofs.YtaeagjnpobdglaaGreat
