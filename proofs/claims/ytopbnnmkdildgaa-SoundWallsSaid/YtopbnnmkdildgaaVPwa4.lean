/-
  Parts of the proofs of the laws: the executor, what functions of the program compute, and that it is what the statements ask. No premise.
-/
import Derived.Test.YtopbnnmkdildgaaVPwa3
namespace Go.Proofs.Ytopbnnmkdildgaa
open Go.Proofs Go.Aw Go.RowKit
set_option maxRecDepth 100000
set_option linter.unusedVariables false
set_option linter.unusedSimpArgs false

theorem vpL_get {l : List PU} (h : vpL l = 0) {i : Nat} (hi : i < l.length) : POK (l.getD i default) := by
  have : l.getD i default = l[i] := by rw [List.getD_eq_getElem?_getD, List.getElem?_eq_getElem hi]; rfl
  rw [this]
  exact (vpL_ok h).2 _ (List.getElem_mem hi)
theorem ckL_v {l : List PU} {b : Bool} (h : ((F53_L l b : Int) != 0) = false) : vpL l = 0 := by
  have := (chkL_0 h).1
  rw [vpl_f] at this; exact this
theorem ckL_b {l : List PU} {b : Bool} (h : ((F53_L l b : Int) != 0) = false) : b = true := (chkL_0 h).2

/-- facet/sound.scene$1 -/
def F99 (a0 : ((Int × Int × Int) × (Int × Int × Int) × Int × Int × Int) × Int × Int) (a1 : Int × Int × Int) (a2 : Int) (a3 : Int) (a4 : Int) : (Int × Int) × Int :=
  ((F61 a0 a1 a2 a3 a4).1, (F61 a0 a1 a2 a3 a4).2)

theorem C99 (a0 : ((Int × Int × Int) × (Int × Int × Int) × Int × Int × Int) × Int × Int) (a1 : Int × Int × Int) (a2 : Int) (a3 : Int) (a4 : Int) (hp : POK a0) (hx : bd 256 a1) (hs : 1 ≤ a2 ∧ a2 ≤ 16) (ht : 0 ≤ a3 ∧ a3 ≤ 2000) (hd : 0 ≤ a4 ∧ a4 ≤ 3) : Con Try.prog 99 [(.a [(iv a0.1.1.1), (iv a0.1.1.2.1), (iv a0.1.1.2.2), (iv a0.1.2.1.1), (iv a0.1.2.1.2.1), (iv a0.1.2.1.2.2), (iv a0.1.2.2.1), (iv a0.1.2.2.2.1), (iv a0.1.2.2.2.2), (iv a0.2.1), (iv a0.2.2)]), (.p 0 0), (.p 1 0), (.p 2 0), (.p 3 0)] [(.live false false (k3 a1)), (.live false false [(iv a2)]), (.live false false [(iv a3)]), (.live false false [(iv a4)])] (.t [(.a (k2 (F99 a0 a1 a2 a3 a4).1)), (iv (F99 a0 a1 a2 a3 a4).2)]) [] := by
  have e : (F99 a0 a1 a2 a3 a4) = ((F61 a0 a1 a2 a3 a4).1, (F61 a0 a1 a2 a3 a4).2) := by simp only [F99]
  rw [e]
  refine con_of (n := 9) Try.func99 rfl (ent Try.func99 (by kernel_rfl) rfl) (by show 5 ≤ Try.f99.ntmps; decide) (by kernel_rfl) ⟨rfl, rfl, rfl, rfl, trivial⟩ (fun cx hcx => ?_)
  exact ret_of (T := T0) hT hm (f := 5000) (orc := [.call [] (.t [(.a (k2 (F61 a0 a1 a2 a3 a4).1)), (iv (F61 a0 a1 a2 a3 a4).2)]) []]) [] [] [] hcx
    (obs := [.call 61 [(.a [(iv a0.1.1.1), (iv a0.1.1.2.1), (iv a0.1.1.2.2), (iv a0.1.2.1.1), (iv a0.1.2.1.2.1), (iv a0.1.2.1.2.2), (iv a0.1.2.2.1), (iv a0.1.2.2.2.1), (iv a0.1.2.2.2.2), (iv a0.2.1), (iv a0.2.2)]), (.a (k3 a1)), (iv a2), (iv a3), (iv a4)] [] (.t [(.a (k2 (F61 a0 a1 a2 a3 a4).1)), (iv (F61 a0 a1 a2 a3 a4).2)]) []]) (by kernel_rfl) ⟨(C61 a0 a1 a2 a3 a4  hp hx hs ht hd), trivial⟩

noncomputable def B98_L_c99_0 : Code := (loopAtD [1, 1, 0, 1] [] (Try.f98.body.getD .skip) []).1
noncomputable def K98_L_c99_0 : List K := (loopAtD [1, 1, 0, 1] [] (Try.f98.body.getD .skip) []).2

/-- a round of loop 0 of facet/sound.sum; the variables: v2 = s6, v3 = s13 -/
def S98_L_c99_0 (a0 : List (((Int × Int × Int) × (Int × Int × Int) × Int × Int × Int) × Int × Int)) (a1_0 : Int × Int × Int) (a1_1 : Int) (a1_2 : Int) (a1_3 : Int) : (List (Int × Int)) × Int → ((List (Int × Int)) × Int) ⊕ ((Int × Int) × Int)
  | (v2, v3) =>
   (bif (decide ((v3 : Int) < ((a0.length : Nat) : Int))) then
    (bif (((F99 (a0.getD (Int.toNat v3) default) a1_0 a1_1 a1_2 a1_3).2 : Int) != 0) then
     (.inr ((0, 0), (F99 (a0.getD (Int.toNat v3) default) a1_0 a1_1 a1_2 a1_3).2))
    else
     (.inl ((v2 ++ [(F99 (a0.getD (Int.toNat v3) default) a1_0 a1_1 a1_2 a1_3).1]), (v3 + 1))))
   else
    (.inr ((F44_L v2).1, (F44_L v2).2)))

set_option maxHeartbeats 4000000 in
theorem L98_L_c99_0 (a0 : List (((Int × Int × Int) × (Int × Int × Int) × Int × Int × Int) × Int × Int)) (a1_0 : Int × Int × Int) (a1_1 : Int) (a1_2 : Int) (a1_3 : Int) (l0 : a0.length ≤ 9223372036854775807) (hv : vpL a0 = 0) (hx : bd 256 a1_0) (hs : 1 ≤ a1_1 ∧ a1_1 ≤ 16) (ht : 0 ≤ a1_2 ∧ a1_2 ≤ 2000) (hd : 0 ≤ a1_3 ∧ a1_3 ≤ 3) {cx : Cx} (hcx : cx.base = 5) : ∀ (n : Nat) (v2 : List (Int × Int)) (v3 : Int), (0 ≤ v3) ∧ (v2.length = Int.toNat v3) ∧ (v3 ≤ a0.length) → Int.toNat (((a0.length : Nat) : Int) - v3) < n → Aw.Good Try.prog none 9 (bodyPost Try.prog Try.f98 (RR cx (.t [(.a (k2 (loopF (S98_L_c99_0 a0 a1_0 a1_1 a1_2 a1_3) n (v2, v3)).1)), (iv (loopF (S98_L_c99_0 a0 a1_0 a1_1 a1_2 a1_3) n (v2, v3)).2)]) [] [])) cx [] (.l B98_L_c99_0 n :: K98_L_c99_0) ⟨[.u, (.f 99 [(.p 1 0), (.p 2 0), (.p 3 0), (.p 4 0)]), .u, .u, (.p 5 0), .u, (.s 6 0 v2.length 2), .u, .u, .u, .u, (.s 0 0 a0.length 11), (iv ((a0.length : Nat) : Int)), (iv v3), .u, .u, .u, .u, .u, .u, .u, .u, .u, .u, .u, .u, .u, .u, .u, .u, .u, .u, .u, .u, .u, .u], [(.live false true (flat c41 a0)), (.live false false (k3 a1_0)), (.live false false [(iv a1_1)]), (.live false false [(iv a1_2)]), (.live false false [(iv a1_3)]), (.live true false [(iv 0), (iv 0)]), (.live true true (flat c32 v2))]⟩ := by
  intro n
  induction n with
  | zero => intro v2 v3 hi hn; exact absurd hn (Nat.not_lt_zero _)
  | succ n ih =>
    intro v2 v3 hi hn
    refine good_round ?_
    cases h0 : (decide ((v3 : Int) < ((a0.length : Nat) : Int))) with
    | true =>
      cases h1 : (((F99 (a0.getD (Int.toNat v3) default) a1_0 a1_1 a1_2 a1_3).2 : Int) != 0) with
      | true =>
        have q0 := of_decide_eq_true h0
        have q1 := bne_iff_ne.1 h1
        have hl16 := (vpL_ok hv).1
        have e : S98_L_c99_0 a0 a1_0 a1_1 a1_2 a1_3 (v2, v3) = (.inr ((0, 0), (F99 (a0.getD (Int.toNat v3) default) a1_0 a1_1 a1_2 a1_3).2)) := by simp only [S98_L_c99_0, h0, h1, cond_true, cond_false]
        rw [show loopF (S98_L_c99_0 a0 a1_0 a1_1 a1_2 a1_3) (n + 1) (v2, v3) = thenF (S98_L_c99_0 a0 a1_0 a1_1 a1_2 a1_3) n (S98_L_c99_0 a0 a1_0 a1_1 a1_2 a1_3 (v2, v3)) from rfl, e]
        exact ret_of (T := T0) hT hm (f := 5000) (orc := [.d true, .ld [(iv (a0.getD (Int.toNat v3) default).1.1.1), (iv (a0.getD (Int.toNat v3) default).1.1.2.1), (iv (a0.getD (Int.toNat v3) default).1.1.2.2), (iv (a0.getD (Int.toNat v3) default).1.2.1.1), (iv (a0.getD (Int.toNat v3) default).1.2.1.2.1), (iv (a0.getD (Int.toNat v3) default).1.2.1.2.2), (iv (a0.getD (Int.toNat v3) default).1.2.2.1), (iv (a0.getD (Int.toNat v3) default).1.2.2.2.1), (iv (a0.getD (Int.toNat v3) default).1.2.2.2.2), (iv (a0.getD (Int.toNat v3) default).2.1), (iv (a0.getD (Int.toNat v3) default).2.2)], .call [1, 2, 3, 4] (.t [(.a (k2 (F99 (a0.getD (Int.toNat v3) default) a1_0 a1_1 a1_2 a1_3).1)), (iv (F99 (a0.getD (Int.toNat v3) default) a1_0 a1_1 a1_2 a1_3).2)]) [], .d true]) [] [] [] hcx
          (obs := [.eq (decide ((v3 : Int) < ((a0.length : Nat) : Int))) true, .pr (0 ≤ (v3 : Int) ∧ (v3 : Int) < ((a0.length : Nat) : Int)), .pr (((((flat c41 a0)).drop (0 + Int.toNat v3 * 11)).take 11) = [(iv (a0.getD (Int.toNat v3) default).1.1.1), (iv (a0.getD (Int.toNat v3) default).1.1.2.1), (iv (a0.getD (Int.toNat v3) default).1.1.2.2), (iv (a0.getD (Int.toNat v3) default).1.2.1.1), (iv (a0.getD (Int.toNat v3) default).1.2.1.2.1), (iv (a0.getD (Int.toNat v3) default).1.2.1.2.2), (iv (a0.getD (Int.toNat v3) default).1.2.2.1), (iv (a0.getD (Int.toNat v3) default).1.2.2.2.1), (iv (a0.getD (Int.toNat v3) default).1.2.2.2.2), (iv (a0.getD (Int.toNat v3) default).2.1), (iv (a0.getD (Int.toNat v3) default).2.2)]), .call 99 [(.a [(iv (a0.getD (Int.toNat v3) default).1.1.1), (iv (a0.getD (Int.toNat v3) default).1.1.2.1), (iv (a0.getD (Int.toNat v3) default).1.1.2.2), (iv (a0.getD (Int.toNat v3) default).1.2.1.1), (iv (a0.getD (Int.toNat v3) default).1.2.1.2.1), (iv (a0.getD (Int.toNat v3) default).1.2.1.2.2), (iv (a0.getD (Int.toNat v3) default).1.2.2.1), (iv (a0.getD (Int.toNat v3) default).1.2.2.2.1), (iv (a0.getD (Int.toNat v3) default).1.2.2.2.2), (iv (a0.getD (Int.toNat v3) default).2.1), (iv (a0.getD (Int.toNat v3) default).2.2)]), (.p 0 0), (.p 1 0), (.p 2 0), (.p 3 0)] [(.live false false (k3 a1_0)), (.live false false [(iv a1_1)]), (.live false false [(iv a1_2)]), (.live false false [(iv a1_3)])] (.t [(.a (k2 (F99 (a0.getD (Int.toNat v3) default) a1_0 a1_1 a1_2 a1_3).1)), (iv (F99 (a0.getD (Int.toNat v3) default) a1_0 a1_1 a1_2 a1_3).2)]) [], .eq (((F99 (a0.getD (Int.toNat v3) default) a1_0 a1_1 a1_2 a1_3).2 : Int) != 0) true]) (by kernel_rfl) ⟨h0, (show 0 ≤ (v3 : Int) ∧ (v3 : Int) < ((a0.length : Nat) : Int) from by first | omega | (rw [W_eq] <;> omega) | exact u64_nn _), (ld_part c41_len default a0 v3 0 11 (by omega) (by decide) (by omega) rfl), (C99 (a0.getD (Int.toNat v3) default) a1_0 a1_1 a1_2 a1_3  (vpL_get hv (by omega)) hx hs ht hd), h1, trivial⟩
      | false =>
        have q0 := of_decide_eq_true h0
        have q1 := bne_eq_false_iff_eq.1 h1
        have hl16 := (vpL_ok hv).1
        have e : S98_L_c99_0 a0 a1_0 a1_1 a1_2 a1_3 (v2, v3) = (.inl ((v2 ++ [(F99 (a0.getD (Int.toNat v3) default) a1_0 a1_1 a1_2 a1_3).1]), (v3 + 1))) := by simp only [S98_L_c99_0, h0, h1, cond_true, cond_false]
        rw [loopF_inl e]
        refine back_of (T := T0) hT hm (f := 5000) (orc := [.d true, .ld [(iv (a0.getD (Int.toNat v3) default).1.1.1), (iv (a0.getD (Int.toNat v3) default).1.1.2.1), (iv (a0.getD (Int.toNat v3) default).1.1.2.2), (iv (a0.getD (Int.toNat v3) default).1.2.1.1), (iv (a0.getD (Int.toNat v3) default).1.2.1.2.1), (iv (a0.getD (Int.toNat v3) default).1.2.1.2.2), (iv (a0.getD (Int.toNat v3) default).1.2.2.1), (iv (a0.getD (Int.toNat v3) default).1.2.2.2.1), (iv (a0.getD (Int.toNat v3) default).1.2.2.2.2), (iv (a0.getD (Int.toNat v3) default).2.1), (iv (a0.getD (Int.toNat v3) default).2.2)], .call [1, 2, 3, 4] (.t [(.a (k2 (F99 (a0.getD (Int.toNat v3) default) a1_0 a1_1 a1_2 a1_3).1)), (iv (F99 (a0.getD (Int.toNat v3) default) a1_0 a1_1 a1_2 a1_3).2)]) [], .d false]) [] [1, 4, 6, 11, 12, 13] [5, 10] hcx (body := B98_L_c99_0) (m := n) (k' := K98_L_c99_0) (s' := ⟨[.u, (.f 99 [(.p 1 0), (.p 2 0), (.p 3 0), (.p 4 0)]), .u, .u, (.p 5 0), .u, (.s 6 0 (v2.length + 1) 2), .u, .u, .u, .u, (.s 0 0 a0.length 11), (iv ((a0.length : Nat) : Int)), (iv (W (v3 + 1))), .u, .u, .u, .u, .u, .u, .u, .u, .u, .u, .u, .u, .u, .u, .u, .u, .u, .u, .u, .u, .u, .u], [(.live false true (flat c41 a0)), (.live false false (k3 a1_0)), (.live false false [(iv a1_1)]), (.live false false [(iv a1_2)]), (.live false false [(iv a1_3)]), (.live true false [(iv 0), (iv 0)]), (.live true true (flat c32 v2 ++ (k2 (F99 (a0.getD (Int.toNat v3) default) a1_0 a1_1 a1_2 a1_3).1)))]⟩)
          (obs := [.eq (decide ((v3 : Int) < ((a0.length : Nat) : Int))) true, .pr (0 ≤ (v3 : Int) ∧ (v3 : Int) < ((a0.length : Nat) : Int)), .pr (((((flat c41 a0)).drop (0 + Int.toNat v3 * 11)).take 11) = [(iv (a0.getD (Int.toNat v3) default).1.1.1), (iv (a0.getD (Int.toNat v3) default).1.1.2.1), (iv (a0.getD (Int.toNat v3) default).1.1.2.2), (iv (a0.getD (Int.toNat v3) default).1.2.1.1), (iv (a0.getD (Int.toNat v3) default).1.2.1.2.1), (iv (a0.getD (Int.toNat v3) default).1.2.1.2.2), (iv (a0.getD (Int.toNat v3) default).1.2.2.1), (iv (a0.getD (Int.toNat v3) default).1.2.2.2.1), (iv (a0.getD (Int.toNat v3) default).1.2.2.2.2), (iv (a0.getD (Int.toNat v3) default).2.1), (iv (a0.getD (Int.toNat v3) default).2.2)]), .call 99 [(.a [(iv (a0.getD (Int.toNat v3) default).1.1.1), (iv (a0.getD (Int.toNat v3) default).1.1.2.1), (iv (a0.getD (Int.toNat v3) default).1.1.2.2), (iv (a0.getD (Int.toNat v3) default).1.2.1.1), (iv (a0.getD (Int.toNat v3) default).1.2.1.2.1), (iv (a0.getD (Int.toNat v3) default).1.2.1.2.2), (iv (a0.getD (Int.toNat v3) default).1.2.2.1), (iv (a0.getD (Int.toNat v3) default).1.2.2.2.1), (iv (a0.getD (Int.toNat v3) default).1.2.2.2.2), (iv (a0.getD (Int.toNat v3) default).2.1), (iv (a0.getD (Int.toNat v3) default).2.2)]), (.p 0 0), (.p 1 0), (.p 2 0), (.p 3 0)] [(.live false false (k3 a1_0)), (.live false false [(iv a1_1)]), (.live false false [(iv a1_2)]), (.live false false [(iv a1_3)])] (.t [(.a (k2 (F99 (a0.getD (Int.toNat v3) default) a1_0 a1_1 a1_2 a1_3).1)), (iv (F99 (a0.getD (Int.toNat v3) default) a1_0 a1_1 a1_2 a1_3).2)]) [], .eq (((F99 (a0.getD (Int.toNat v3) default) a1_0 a1_1 a1_2 a1_3).2 : Int) != 0) false, .pr ((flat c32 v2).length = v2.length * 2 ∧ v2.length + 1 ≤ 2 ^ 40 ∧ (v2.length + 1) * 16 ≤ 2 ^ 47)]) (by kernel_rfl) ⟨h0, (show 0 ≤ (v3 : Int) ∧ (v3 : Int) < ((a0.length : Nat) : Int) from by first | omega | (rw [W_eq] <;> omega) | exact u64_nn _), (ld_part c41_len default a0 v3 0 11 (by omega) (by decide) (by omega) rfl), (C99 (a0.getD (Int.toNat v3) default) a1_0 a1_1 a1_2 a1_3  (vpL_get hv (by omega)) hx hs ht hd), h1, (app_ok c32_len (by omega) (by omega)), trivial⟩ ?_
        have z0 : (W (v3 + 1)) = (v3 + 1) := W_eq (by omega) (by omega)
        have z1 : (flat c32 v2 ++ (k2 (F99 (a0.getD (Int.toNat v3) default) a1_0 a1_1 a1_2 a1_3).1)) = (flat c32 (v2 ++ [(F99 (a0.getD (Int.toNat v3) default) a1_0 a1_1 a1_2 a1_3).1])) := (flat_append (c := c32) (l := v2) (m := [(F99 (a0.getD (Int.toNat v3) default) a1_0 a1_1 a1_2 a1_3).1])).symm
        have z2 : (v2.length + 1) = (v2 ++ [(F99 (a0.getD (Int.toNat v3) default) a1_0 a1_1 a1_2 a1_3).1]).length := len_app v2 [(F99 (a0.getD (Int.toNat v3) default) a1_0 a1_1 a1_2 a1_3).1] rfl
        rw [z0, z1, z2]
        exact ih (v2 ++ [(F99 (a0.getD (Int.toNat v3) default) a1_0 a1_1 a1_2 a1_3).1]) (v3 + 1) (by refine ⟨?_, ?_, ?_⟩ <;> (try simp only [List.length_append, List.length_cons, List.length_nil, Int.toNat_zero]) <;> first | omega | simp) (by (try simp only [List.length_append, List.length_cons, List.length_nil, Int.toNat_zero]); omega)
    | false =>
      have q0 := of_decide_eq_false h0
      have hl16 := (vpL_ok hv).1
      have e : S98_L_c99_0 a0 a1_0 a1_1 a1_2 a1_3 (v2, v3) = (.inr ((F44_L v2).1, (F44_L v2).2)) := by simp only [S98_L_c99_0, h0, cond_true, cond_false]
      rw [show loopF (S98_L_c99_0 a0 a1_0 a1_1 a1_2 a1_3) (n + 1) (v2, v3) = thenF (S98_L_c99_0 a0 a1_0 a1_1 a1_2 a1_3) n (S98_L_c99_0 a0 a1_0 a1_1 a1_2 a1_3 (v2, v3)) from rfl, e]
      exact ret_of (T := T0) hT hm (f := 5000) (orc := [.d false, .call [6] (.t [(.a (k2 (F44_L v2).1)), (iv (F44_L v2).2)]) []]) [] [] [] hcx
        (obs := [.eq (decide ((v3 : Int) < ((a0.length : Nat) : Int))) false, .call 44 [(.s 0 0 v2.length 2)] [(.live false true (flat c32 v2))] (.t [(.a (k2 (F44_L v2).1)), (iv (F44_L v2).2)]) []]) (by kernel_rfl) ⟨h0, (C44_L v2 (by (try simp only [List.length_append, List.length_cons, List.length_nil, Int.toNat_zero]); omega)), trivial⟩

/-- facet/sound.sum at ('L', 'c99') -/
def F98_L_c99 (a0 : List (((Int × Int × Int) × (Int × Int × Int) × Int × Int × Int) × Int × Int)) (a1_0 : Int × Int × Int) (a1_1 : Int) (a1_2 : Int) (a1_3 : Int) : (Int × Int) × Int :=
  (loopF (S98_L_c99_0 a0 a1_0 a1_1 a1_2 a1_3) (Int.toNat (((a0.length : Nat) : Int) - 0) + 1) (([] : List (Int × Int)), 0))

theorem C98_L_c99 (a0 : List (((Int × Int × Int) × (Int × Int × Int) × Int × Int × Int) × Int × Int)) (a1_0 : Int × Int × Int) (a1_1 : Int) (a1_2 : Int) (a1_3 : Int) (l0 : a0.length ≤ 9223372036854775807) (hv : vpL a0 = 0) (hx : bd 256 a1_0) (hs : 1 ≤ a1_1 ∧ a1_1 ≤ 16) (ht : 0 ≤ a1_2 ∧ a1_2 ≤ 2000) (hd : 0 ≤ a1_3 ∧ a1_3 ≤ 3) : Con Try.prog 98 [(.s 0 0 a0.length 11), (.f 99 [(.p 1 0), (.p 2 0), (.p 3 0), (.p 4 0)])] [(.live false true (flat c41 a0)), (.live false false (k3 a1_0)), (.live false false [(iv a1_1)]), (.live false false [(iv a1_2)]), (.live false false [(iv a1_3)])] (.t [(.a (k2 (F98_L_c99 a0 a1_0 a1_1 a1_2 a1_3).1)), (iv (F98_L_c99 a0 a1_0 a1_1 a1_2 a1_3).2)]) [] := by
  have e : (F98_L_c99 a0 a1_0 a1_1 a1_2 a1_3) = (loopF (S98_L_c99_0 a0 a1_0 a1_1 a1_2 a1_3) (Int.toNat (((a0.length : Nat) : Int) - 0) + 1) (([] : List (Int × Int)), 0)) := by simp only [F98_L_c99]
  rw [e]
  refine con_of (n := 9) Try.func98 rfl (ent Try.func98 (by kernel_rfl) rfl) (by show 2 ≤ Try.f98.ntmps; decide) (by kernel_rfl) ⟨rfl, rfl, rfl, rfl, rfl, trivial⟩ (fun cx hcx => ?_)
  refine enter_of (T := T0) hT hm (f := 5000) (orc := []) [.slot 6 2] [1, 4, 6, 11, 12, 13] [5, 6] hcx (body := B98_L_c99_0) (k' := K98_L_c99_0) (s' := ⟨[.u, (.f 99 [(.p 1 0), (.p 2 0), (.p 3 0), (.p 4 0)]), .u, .u, (.p 5 0), .u, (.s 6 0 0 2), .u, .u, .u, .u, (.s 0 0 a0.length 11), (iv ((a0.length : Nat) : Int)), (iv 0), .u, .u, .u, .u, .u, .u, .u, .u, .u, .u, .u, .u, .u, .u, .u, .u, .u, .u, .u, .u, .u, .u], [(.live false true (flat c41 a0)), (.live false false (k3 a1_0)), (.live false false [(iv a1_1)]), (.live false false [(iv a1_2)]), (.live false false [(iv a1_3)]), (.live true false [(iv 0), (iv 0)]), (.live true true (flat c32 ([] : List (Int × Int))))]⟩)
    (obs := []) (by kernel_rfl) trivial ⟨Int.toNat (((a0.length : Nat) : Int) - 0) + 1, ?_⟩
  exact L98_L_c99_0 a0 a1_0 a1_1 a1_2 a1_3 l0 hv hx hs ht hd hcx (Int.toNat (((a0.length : Nat) : Int) - 0) + 1) ([] : List (Int × Int)) 0 (by refine ⟨?_, ?_, ?_⟩ <;> (try simp only [List.length_append, List.length_cons, List.length_nil, Int.toNat_zero]) <;> first | omega | simp) (by (try simp only [List.length_append, List.length_cons, List.length_nil, Int.toNat_zero]); omega)

/-- facet/sound.scene at ('L',) -/
def F71_L (a0 : List (((Int × Int × Int) × (Int × Int × Int) × Int × Int × Int) × Int × Int)) (a1 : Int × Int × Int) (a2 : Int) (a3 : Int) (a4 : Int) : (Int × Int) × Int :=
  ((F98_L_c99 a0 a1 a2 a3 a4).1, (F98_L_c99 a0 a1 a2 a3 a4).2)

theorem C71_L (a0 : List (((Int × Int × Int) × (Int × Int × Int) × Int × Int × Int) × Int × Int)) (a1 : Int × Int × Int) (a2 : Int) (a3 : Int) (a4 : Int) (l0 : a0.length ≤ 9223372036854775807) (hv : vpL a0 = 0) (hx : bd 256 a1) (hs : 1 ≤ a2 ∧ a2 ≤ 16) (ht : 0 ≤ a3 ∧ a3 ≤ 2000) (hd : 0 ≤ a4 ∧ a4 ≤ 3) : Con Try.prog 71 [(.s 0 0 a0.length 11), (.a (k3 a1)), (iv a2), (iv a3), (iv a4)] [(.live false true (flat c41 a0))] (.t [(.a (k2 (F71_L a0 a1 a2 a3 a4).1)), (iv (F71_L a0 a1 a2 a3 a4).2)]) [] := by
  have e : (F71_L a0 a1 a2 a3 a4) = ((F98_L_c99 a0 a1 a2 a3 a4).1, (F98_L_c99 a0 a1 a2 a3 a4).2) := by simp only [F71_L]
  rw [e]
  refine con_of (n := 9) Try.func71 rfl (ent Try.func71 (by kernel_rfl) rfl) (by show 5 ≤ Try.f71.ntmps; decide) (by kernel_rfl) ⟨rfl, trivial⟩ (fun cx hcx => ?_)
  exact ret_of (T := T0) hT hm (f := 5000) (orc := [.call [0, 1, 2, 3, 4] (.t [(.a (k2 (F98_L_c99 a0 a1 a2 a3 a4).1)), (iv (F98_L_c99 a0 a1 a2 a3 a4).2)]) []]) [] [] [] hcx
    (obs := [.call 98 [(.s 0 0 a0.length 11), (.f 99 [(.p 1 0), (.p 2 0), (.p 3 0), (.p 4 0)])] [(.live false true (flat c41 a0)), (.live false false (k3 a1)), (.live false false [(iv a2)]), (.live false false [(iv a3)]), (.live false false [(iv a4)])] (.t [(.a (k2 (F98_L_c99 a0 a1 a2 a3 a4).1)), (iv (F98_L_c99 a0 a1 a2 a3 a4).2)]) []]) (by kernel_rfl) ⟨(C98_L_c99 a0 a1 a2 a3 a4 (by (try simp only [List.length_append, List.length_cons, List.length_nil, Int.toNat_zero]); omega) hv hx hs ht hd), trivial⟩

/-- facet/sound.Scene at ('L',) -/
def F32_L (a0 : List (((Int × Int × Int) × (Int × Int × Int) × Int × Int × Int) × Int × Int)) (a1 : Int × Int × Int) (a2 : Int) (a3 : Int) (a4 : Int) : (Int × Int) × Int :=
  (bif (F45 a1) then
   (bif (F46 a2) then
    (bif (F59 a3) then
     (bif (((F53_L a0 (F60 a4)) : Int) != 0) then
      ((0, 0), (F53_L a0 (F60 a4)))
     else
      ((F71_L a0 a1 a2 a3 a4).1, (F71_L a0 a1 a2 a3 a4).2))
    else
     (bif (((F53_L a0 false) : Int) != 0) then
      ((0, 0), (F53_L a0 false))
     else
      ((F71_L a0 a1 a2 a3 a4).1, (F71_L a0 a1 a2 a3 a4).2)))
   else
    (bif (((F53_L a0 false) : Int) != 0) then
     ((0, 0), (F53_L a0 false))
    else
     ((F71_L a0 a1 a2 a3 a4).1, (F71_L a0 a1 a2 a3 a4).2)))
  else
   (bif (((F53_L a0 false) : Int) != 0) then
    ((0, 0), (F53_L a0 false))
   else
    ((F71_L a0 a1 a2 a3 a4).1, (F71_L a0 a1 a2 a3 a4).2)))

noncomputable def oC32_L_0 (a0 : List (((Int × Int × Int) × (Int × Int × Int) × Int × Int × Int) × Int × Int)) (a1 : Int × Int × Int) (a2 : Int) (a3 : Int) (a4 : Int) : Or := .call [0] (.t [(.a (k2 (F71_L a0 a1 a2 a3 a4).1)), (iv (F71_L a0 a1 a2 a3 a4).2)]) []
noncomputable def oC32_L_1 (a0 : List (((Int × Int × Int) × (Int × Int × Int) × Int × Int × Int) × Int × Int)) (a1 : Int × Int × Int) (a2 : Int) (a3 : Int) (a4 : Int) : Ob := .call 71 [(.s 0 0 a0.length 11), (.a (k3 a1)), (iv a2), (iv a3), (iv a4)] [(.live false true (flat c41 a0))] (.t [(.a (k2 (F71_L a0 a1 a2 a3 a4).1)), (iv (F71_L a0 a1 a2 a3 a4).2)]) []
noncomputable def oC32_L_2 (a0 : List (((Int × Int × Int) × (Int × Int × Int) × Int × Int × Int) × Int × Int)) : Ob := .call 53 [(.s 0 0 a0.length 11), (.v (.bool false))] [(.live false true (flat c41 a0))] (iv (F53_L a0 false)) []
theorem C32_L (a0 : List (((Int × Int × Int) × (Int × Int × Int) × Int × Int × Int) × Int × Int)) (a1 : Int × Int × Int) (a2 : Int) (a3 : Int) (a4 : Int) (l0 : a0.length ≤ 9223372036854775807) : Con Try.prog 32 [(.s 0 0 a0.length 11), (.a (k3 a1)), (iv a2), (iv a3), (iv a4)] [(.live false true (flat c41 a0))] (.t [(.a (k2 (F32_L a0 a1 a2 a3 a4).1)), (iv (F32_L a0 a1 a2 a3 a4).2)]) [] := by
  cases h0 : (F45 a1) with
  | true =>
    cases h1 : (F46 a2) with
    | true =>
      cases h2 : (F59 a3) with
      | true =>
        cases h3 : (((F53_L a0 (F60 a4)) : Int) != 0) with
        | true =>
          have q3 := bne_iff_ne.1 h3
          have e : (F32_L a0 a1 a2 a3 a4) = ((0, 0), (F53_L a0 (F60 a4))) := by simp only [F32_L, h0, h1, h2, h3, cond_true, cond_false]
          rw [e]
          refine con_of (n := 9) Try.func32 rfl (ent Try.func32 (by kernel_rfl) rfl) (by show 5 ≤ Try.f32.ntmps; decide) (by kernel_rfl) ⟨rfl, trivial⟩ (fun cx hcx => ?_)
          exact ret_of (T := T0) hT hm (f := 5000) (orc := [.call [] (.v (.bool (F45 a1))) [], .d true, .call [] (.v (.bool (F46 a2))) [], .d true, .call [] (.v (.bool (F59 a3))) [], .d true, .call [] (.v (.bool (F60 a4))) [], .call [0] (iv (F53_L a0 (F60 a4))) [], .d true]) [] [] [] hcx
            (obs := [.call 45 [(.a (k3 a1))] [] (.v (.bool (F45 a1))) [], .eq (F45 a1) true, .call 46 [(iv a2)] [] (.v (.bool (F46 a2))) [], .eq (F46 a2) true, .call 59 [(iv a3)] [] (.v (.bool (F59 a3))) [], .eq (F59 a3) true, .call 60 [(iv a4)] [] (.v (.bool (F60 a4))) [], .call 53 [(.s 0 0 a0.length 11), (.v (.bool (F60 a4)))] [(.live false true (flat c41 a0))] (iv (F53_L a0 (F60 a4))) [], .eq (((F53_L a0 (F60 a4)) : Int) != 0) true]) (by kernel_rfl) ⟨(C45 a1), h0, (C46 a2), h1, (C59 a3), h2, (C60 a4), (C53_L a0 (F60 a4) (by (try simp only [List.length_append, List.length_cons, List.length_nil, Int.toNat_zero]); omega)), h3, trivial⟩
        | false =>
          have q3 := bne_eq_false_iff_eq.1 h3
          have e : (F32_L a0 a1 a2 a3 a4) = ((F71_L a0 a1 a2 a3 a4).1, (F71_L a0 a1 a2 a3 a4).2) := by simp only [F32_L, h0, h1, h2, h3, cond_true, cond_false]
          rw [e]
          refine con_of (n := 9) Try.func32 rfl (ent Try.func32 (by kernel_rfl) rfl) (by show 5 ≤ Try.f32.ntmps; decide) (by kernel_rfl) ⟨rfl, trivial⟩ (fun cx hcx => ?_)
          exact ret_of (T := T0) hT hm (f := 5000) (orc := [.call [] (.v (.bool (F45 a1))) [], .d true, .call [] (.v (.bool (F46 a2))) [], .d true, .call [] (.v (.bool (F59 a3))) [], .d true, .call [] (.v (.bool (F60 a4))) [], .call [0] (iv (F53_L a0 (F60 a4))) [], .d false, (oC32_L_0 a0 a1 a2 a3 a4)]) [] [] [] hcx
            (obs := [.call 45 [(.a (k3 a1))] [] (.v (.bool (F45 a1))) [], .eq (F45 a1) true, .call 46 [(iv a2)] [] (.v (.bool (F46 a2))) [], .eq (F46 a2) true, .call 59 [(iv a3)] [] (.v (.bool (F59 a3))) [], .eq (F59 a3) true, .call 60 [(iv a4)] [] (.v (.bool (F60 a4))) [], .call 53 [(.s 0 0 a0.length 11), (.v (.bool (F60 a4)))] [(.live false true (flat c41 a0))] (iv (F53_L a0 (F60 a4))) [], .eq (((F53_L a0 (F60 a4)) : Int) != 0) false, (oC32_L_1 a0 a1 a2 a3 a4)]) (by kernel_rfl) ⟨(C45 a1), h0, (C46 a2), h1, (C59 a3), h2, (C60 a4), (C53_L a0 (F60 a4) (by (try simp only [List.length_append, List.length_cons, List.length_nil, Int.toNat_zero]); omega)), h3, (C71_L a0 a1 a2 a3 a4 (by (try simp only [List.length_append, List.length_cons, List.length_nil, Int.toNat_zero]); omega) (by first | exact ckL_v h1 | exact ckL_v h2 | exact ckL_v h3) (by first | exact isp_p h0 | exact absurd (ckL_b h1) (by decide) | exact absurd (ckL_b h2) (by decide) | exact absurd (ckL_b h3) (by decide)) (by first | exact iss_p h1 | exact absurd (ckL_b h1) (by decide) | exact absurd (ckL_b h2) (by decide) | exact absurd (ckL_b h3) (by decide)) (by first | exact ist_p h2 | exact absurd (ckL_b h1) (by decide) | exact absurd (ckL_b h2) (by decide) | exact absurd (ckL_b h3) (by decide)) (by first | exact isd_p (ckL_b h3) | exact absurd (ckL_b h1) (by decide) | exact absurd (ckL_b h2) (by decide) | exact absurd (ckL_b h3) (by decide))), trivial⟩
      | false =>
        cases h3 : (((F53_L a0 false) : Int) != 0) with
        | true =>
          have q3 := bne_iff_ne.1 h3
          have e : (F32_L a0 a1 a2 a3 a4) = ((0, 0), (F53_L a0 false)) := by simp only [F32_L, h0, h1, h2, h3, cond_true, cond_false]
          rw [e]
          refine con_of (n := 9) Try.func32 rfl (ent Try.func32 (by kernel_rfl) rfl) (by show 5 ≤ Try.f32.ntmps; decide) (by kernel_rfl) ⟨rfl, trivial⟩ (fun cx hcx => ?_)
          exact ret_of (T := T0) hT hm (f := 5000) (orc := [.call [] (.v (.bool (F45 a1))) [], .d true, .call [] (.v (.bool (F46 a2))) [], .d true, .call [] (.v (.bool (F59 a3))) [], .d false, .call [0] (iv (F53_L a0 false)) [], .d true]) [] [] [] hcx
            (obs := [.call 45 [(.a (k3 a1))] [] (.v (.bool (F45 a1))) [], .eq (F45 a1) true, .call 46 [(iv a2)] [] (.v (.bool (F46 a2))) [], .eq (F46 a2) true, .call 59 [(iv a3)] [] (.v (.bool (F59 a3))) [], .eq (F59 a3) false, (oC32_L_2 a0), .eq (((F53_L a0 false) : Int) != 0) true]) (by kernel_rfl) ⟨(C45 a1), h0, (C46 a2), h1, (C59 a3), h2, (C53_L a0 false (by (try simp only [List.length_append, List.length_cons, List.length_nil, Int.toNat_zero]); omega)), h3, trivial⟩
        | false =>
          have q3 := bne_eq_false_iff_eq.1 h3
          have e : (F32_L a0 a1 a2 a3 a4) = ((F71_L a0 a1 a2 a3 a4).1, (F71_L a0 a1 a2 a3 a4).2) := by simp only [F32_L, h0, h1, h2, h3, cond_true, cond_false]
          rw [e]
          refine con_of (n := 9) Try.func32 rfl (ent Try.func32 (by kernel_rfl) rfl) (by show 5 ≤ Try.f32.ntmps; decide) (by kernel_rfl) ⟨rfl, trivial⟩ (fun cx hcx => ?_)
          exact ret_of (T := T0) hT hm (f := 5000) (orc := [.call [] (.v (.bool (F45 a1))) [], .d true, .call [] (.v (.bool (F46 a2))) [], .d true, .call [] (.v (.bool (F59 a3))) [], .d false, .call [0] (iv (F53_L a0 false)) [], .d false, (oC32_L_0 a0 a1 a2 a3 a4)]) [] [] [] hcx
            (obs := [.call 45 [(.a (k3 a1))] [] (.v (.bool (F45 a1))) [], .eq (F45 a1) true, .call 46 [(iv a2)] [] (.v (.bool (F46 a2))) [], .eq (F46 a2) true, .call 59 [(iv a3)] [] (.v (.bool (F59 a3))) [], .eq (F59 a3) false, (oC32_L_2 a0), .eq (((F53_L a0 false) : Int) != 0) false, (oC32_L_1 a0 a1 a2 a3 a4)]) (by kernel_rfl) ⟨(C45 a1), h0, (C46 a2), h1, (C59 a3), h2, (C53_L a0 false (by (try simp only [List.length_append, List.length_cons, List.length_nil, Int.toNat_zero]); omega)), h3, (C71_L a0 a1 a2 a3 a4 (by (try simp only [List.length_append, List.length_cons, List.length_nil, Int.toNat_zero]); omega) (by first | exact ckL_v h1 | exact ckL_v h2 | exact ckL_v h3) (by first | exact isp_p h0 | exact absurd (ckL_b h1) (by decide) | exact absurd (ckL_b h2) (by decide) | exact absurd (ckL_b h3) (by decide)) (by first | exact iss_p h1 | exact absurd (ckL_b h1) (by decide) | exact absurd (ckL_b h2) (by decide) | exact absurd (ckL_b h3) (by decide)) (by first | exact ist_p h2 | exact absurd (ckL_b h1) (by decide) | exact absurd (ckL_b h2) (by decide) | exact absurd (ckL_b h3) (by decide)) (by first | exact isd_p (ckL_b h3) | exact absurd (ckL_b h1) (by decide) | exact absurd (ckL_b h2) (by decide) | exact absurd (ckL_b h3) (by decide))), trivial⟩
    | false =>
      cases h2 : (((F53_L a0 false) : Int) != 0) with
      | true =>
        have q2 := bne_iff_ne.1 h2
        have e : (F32_L a0 a1 a2 a3 a4) = ((0, 0), (F53_L a0 false)) := by simp only [F32_L, h0, h1, h2, cond_true, cond_false]
        rw [e]
        refine con_of (n := 9) Try.func32 rfl (ent Try.func32 (by kernel_rfl) rfl) (by show 5 ≤ Try.f32.ntmps; decide) (by kernel_rfl) ⟨rfl, trivial⟩ (fun cx hcx => ?_)
        exact ret_of (T := T0) hT hm (f := 5000) (orc := [.call [] (.v (.bool (F45 a1))) [], .d true, .call [] (.v (.bool (F46 a2))) [], .d false, .call [0] (iv (F53_L a0 false)) [], .d true]) [] [] [] hcx
          (obs := [.call 45 [(.a (k3 a1))] [] (.v (.bool (F45 a1))) [], .eq (F45 a1) true, .call 46 [(iv a2)] [] (.v (.bool (F46 a2))) [], .eq (F46 a2) false, (oC32_L_2 a0), .eq (((F53_L a0 false) : Int) != 0) true]) (by kernel_rfl) ⟨(C45 a1), h0, (C46 a2), h1, (C53_L a0 false (by (try simp only [List.length_append, List.length_cons, List.length_nil, Int.toNat_zero]); omega)), h2, trivial⟩
      | false =>
        have q2 := bne_eq_false_iff_eq.1 h2
        have e : (F32_L a0 a1 a2 a3 a4) = ((F71_L a0 a1 a2 a3 a4).1, (F71_L a0 a1 a2 a3 a4).2) := by simp only [F32_L, h0, h1, h2, cond_true, cond_false]
        rw [e]
        refine con_of (n := 9) Try.func32 rfl (ent Try.func32 (by kernel_rfl) rfl) (by show 5 ≤ Try.f32.ntmps; decide) (by kernel_rfl) ⟨rfl, trivial⟩ (fun cx hcx => ?_)
        exact ret_of (T := T0) hT hm (f := 5000) (orc := [.call [] (.v (.bool (F45 a1))) [], .d true, .call [] (.v (.bool (F46 a2))) [], .d false, .call [0] (iv (F53_L a0 false)) [], .d false, (oC32_L_0 a0 a1 a2 a3 a4)]) [] [] [] hcx
          (obs := [.call 45 [(.a (k3 a1))] [] (.v (.bool (F45 a1))) [], .eq (F45 a1) true, .call 46 [(iv a2)] [] (.v (.bool (F46 a2))) [], .eq (F46 a2) false, (oC32_L_2 a0), .eq (((F53_L a0 false) : Int) != 0) false, (oC32_L_1 a0 a1 a2 a3 a4)]) (by kernel_rfl) ⟨(C45 a1), h0, (C46 a2), h1, (C53_L a0 false (by (try simp only [List.length_append, List.length_cons, List.length_nil, Int.toNat_zero]); omega)), h2, (C71_L a0 a1 a2 a3 a4 (by (try simp only [List.length_append, List.length_cons, List.length_nil, Int.toNat_zero]); omega) (by first | exact ckL_v h1 | exact ckL_v h2 | exact ckL_v h3) (by first | exact isp_p h0 | exact absurd (ckL_b h1) (by decide) | exact absurd (ckL_b h2) (by decide) | exact absurd (ckL_b h3) (by decide)) (by first | exact iss_p h1 | exact absurd (ckL_b h1) (by decide) | exact absurd (ckL_b h2) (by decide) | exact absurd (ckL_b h3) (by decide)) (by first | exact ist_p h2 | exact absurd (ckL_b h1) (by decide) | exact absurd (ckL_b h2) (by decide) | exact absurd (ckL_b h3) (by decide)) (by first | exact isd_p (ckL_b h3) | exact absurd (ckL_b h1) (by decide) | exact absurd (ckL_b h2) (by decide) | exact absurd (ckL_b h3) (by decide))), trivial⟩
  | false =>
    cases h1 : (((F53_L a0 false) : Int) != 0) with
    | true =>
      have q1 := bne_iff_ne.1 h1
      have e : (F32_L a0 a1 a2 a3 a4) = ((0, 0), (F53_L a0 false)) := by simp only [F32_L, h0, h1, cond_true, cond_false]
      rw [e]
      refine con_of (n := 9) Try.func32 rfl (ent Try.func32 (by kernel_rfl) rfl) (by show 5 ≤ Try.f32.ntmps; decide) (by kernel_rfl) ⟨rfl, trivial⟩ (fun cx hcx => ?_)
      exact ret_of (T := T0) hT hm (f := 5000) (orc := [.call [] (.v (.bool (F45 a1))) [], .d false, .call [0] (iv (F53_L a0 false)) [], .d true]) [] [] [] hcx
        (obs := [.call 45 [(.a (k3 a1))] [] (.v (.bool (F45 a1))) [], .eq (F45 a1) false, (oC32_L_2 a0), .eq (((F53_L a0 false) : Int) != 0) true]) (by kernel_rfl) ⟨(C45 a1), h0, (C53_L a0 false (by (try simp only [List.length_append, List.length_cons, List.length_nil, Int.toNat_zero]); omega)), h1, trivial⟩
    | false =>
      have q1 := bne_eq_false_iff_eq.1 h1
      have e : (F32_L a0 a1 a2 a3 a4) = ((F71_L a0 a1 a2 a3 a4).1, (F71_L a0 a1 a2 a3 a4).2) := by simp only [F32_L, h0, h1, cond_true, cond_false]
      rw [e]
      refine con_of (n := 9) Try.func32 rfl (ent Try.func32 (by kernel_rfl) rfl) (by show 5 ≤ Try.f32.ntmps; decide) (by kernel_rfl) ⟨rfl, trivial⟩ (fun cx hcx => ?_)
      exact ret_of (T := T0) hT hm (f := 5000) (orc := [.call [] (.v (.bool (F45 a1))) [], .d false, .call [0] (iv (F53_L a0 false)) [], .d false, (oC32_L_0 a0 a1 a2 a3 a4)]) [] [] [] hcx
        (obs := [.call 45 [(.a (k3 a1))] [] (.v (.bool (F45 a1))) [], .eq (F45 a1) false, (oC32_L_2 a0), .eq (((F53_L a0 false) : Int) != 0) false, (oC32_L_1 a0 a1 a2 a3 a4)]) (by kernel_rfl) ⟨(C45 a1), h0, (C53_L a0 false (by (try simp only [List.length_append, List.length_cons, List.length_nil, Int.toNat_zero]); omega)), h1, (C71_L a0 a1 a2 a3 a4 (by (try simp only [List.length_append, List.length_cons, List.length_nil, Int.toNat_zero]); omega) (by first | exact ckL_v h1 | exact ckL_v h2 | exact ckL_v h3) (by first | exact isp_p h0 | exact absurd (ckL_b h1) (by decide) | exact absurd (ckL_b h2) (by decide) | exact absurd (ckL_b h3) (by decide)) (by first | exact iss_p h1 | exact absurd (ckL_b h1) (by decide) | exact absurd (ckL_b h2) (by decide) | exact absurd (ckL_b h3) (by decide)) (by first | exact ist_p h2 | exact absurd (ckL_b h1) (by decide) | exact absurd (ckL_b h2) (by decide) | exact absurd (ckL_b h3) (by decide)) (by first | exact isd_p (ckL_b h3) | exact absurd (ckL_b h1) (by decide) | exact absurd (ckL_b h2) (by decide) | exact absurd (ckL_b h3) (by decide))), trivial⟩

end Go.Proofs.Ytopbnnmkdildgaa

namespace Go.Proofs.Ytopbnnmkdildgaa
open Go.Proofs Go.Aw Go.RowKit
set_option maxRecDepth 100000
set_option linter.unusedVariables false
set_option linter.unusedSimpArgs false

/-! ### What is heard of all pulses -/
/-- a sum of pulses that are heard stays small -/
def bw (a : Int × Int) : Prop := -53687091300 ≤ a.1 ∧ a.1 ≤ a.2 ∧ a.2 ≤ 53687091300
theorem bw_vs {a : Int × Int} (h : bw a) : vs a := by unfold bw vs at *; omega
theorem sums_le : ∀ {l : List (Int × Int)} {v : Int × Int}, (∀ a ∈ l, okE a) → v.1 ≤ (sums l v).1 ∧ v.2 ≤ (sums l v).2 ∧ (sums l v).2 ≤ v.2 + 536870913 * l.length ∧ (v.1 ≤ v.2 → (sums l v).1 ≤ (sums l v).2)
  | [], v, _ => by simp only [sums, List.length_nil]; omega
  | a :: l, v, h => by
    have ha := h a List.mem_cons_self
    unfold okE at ha
    have ih := sums_le (l := l) (v := (v.1 + a.1, v.2 + a.2)) (fun b hb => h b (List.mem_cons_of_mem _ hb))
    simp only [sums, List.length_cons] at ih ⊢
    omega
theorem avg_small {l : List (Int × Int)} {n : Int} (hn : n = 1 ∨ n = 4 ∨ n = 16 ∨ n = 64) (hl : ∀ a ∈ l, okE a) (hk : ((l.length : Nat) : Int) = n) : okE (avg (sums l (0, 0)) n) := by
  have h := sums_le (v := (0, 0)) hl
  simp only at h
  unfold okE avg
  simp only
  rcases hn with rfl | rfl | rfl | rfl <;> omega
theorem sat_small {x n : Int} (hx : 0 ≤ x ∧ x ≤ 536870913) (hn : -100 ≤ n ∧ n ≤ 100) : sat x n = x * n ∧ -53687091300 ≤ x * n ∧ x * n ≤ 53687091300 := by
  have h := mul_bd (a := 536870913) (b := 100) (x := x) (y := n) ⟨by omega, hx.2⟩ hn
  unfold sat
  refine ⟨?_, by omega, by omega⟩
  rw [if_neg (by omega), if_neg (by omega)]
theorem scl_small {a : Int × Int} {n : Int} (ha : okE a) (hn : -100 ≤ n ∧ n ≤ 100) : bw (scl a n) := by
  unfold okE at ha
  have h1 := sat_small (x := a.1) ⟨ha.1, by omega⟩ hn
  have h2 := sat_small (x := a.2) ⟨by omega, ha.2.2⟩ hn
  unfold bw scl
  by_cases h : n < 0
  · have := sat_anti (n := n) ha.2.1 (by omega)
    rw [if_pos h]; simp only; omega
  · have := sat_mono (n := n) ha.2.1 (by omega)
    rw [if_neg h]; simp only; omega
theorem shG_map (p : PU) (x : P3) (s t d : Int) (k : List PN) : ∀ a ∈ k.map (fun c => (shG p x s t d c).1), okE a := by
  intro a ha
  obtain ⟨c, _, rfl⟩ := List.mem_map.1 ha
  exact shG_ok _ _ _ _ _ _
/-- what is heard of a pulse, without the span's limits -/
noncomputable def hrT (p : PU) (x : P3) (s t d : Int) : (Int × Int) × Int :=
  if t - p.2.1 < 1 then ((0, 0), 0) else out8 (fun l => (scl (avg (sums l (0, 0)) (sc d * sc d)) p.2.2, 0)) (fun e => ((0, 0), e)) (shs (shG p x s t d) (cutL d.toNat p.1) [])
theorem hrS_T {p : PU} {x : P3} {s t d : Int} (hp : POK p) (hd : 0 ≤ d ∧ d ≤ 3) : hrS p x s t d = hrT p x s t d := by
  unfold hrS hrT
  split
  · rfl
  · refine out8_ok (fun _ => ?_)
    have hb := scl_small (avg_small (cnt_in d) (shG_map p x s t d (cutL d.toNat p.1)) (by rw [List.length_map]; exact cnt_len hd p.1)) hp.2.2
    unfold bw at hb
    unfold hrE
    rw [res_f (by omega) (by omega) (by omega)]
theorem hrT_bw {p : PU} {x : P3} {s t d : Int} (hp : POK p) (hd : 0 ≤ d ∧ d ≤ 3) : bw (hrT p x s t d).1 := by
  unfold hrT
  split
  · unfold bw; simp
  · cases e : shs (shG p x s t d) (cutL d.toNat p.1) [] with
    | inr r => unfold bw out8; simp
    | inl m =>
      obtain ⟨h1, _⟩ := shs_inl e
      rw [List.nil_append] at h1
      subst h1
      exact scl_small (avg_small (cnt_in d) (shG_map p x s t d (cutL d.toNat p.1)) (by rw [List.length_map]; exact cnt_len hd p.1)) hp.2.2
theorem sums_bw : ∀ {l : List (Int × Int)} {v : Int × Int}, (∀ a ∈ l, bw a) → v.1 ≤ v.2 → v.1 - 53687091300 * l.length ≤ (sums l v).1 ∧ (sums l v).1 ≤ (sums l v).2 ∧ (sums l v).2 ≤ v.2 + 53687091300 * l.length
  | [], v, _, h => by simp only [sums, List.length_nil]; omega
  | a :: l, v, h, hv => by
    have ha := h a List.mem_cons_self
    unfold bw at ha
    have ih := sums_bw (l := l) (v := (v.1 + a.1, v.2 + a.2)) (fun b hb => h b (List.mem_cons_of_mem _ hb)) (by simp only; omega)
    simp only [sums, List.length_cons] at ih ⊢
    omega
theorem sumV_bw {l : List (Int × Int)} (h : ∀ a ∈ l, bw a) (hl : l.length ≤ 16) : sumV l = (sums l (0, 0), 0) ∧ vs (sums l (0, 0)) := by
  have hb := sums_bw (v := (0, 0)) h (by simp)
  simp only at hb
  have hv : vs (sums l (0, 0)) := by unfold vs; omega
  refine ⟨?_, hv⟩
  unfold sumV
  rw [res_f hv.1 hv.2.1 hv.2.2]
/-- what is heard of all pulses -/
noncomputable def scS (l : List PU) (x : P3) (s t d : Int) : (Int × Int) × Int := out8 (fun m => (sums m (0, 0), 0)) (fun e => ((0, 0), e)) (shs (fun p => hrT p x s t d) l [])
theorem mem_some {α : Type} {l : List α} {i : Nat} {c : α} (h : l[i]? = some c) : c ∈ l := by
  obtain ⟨hlt, hce⟩ := List.getElem?_eq_some_iff.1 h
  exact hce ▸ List.getElem_mem hlt
section
variable {l : List PU} {x : P3} {s t d : Int}
theorem scene_f (hv : vpL l = 0) (hx : bd 256 x) (hs : 1 ≤ s ∧ s ≤ 16) (ht : 0 ≤ t ∧ t ≤ 2000) (hd : 0 ≤ d ∧ d ≤ 3) : F71_L l x s t d = scS l x s t d := by
  obtain ⟨hl, hp⟩ := vpL_ok hv
  unfold F71_L F98_L_c99 scS
  have key := shs_loopF (g := fun p => hrT p x s t d) (S := S98_L_c99_0 l x s t d) (E := fun e => (((0, 0) : Int × Int), e)) (L := l)
    (G := fun m => ((F44_L m).1, (F44_L m).2)) (fun i c hi m => ?_) (fun m => ?_) l 0 (Int.toNat (((l.length : Nat) : Int) - 0) + 1) [] rfl (Nat.zero_le _) (by omega)
  · show (loopF (S98_L_c99_0 l x s t d) (Int.toNat (((l.length : Nat) : Int) - 0) + 1) ([], ((0 : Nat) : Int))) = _
    rw [key]
    refine out8_ok (fun _ => ?_)
    have hb : ∀ a ∈ l.map (fun c => (hrT c x s t d).1), bw a := fun a ha => by
      obtain ⟨c, hc, rfl⟩ := List.mem_map.1 ha
      exact hrT_bw (hp c hc) hd
    rw [Sum_f (fun a ha => bw_vs (hb a ha)) (by rw [List.length_map]; omega)]
    exact (sumV_bw hb (by rw [List.length_map]; exact hl)).1
  · obtain ⟨hg, hlt⟩ := getD_some hi
    have e : F99 c x s t d = hrT c x s t d := by
      unfold F99
      rw [heard_f (hp c (mem_some hi)) hx hs ht hd, hrS_T (hp c (mem_some hi)) hd]
    simp only [S98_L_c99_0]
    rw [decide_eq_true (show ((i : Nat) : Int) < (l.length : Nat) by omega), cond_true, Int.toNat_natCast, hg, e]; rfl
  · simp only [S98_L_c99_0]
    rw [decide_eq_false (Int.lt_irrefl _), cond_false]
end
/-- what is asked of a point, a speed, a tick and a depth -/
def askd (x : P3) (s t d : Int) : Prop := bd 256 x ∧ (1 ≤ s ∧ s ≤ 16) ∧ (0 ≤ t ∧ t ≤ 2000) ∧ (0 ≤ d ∧ d ≤ 3)
noncomputable def scV (l : List PU) (x : P3) (s t d : Int) : (Int × Int) × Int :=
  open Classical in if vpL l = 0 then (if askd x s t d then scS l x s t d else ((0, 0), 1)) else ((0, 0), vpL l)
open Classical in
theorem Scene_f (l : List PU) (x : P3) (s t d : Int) : F32_L l x s t d = scV l x s t d := by
  unfold F32_L scV askd
  rw [isP_f, isS_f, isT_f, isD_f]
  simp only [chkL_f]
  by_cases h : vpL l = 0
  · by_cases h1 : bd 256 x
    · by_cases h2 : 1 ≤ s ∧ s ≤ 16
      · by_cases h3 : 0 ≤ t ∧ t ≤ 2000
        · by_cases h4 : 0 ≤ d ∧ d ≤ 3
          · rw [scene_f h h1 h2 h3 h4]; simp [h, h1, h2, h3, h4]
          · simp [h, h1, h2, h3, h4]
        · simp [h, h1, h2, h3]
      · simp [h, h1, h2]
    · simp [h, h1]
  · simp only [if_neg h, bne_iff_ne.2 h, cond_true]
    cases decide (bd 256 x) <;> cases decide (1 ≤ s ∧ s ≤ 16) <;> cases decide (0 ≤ t ∧ t ≤ 2000) <;> rfl
end Go.Proofs.Ytopbnnmkdildgaa

namespace Go.Proofs.Ytopbnnmkdildgaa
open Go.Proofs Go.Aw Go.RowKit
set_option maxRecDepth 100000
set_option linter.unusedVariables false
set_option linter.unusedSimpArgs false

/-! ### From one tick to another one -/
end Go.Proofs.Ytopbnnmkdildgaa

namespace Go.Proofs.Ytopbnnmkdildgaa
open Go.Proofs Go.Aw Go.RowKit
set_option maxRecDepth 100000
set_option linter.unusedVariables false
set_option linter.unusedSimpArgs false

/-! ### What is heard from one tick to another one: the list -/
end Go.Proofs.Ytopbnnmkdildgaa

namespace Go.Proofs.Ytopbnnmkdildgaa
open Go.Proofs Go.Aw Go.RowKit
set_option maxRecDepth 100000
set_option linter.unusedVariables false
set_option linter.unusedSimpArgs false

/-! ### Images of valid pulses are valid -/
def mz (p : P3) : P3 := (p.1, p.2.1, -p.2.2)
def mzP (p : PN) : PN := (mz p.1, mz p.2.1, mz p.2.2)
theorem mz_f {m : Int} {p : P3} (h : bd m p) (hm : m ≤ 100000) : F69 p = mz p := by
  unfold bd at h
  unfold F69 mz
  rw [W_eq (n := 0 - p.2.2) (by omega) (by omega), Int.zero_sub]
theorem mz_bd {m : Int} {p : P3} (h : bd m p) : bd m (mz p) := by unfold bd mz at *; simp only; omega
theorem mzP_bd {m : Int} {p : PN} (h : bdP m p) : bdP m (mzP p) := ⟨mz_bd h.1, mz_bd h.2.1, mz_bd h.2.2⟩
theorem nrm_mz (p : PN) : nrm (mzP p) = (-(nrm p).1, -(nrm p).2.1, (nrm p).2.2) := by
  unfold nrm cr sb mzP mz
  simp only [Prod.mk.injEq]
  refine ⟨by grind, by grind, by grind⟩
theorem vp_mz {p : PN} (h : vp p = 0) : vp (mzP p) = 0 := by
  have hb := (vp_ok h).1
  unfold vp at h ⊢
  rw [if_pos hb] at h
  rw [if_pos (mzP_bd hb), nrm_mz]
  simp only
  split at h
  · exact absurd h (by decide)
  · rename_i h1
    rw [if_neg (by omega)]
theorem im_eq {soft : Bool} {p : PU} (h : POK p) : im soft p = (mzP p.1, p.2.1, bif soft then -p.2.2 else p.2.2) := by
  have hb := pok_bd h
  have hw := h.2.2
  unfold im mzP
  rw [mz_f hb.1 (by omega), mz_f hb.2.1 (by omega), mz_f hb.2.2 (by omega), W_eq (n := 0 - p.2.2) (by omega) (by omega), Int.zero_sub]
theorem im_pok {soft : Bool} {p : PU} (h : POK p) : POK (im soft p) := by
  rw [im_eq h]
  refine ⟨vp_mz h.1, h.2.1, ?_⟩
  have hw := h.2.2
  cases soft <;> simp only [cond_true, cond_false] <;> omega
theorem imV_ok {l : List PU} {soft : Bool} (h : (imV l soft).2 = 0) : vpL l = 0 ∧ (imV l soft).1 = l ++ l.map (im soft) ∧ 2 * l.length ≤ 16 ∧ vpL (imV l soft).1 = 0 := by
  unfold imV at h ⊢
  by_cases h1 : vpL l = 0
  · rw [if_pos h1] at h ⊢
    by_cases h2 : fe gz l = 0
    · rw [if_pos h2] at h ⊢
      by_cases h3 : 16 < 2 * l.length
      · rw [if_pos h3] at h; exact absurd h (by decide)
      · rw [if_neg h3]
        refine ⟨h1, rfl, by omega, ?_⟩
        unfold vpL
        simp only
        rw [if_neg (by rw [List.length_append, List.length_map]; omega), fe_0.2]
        intro q hq
        rcases List.mem_append.1 hq with hq | hq
        · exact pv_ok.2 ((vpL_ok h1).2 q hq)
        · obtain ⟨p, hp, rfl⟩ := List.mem_map.1 hq
          exact pv_ok.2 (im_pok ((vpL_ok h1).2 p hp))
    · rw [if_neg h2] at h; exact absurd h (by decide)
  · rw [if_neg h1] at h; exact absurd h h1
theorem imf_ok {l : List PU} {soft : Bool} (h : (((F30_L l soft).2 : Int) != 0) = false) : vpL (F30_L l soft).1 = 0 := by
  rw [Images_f] at h ⊢
  exact (imV_ok (bne_eq_false_iff_eq.1 h)).2.2.2
theorem ist_n {n : Int} (h : (!(F59 n)) = false) : 0 ≤ n ∧ n ≤ 2000 := ist_p (by simpa using h)
theorem isd_n {n : Int} (h : (!(F60 n)) = false) : 0 ≤ n ∧ n ≤ 3 := isd_p (by simpa using h)

/-- facet/sound.Echo at ('L',) -/
def F38_L (a0 : List (((Int × Int × Int) × (Int × Int × Int) × Int × Int × Int) × Int × Int)) (a1 : Int × Int × Int) (a2 : Bool) (a3 : Int) (a4 : Int) (a5 : Int) : (Int × Int) × Int :=
  (bif (((F30_L a0 a2).2 : Int) != 0) then
   ((0, 0), (F30_L a0 a2).2)
  else
   (bif (!(F45 a1)) then
    ((0, 0), 1)
   else
    (bif (!(F46 a3)) then
     ((0, 0), 1)
    else
     (bif (!(F59 a4)) then
      ((0, 0), 1)
     else
      (bif (!(F60 a5)) then
       ((0, 0), 1)
      else
       (bif (decide ((a1.2.2 : Int) < 0)) then
        ((0, 0), 1)
       else
        ((F71_L (F30_L a0 a2).1 a1 a3 a4 a5).1, (F71_L (F30_L a0 a2).1 a1 a3 a4 a5).2)))))))

noncomputable def oC38_L_0 (a0 : List (((Int × Int × Int) × (Int × Int × Int) × Int × Int × Int) × Int × Int)) (a2 : Bool) : Or := .call [0] (.t [(.s 1 0 (F30_L a0 a2).1.length 11), (iv (F30_L a0 a2).2)]) [(.live true true (flat c41 (F30_L a0 a2).1))]
noncomputable def oC38_L_1 (a0 : List (((Int × Int × Int) × (Int × Int × Int) × Int × Int × Int) × Int × Int)) (a2 : Bool) : Ob := .call 30 [(.s 0 0 a0.length 11), (.v (.bool a2))] [(.live false true (flat c41 a0))] (.t [(.s 1 0 (F30_L a0 a2).1.length 11), (iv (F30_L a0 a2).2)]) [(.live true true (flat c41 (F30_L a0 a2).1))]
theorem C38_L (a0 : List (((Int × Int × Int) × (Int × Int × Int) × Int × Int × Int) × Int × Int)) (a1 : Int × Int × Int) (a2 : Bool) (a3 : Int) (a4 : Int) (a5 : Int) (l0 : a0.length ≤ 9223372036854775807) : Con Try.prog 38 [(.s 0 0 a0.length 11), (.a (k3 a1)), (.v (.bool a2)), (iv a3), (iv a4), (iv a5)] [(.live false true (flat c41 a0))] (.t [(.a (k2 (F38_L a0 a1 a2 a3 a4 a5).1)), (iv (F38_L a0 a1 a2 a3 a4 a5).2)]) [] := by
  cases h0 : (((F30_L a0 a2).2 : Int) != 0) with
  | true =>
    have q0 := bne_iff_ne.1 h0
    have hd1 := imf_len a0 a2
    try have hv := imf_ok h0
    have e : (F38_L a0 a1 a2 a3 a4 a5) = ((0, 0), (F30_L a0 a2).2) := by simp only [F38_L, h0, cond_true, cond_false]
    rw [e]
    refine con_of (n := 9) Try.func38 rfl (ent Try.func38 (by kernel_rfl) rfl) (by show 6 ≤ Try.f38.ntmps; decide) (by kernel_rfl) ⟨rfl, trivial⟩ (fun cx hcx => ?_)
    exact ret_of (T := T0) hT hm (f := 5000) (orc := [(oC38_L_0 a0 a2), .d true]) [] [] [] hcx
      (obs := [(oC38_L_1 a0 a2), .eq (((F30_L a0 a2).2 : Int) != 0) true]) (by kernel_rfl) ⟨(C30_L a0 a2 (by (try simp only [List.length_append, List.length_cons, List.length_nil, Int.toNat_zero]); omega)), h0, trivial⟩
  | false =>
    cases h1 : (!(F45 a1)) with
    | true =>
      have q0 := bne_eq_false_iff_eq.1 h0
      have hd1 := imf_len a0 a2
      try have hv := imf_ok h0
      have e : (F38_L a0 a1 a2 a3 a4 a5) = ((0, 0), 1) := by simp only [F38_L, h0, h1, cond_true, cond_false]
      rw [e]
      refine con_of (n := 9) Try.func38 rfl (ent Try.func38 (by kernel_rfl) rfl) (by show 6 ≤ Try.f38.ntmps; decide) (by kernel_rfl) ⟨rfl, trivial⟩ (fun cx hcx => ?_)
      exact ret_of (T := T0) hT hm (f := 5000) (orc := [(oC38_L_0 a0 a2), .d false, .call [] (.v (.bool (F45 a1))) [], .d true]) [] [] [] hcx
        (obs := [(oC38_L_1 a0 a2), .eq (((F30_L a0 a2).2 : Int) != 0) false, .call 45 [(.a (k3 a1))] [] (.v (.bool (F45 a1))) [], .eq (!(F45 a1)) true]) (by kernel_rfl) ⟨(C30_L a0 a2 (by (try simp only [List.length_append, List.length_cons, List.length_nil, Int.toNat_zero]); omega)), h0, (C45 a1), h1, trivial⟩
    | false =>
      cases h2 : (!(F46 a3)) with
      | true =>
        have q0 := bne_eq_false_iff_eq.1 h0
        have hd1 := imf_len a0 a2
        try have hv := imf_ok h0
        have e : (F38_L a0 a1 a2 a3 a4 a5) = ((0, 0), 1) := by simp only [F38_L, h0, h1, h2, cond_true, cond_false]
        rw [e]
        refine con_of (n := 9) Try.func38 rfl (ent Try.func38 (by kernel_rfl) rfl) (by show 6 ≤ Try.f38.ntmps; decide) (by kernel_rfl) ⟨rfl, trivial⟩ (fun cx hcx => ?_)
        exact ret_of (T := T0) hT hm (f := 5000) (orc := [(oC38_L_0 a0 a2), .d false, .call [] (.v (.bool (F45 a1))) [], .d false, .call [] (.v (.bool (F46 a3))) [], .d true]) [] [] [] hcx
          (obs := [(oC38_L_1 a0 a2), .eq (((F30_L a0 a2).2 : Int) != 0) false, .call 45 [(.a (k3 a1))] [] (.v (.bool (F45 a1))) [], .eq (!(F45 a1)) false, .call 46 [(iv a3)] [] (.v (.bool (F46 a3))) [], .eq (!(F46 a3)) true]) (by kernel_rfl) ⟨(C30_L a0 a2 (by (try simp only [List.length_append, List.length_cons, List.length_nil, Int.toNat_zero]); omega)), h0, (C45 a1), h1, (C46 a3), h2, trivial⟩
      | false =>
        cases h3 : (!(F59 a4)) with
        | true =>
          have q0 := bne_eq_false_iff_eq.1 h0
          have hd1 := imf_len a0 a2
          try have hv := imf_ok h0
          have e : (F38_L a0 a1 a2 a3 a4 a5) = ((0, 0), 1) := by simp only [F38_L, h0, h1, h2, h3, cond_true, cond_false]
          rw [e]
          refine con_of (n := 9) Try.func38 rfl (ent Try.func38 (by kernel_rfl) rfl) (by show 6 ≤ Try.f38.ntmps; decide) (by kernel_rfl) ⟨rfl, trivial⟩ (fun cx hcx => ?_)
          exact ret_of (T := T0) hT hm (f := 5000) (orc := [(oC38_L_0 a0 a2), .d false, .call [] (.v (.bool (F45 a1))) [], .d false, .call [] (.v (.bool (F46 a3))) [], .d false, .call [] (.v (.bool (F59 a4))) [], .d true]) [] [] [] hcx
            (obs := [(oC38_L_1 a0 a2), .eq (((F30_L a0 a2).2 : Int) != 0) false, .call 45 [(.a (k3 a1))] [] (.v (.bool (F45 a1))) [], .eq (!(F45 a1)) false, .call 46 [(iv a3)] [] (.v (.bool (F46 a3))) [], .eq (!(F46 a3)) false, .call 59 [(iv a4)] [] (.v (.bool (F59 a4))) [], .eq (!(F59 a4)) true]) (by kernel_rfl) ⟨(C30_L a0 a2 (by (try simp only [List.length_append, List.length_cons, List.length_nil, Int.toNat_zero]); omega)), h0, (C45 a1), h1, (C46 a3), h2, (C59 a4), h3, trivial⟩
        | false =>
          cases h4 : (!(F60 a5)) with
          | true =>
            have q0 := bne_eq_false_iff_eq.1 h0
            have hd1 := imf_len a0 a2
            try have hv := imf_ok h0
            have e : (F38_L a0 a1 a2 a3 a4 a5) = ((0, 0), 1) := by simp only [F38_L, h0, h1, h2, h3, h4, cond_true, cond_false]
            rw [e]
            refine con_of (n := 9) Try.func38 rfl (ent Try.func38 (by kernel_rfl) rfl) (by show 6 ≤ Try.f38.ntmps; decide) (by kernel_rfl) ⟨rfl, trivial⟩ (fun cx hcx => ?_)
            exact ret_of (T := T0) hT hm (f := 5000) (orc := [(oC38_L_0 a0 a2), .d false, .call [] (.v (.bool (F45 a1))) [], .d false, .call [] (.v (.bool (F46 a3))) [], .d false, .call [] (.v (.bool (F59 a4))) [], .d false, .call [] (.v (.bool (F60 a5))) [], .d true]) [] [] [] hcx
              (obs := [(oC38_L_1 a0 a2), .eq (((F30_L a0 a2).2 : Int) != 0) false, .call 45 [(.a (k3 a1))] [] (.v (.bool (F45 a1))) [], .eq (!(F45 a1)) false, .call 46 [(iv a3)] [] (.v (.bool (F46 a3))) [], .eq (!(F46 a3)) false, .call 59 [(iv a4)] [] (.v (.bool (F59 a4))) [], .eq (!(F59 a4)) false, .call 60 [(iv a5)] [] (.v (.bool (F60 a5))) [], .eq (!(F60 a5)) true]) (by kernel_rfl) ⟨(C30_L a0 a2 (by (try simp only [List.length_append, List.length_cons, List.length_nil, Int.toNat_zero]); omega)), h0, (C45 a1), h1, (C46 a3), h2, (C59 a4), h3, (C60 a5), h4, trivial⟩
          | false =>
            cases h5 : (decide ((a1.2.2 : Int) < 0)) with
            | true =>
              have q0 := bne_eq_false_iff_eq.1 h0
              have q5 := of_decide_eq_true h5
              have hd1 := imf_len a0 a2
              try have hv := imf_ok h0
              have e : (F38_L a0 a1 a2 a3 a4 a5) = ((0, 0), 1) := by simp only [F38_L, h0, h1, h2, h3, h4, h5, cond_true, cond_false]
              rw [e]
              refine con_of (n := 9) Try.func38 rfl (ent Try.func38 (by kernel_rfl) rfl) (by show 6 ≤ Try.f38.ntmps; decide) (by kernel_rfl) ⟨rfl, trivial⟩ (fun cx hcx => ?_)
              exact ret_of (T := T0) hT hm (f := 5000) (orc := [(oC38_L_0 a0 a2), .d false, .call [] (.v (.bool (F45 a1))) [], .d false, .call [] (.v (.bool (F46 a3))) [], .d false, .call [] (.v (.bool (F59 a4))) [], .d false, .call [] (.v (.bool (F60 a5))) [], .d false, .d true]) [] [] [] hcx
                (obs := [(oC38_L_1 a0 a2), .eq (((F30_L a0 a2).2 : Int) != 0) false, .call 45 [(.a (k3 a1))] [] (.v (.bool (F45 a1))) [], .eq (!(F45 a1)) false, .call 46 [(iv a3)] [] (.v (.bool (F46 a3))) [], .eq (!(F46 a3)) false, .call 59 [(iv a4)] [] (.v (.bool (F59 a4))) [], .eq (!(F59 a4)) false, .call 60 [(iv a5)] [] (.v (.bool (F60 a5))) [], .eq (!(F60 a5)) false, .eq (decide ((a1.2.2 : Int) < 0)) true]) (by kernel_rfl) ⟨(C30_L a0 a2 (by (try simp only [List.length_append, List.length_cons, List.length_nil, Int.toNat_zero]); omega)), h0, (C45 a1), h1, (C46 a3), h2, (C59 a4), h3, (C60 a5), h4, h5, trivial⟩
            | false =>
              have q0 := bne_eq_false_iff_eq.1 h0
              have q5 := of_decide_eq_false h5
              have hd1 := imf_len a0 a2
              try have hv := imf_ok h0
              have e : (F38_L a0 a1 a2 a3 a4 a5) = ((F71_L (F30_L a0 a2).1 a1 a3 a4 a5).1, (F71_L (F30_L a0 a2).1 a1 a3 a4 a5).2) := by simp only [F38_L, h0, h1, h2, h3, h4, h5, cond_true, cond_false]
              rw [e]
              refine con_of (n := 9) Try.func38 rfl (ent Try.func38 (by kernel_rfl) rfl) (by show 6 ≤ Try.f38.ntmps; decide) (by kernel_rfl) ⟨rfl, trivial⟩ (fun cx hcx => ?_)
              exact ret_of (T := T0) hT hm (f := 5000) (orc := [(oC38_L_0 a0 a2), .d false, .call [] (.v (.bool (F45 a1))) [], .d false, .call [] (.v (.bool (F46 a3))) [], .d false, .call [] (.v (.bool (F59 a4))) [], .d false, .call [] (.v (.bool (F60 a5))) [], .d false, .d false, .call [3] (.t [(.a (k2 (F71_L (F30_L a0 a2).1 a1 a3 a4 a5).1)), (iv (F71_L (F30_L a0 a2).1 a1 a3 a4 a5).2)]) []]) [] [] [] hcx
                (obs := [(oC38_L_1 a0 a2), .eq (((F30_L a0 a2).2 : Int) != 0) false, .call 45 [(.a (k3 a1))] [] (.v (.bool (F45 a1))) [], .eq (!(F45 a1)) false, .call 46 [(iv a3)] [] (.v (.bool (F46 a3))) [], .eq (!(F46 a3)) false, .call 59 [(iv a4)] [] (.v (.bool (F59 a4))) [], .eq (!(F59 a4)) false, .call 60 [(iv a5)] [] (.v (.bool (F60 a5))) [], .eq (!(F60 a5)) false, .eq (decide ((a1.2.2 : Int) < 0)) false, .call 71 [(.s 0 0 (F30_L a0 a2).1.length 11), (.a (k3 a1)), (iv a3), (iv a4), (iv a5)] [(.live false true (flat c41 (F30_L a0 a2).1))] (.t [(.a (k2 (F71_L (F30_L a0 a2).1 a1 a3 a4 a5).1)), (iv (F71_L (F30_L a0 a2).1 a1 a3 a4 a5).2)]) []]) (by kernel_rfl) ⟨(C30_L a0 a2 (by (try simp only [List.length_append, List.length_cons, List.length_nil, Int.toNat_zero]); omega)), h0, (C45 a1), h1, (C46 a3), h2, (C59 a4), h3, (C60 a5), h4, h5, (C71_L (F30_L a0 a2).1 a1 a3 a4 a5 (by (try simp only [List.length_append, List.length_cons, List.length_nil, Int.toNat_zero]); omega) hv (isp_n h1) (iss_n h2) (ist_n h3) (isd_n h4)), trivial⟩

/-! ### What is heard with a wall -/
noncomputable def ecV (l : List PU) (x : P3) (soft : Bool) (s t d : Int) : (Int × Int) × Int :=
  open Classical in if (imV l soft).2 = 0 then (if askd x s t d ∧ 0 ≤ x.2.2 then scS (imV l soft).1 x s t d else ((0, 0), 1)) else ((0, 0), (imV l soft).2)
open Classical in
theorem Echo_f (l : List PU) (x : P3) (soft : Bool) (s t d : Int) : F38_L l x soft s t d = ecV l x soft s t d := by
  unfold F38_L ecV
  rw [Images_f, isP_f, isS_f, isT_f, isD_f]
  by_cases h : (imV l soft).2 = 0
  · obtain ⟨_, _, _, hv⟩ := imV_ok h
    rw [if_pos h, h]
    by_cases h1 : bd 256 x
    · by_cases h2 : 1 ≤ s ∧ s ≤ 16
      · by_cases h3 : 0 ≤ t ∧ t ≤ 2000
        · by_cases h4 : 0 ≤ d ∧ d ≤ 3
          · rw [scene_f hv h1 h2 h3 h4]
            by_cases h5 : x.2.2 < 0
            · rw [if_neg (fun h => by omega)]; simp [h1, h2, h3, h4, h5]
            · rw [if_pos ⟨⟨h1, h2, h3, h4⟩, by omega⟩]; simp [h1, h2, h3, h4, h5]
          · rw [if_neg (fun h => h4 h.1.2.2.2)]; simp [h1, h2, h3, h4]
        · rw [if_neg (fun h => h3 h.1.2.2.1)]; simp [h1, h2, h3]
      · rw [if_neg (fun h => h2 h.1.2.1)]; simp [h1, h2]
    · rw [if_neg (fun h => h1 h.1.1)]; simp [h1]
  · rw [if_neg h, bne_iff_ne.2 h]; rfl
end Go.Proofs.Ytopbnnmkdildgaa

namespace Go.Proofs.Ytopbnnmkdildgaa
open Go.Proofs Go.Aw Go.RowKit
set_option maxRecDepth 100000
set_option linter.unusedVariables false
set_option linter.unusedSimpArgs false

/-! ### On a wall -/
theorem mid_mz {p q : P3} (hp : bd 100000 p) (hq : bd 100000 q) : F143 (mz p) (mz q) = mz (F143 p q) := by
  rw [mid_f (mz_bd hp) (mz_bd hq), mid_f hp hq]
  unfold mz
  simp only [Prod.mk.injEq, true_and]
  omega
theorem two_mz {p : P3} (hp : bd 100000 p) : F103 (mz p) 2 = mz (F103 p 2) := by
  rw [times_f (mz_bd hp), times_f hp]
  unfold mz
  simp only [Prod.mk.injEq, true_and]
  omega
theorem q_mz {p : PN} (h : bdP 100000 p) : q1 (mzP p) = mzP (q1 p) ∧ q2 (mzP p) = mzP (q2 p) ∧ q3 (mzP p) = mzP (q3 p) ∧ q4 (mzP p) = mzP (q4 p) := by
  obtain ⟨h1, h2, h3⟩ := h
  unfold q1 q2 q3 q4 mzP
  simp only [two_mz h1, two_mz h2, two_mz h3, mid_mz h1 h2, mid_mz h2 h3, mid_mz h3 h1, and_self]
theorem cutL_mz : ∀ (d : Nat) {m : Int} {p : PN}, bdP m p → m * 2 ^ d ≤ 100000 → 0 ≤ m → cutL d (mzP p) = (cutL d p).map mzP
  | 0, m, p, _, _, _ => rfl
  | d + 1, m, p, h, hm, h0 => by
    have hp : (1 : Int) ≤ 2 ^ d := Int.add_one_le_of_lt (Int.pow_pos (by omega))
    have e1 : m * 2 ^ (d + 1) = 2 * m * 2 ^ d := by rw [Int.pow_succ]; grind
    have hm1 : m ≤ m * 2 ^ d := by
      have := Int.mul_le_mul_of_nonneg_left hp h0
      omega
    have hm2 : m * 2 ^ (d + 1) = m * 2 ^ d + m * 2 ^ d := by rw [Int.pow_succ]; grind
    have hb : bdP 100000 p := h.mono (by omega)
    obtain ⟨k1, k2, k3, k4⟩ := q_mz hb
    have key : ∀ y, y ∈ quad p → cutL d (mzP y) = (cutL d y).map mzP := fun y hy => cutL_mz d (quad_bd h (by omega) hy) (by omega) (by omega)
    simp only [cutL, k1, k2, k3, k4, List.map_append]
    rw [key _ (by simp [quad]), key _ (by simp [quad]), key _ (by simp [quad]), key _ (by simp [quad])]
theorem lo3_neg (a b c : Int) : lo3 (-a) (-b) (-c) = -hi3 a b c := by unfold lo3 hi3; simp only [Int.lt_irrefl, if_false]; (repeat' split) <;> omega
theorem hi3_neg (a b c : Int) : hi3 (-a) (-b) (-c) = -lo3 a b c := by unfold lo3 hi3; simp only [Int.lt_irrefl, if_false]; (repeat' split) <;> omega
theorem gp_neg (l h : Int) : gp (-h) (-l) 0 0 = gp l h 0 0 := by unfold gp mx; (repeat' split) <;> omega
theorem ne_mz (c : PN) {x : P3} (hx : x.2.2 = 0) : ne (mzP c) x = ne c x := by
  unfold ne nr blo bhi mzP mz
  simp only [lo3_neg, hi3_neg, hx, gp_neg]
theorem ds_mz (a : P3) {x : P3} (hx : x.2.2 = 0) : ds (mz a) x = ds a x := by
  unfold ds dt sb mz
  simp only [hx]
  grind
theorem fa_mz (c : PN) {x : P3} (hx : x.2.2 = 0) : fa (mzP c) x = fa c x := by
  unfold fa mzP
  simp only [ds_mz _ hx]
theorem shs_map {α β γ : Type} {g : α → β × Int} {g' : γ → β × Int} {f : γ → α} : ∀ {k : List γ} {m : List β}, (∀ c ∈ k, g (f c) = g' c) → shs g (k.map f) m = shs g' k m
  | [], m, _ => rfl
  | c :: k, m, h => by
    simp only [List.map_cons, shs]
    rw [h c List.mem_cons_self, shs_map (fun c hc => h c (List.mem_cons_of_mem _ hc))]
theorem shs_append {α β : Type} {g : α → β × Int} : ∀ {k k' : List α} {m : List β}, shs g (k ++ k') m = (match shs g k m with | .inl m' => shs g k' m' | .inr e => .inr e)
  | [], k', m => rfl
  | c :: k, k', m => by
    simp only [List.cons_append, shs]
    split
    · exact shs_append
    · rfl
theorem shs_pre {α β : Type} {g : α → β × Int} : ∀ {k : List α} {m : List β}, (∀ c ∈ k, (g c).2 = 0) → shs g k m = .inl (m ++ k.map fun c => (g c).1)
  | [], m, _ => by simp [shs]
  | c :: k, m, h => by
    simp only [shs]
    rw [if_pos (h c List.mem_cons_self), shs_pre (fun c hc => h c (List.mem_cons_of_mem _ hc))]; simp
def ngp (a : (Int × Int) × Int) : (Int × Int) × Int := ((-a.1.2, -a.1.1), a.2)
theorem hrT_im {p : PU} {x : P3} {s t d : Int} (hp : POK p) (hd : 0 ≤ d ∧ d ≤ 3) (hx : x.2.2 = 0) : hrT (im false p) x s t d = hrT p x s t d ∧ hrT (im true p) x s t d = ngp (hrT p x s t d) := by
  have hb := pok_bd hp
  have htz : (tm (sc d) x).2.2 = 0 := by simp only [tm, hx, Int.mul_zero]
  have hcut : cutL d.toNat (mzP p.1) = (cutL d.toNat p.1).map mzP := by
    rcases d4 hd with rfl | rfl | rfl | rfl <;> exact cutL_mz (m := 64) _ hb (by decide) (by decide)
  have hG : ∀ (soft : Bool) (c : PN), shG (im soft p) x s t d (mzP c) = shG p x s t d c := fun soft c => by
    unfold shG
    rw [im_eq hp, ne_mz c htz, fa_mz c htz]
  have hS : ∀ soft : Bool, shs (shG (im soft p) x s t d) (cutL d.toNat (im soft p).1) [] = shs (shG p x s t d) (cutL d.toNat p.1) [] := fun soft => by
    rw [show (im soft p).1 = mzP p.1 by rw [im_eq hp], hcut]
    exact shs_map (fun c _ => hG soft c)
  have h1 : ∀ soft : Bool, (im soft p).2.1 = p.2.1 := fun soft => rfl
  constructor
  · unfold hrT
    rw [h1, hS, show (im false p).2.2 = p.2.2 from rfl]
  · unfold hrT
    rw [h1, hS, show (im true p).2.2 = -p.2.2 by rw [im_eq hp]; rfl]
    split
    · simp [ngp]
    · cases e : shs (shG p x s t d) (cutL d.toNat p.1) [] with
      | inr r => simp [out8, ngp]
      | inl m =>
        obtain ⟨e1, _⟩ := shs_inl e
        rw [List.nil_append] at e1
        have hok := avg_small (cnt_in d) (shG_map p x s t d (cutL d.toNat p.1)) (by rw [List.length_map]; exact cnt_len hd p.1)
        rw [← e1] at hok
        simp only [out8, ngp]
        rw [scl_neg hok.2.1]
theorem sums_neg (l : List (Int × Int)) : sums (l.map fun a => (-a.2, -a.1)) (0, 0) = (-(sums l (0, 0)).2, -(sums l (0, 0)).1) := by
  induction l with
  | nil => rfl
  | cons a l ih =>
    have e : ∀ (k : List (Int × Int)) (b : Int × Int), sums (b :: k) (0, 0) = (b.1 + (sums k (0, 0)).1, b.2 + (sums k (0, 0)).2) := fun k b => by
      simp only [sums_eq, List.map_cons, List.sum_cons]
      simp only [Prod.mk.injEq]
      constructor <;> omega
    rw [List.map_cons, e, e, ih]
    simp only [Prod.mk.injEq]
    constructor <;> omega
/-- with a wall: twice as much, or nothing -/
theorem wall_eq {l : List PU} {x : P3} {s t d : Int} (hp : ∀ p ∈ l, POK p) (hd : 0 ≤ d ∧ d ≤ 3) (hx : x.2.2 = 0) :
    (∃ e, e ≠ 0 ∧ scS l x s t d = ((0, 0), e) ∧ ∀ soft : Bool, scS (l ++ l.map (im soft)) x s t d = ((0, 0), e)) ∨
    (∃ a, scS l x s t d = (a, 0) ∧ scS (l ++ l.map (im false)) x s t d = ((a.1 + a.1, a.2 + a.2), 0) ∧ scS (l ++ l.map (im true)) x s t d = ((a.1 - a.2, a.2 - a.1), 0)) := by
  unfold scS
  cases e : shs (fun p => hrT p x s t d) l [] with
  | inr r =>
    refine .inl ⟨r, shs_inr e, rfl, fun soft => ?_⟩
    rw [shs_append, e]; rfl
  | inl m =>
    obtain ⟨e1, e2⟩ := shs_inl e
    rw [List.nil_append] at e1
    refine .inr ⟨sums m (0, 0), rfl, ?_, ?_⟩
    · rw [shs_append, e]
      simp only
      rw [shs_map (g' := fun p => hrT p x s t d) (fun p hpl => (hrT_im (hp p hpl) hd hx).1), shs_pre e2, ← e1]
      simp only [out8]
      rw [sums_app]
    · rw [shs_append, e]
      simp only
      rw [shs_map (g' := fun p => ngp (hrT p x s t d)) (fun p hpl => (hrT_im (hp p hpl) hd hx).2), shs_pre (g := fun p => ngp (hrT p x s t d)) (fun c hc => e2 c hc)]
      simp only [out8]
      have hm : (l.map fun c => (ngp (hrT c x s t d)).1) = m.map fun a => (-a.2, -a.1) := by rw [e1, List.map_map]; rfl
      rw [hm, sums_app, sums_neg]
      simp only [Prod.mk.injEq, and_true]
      constructor <;> omega
theorem scS_half {l : List PU} {x : P3} {s t d : Int} (hl : 2 * l.length ≤ 16) (hp : ∀ p ∈ l, POK p) (hd : 0 ≤ d ∧ d ≤ 3) : -429496730400 ≤ (scS l x s t d).1.1 ∧ (scS l x s t d).1.1 ≤ (scS l x s t d).1.2 ∧ (scS l x s t d).1.2 ≤ 429496730400 := by
  unfold scS
  cases e : shs (fun p => hrT p x s t d) l [] with
  | inr r => simp [out8]
  | inl m =>
    obtain ⟨h1, _⟩ := shs_inl e
    rw [List.nil_append] at h1
    subst h1
    have := sums_bw (l := l.map fun c => (hrT c x s t d).1) (v := (0, 0)) (fun a ha => by
      obtain ⟨c, hc, rfl⟩ := List.mem_map.1 ha
      exact hrT_bw (hp c hc) hd) (by simp)
    rw [List.length_map] at this
    simp only [out8] at this ⊢
    omega
theorem twice_f {a : Int × Int} (h : -429496730400 ≤ a.1 ∧ a.1 ≤ a.2 ∧ a.2 ≤ 429496730400) : F39 a 2 = ((a.1 + a.1, a.2 + a.2), 0) := by
  rw [Scale_f (by unfold vs; omega) (by omega)]
  unfold scl sat
  rw [if_neg (by omega), if_neg (by omega), if_neg (by omega), if_neg (by omega), if_neg (by omega)]
  rw [res_f (by simp only; omega) (by simp only; omega) (by simp only; omega)]
  simp only [Prod.mk.injEq, and_true]
  constructor <;> omega

end Go.Proofs.Ytopbnnmkdildgaa
