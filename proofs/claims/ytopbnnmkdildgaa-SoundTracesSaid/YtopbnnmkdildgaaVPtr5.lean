/-
  Parts of the proofs of the laws: the executor, what functions of the program compute, and that it is what the statements ask. No premise.
-/
import Derived.Test.YtopbnnmkdildgaaVPtr4
namespace Go.Proofs.Ytopbnnmkdildgaa
open Go.Proofs Go.Aw Go.RowKit
set_option maxRecDepth 100000
set_option linter.unusedVariables false
set_option linter.unusedSimpArgs false

/-! ### From one tick to another one -/
def TRQ (l : List PU) (x : P3) (s b e d : Int) : Prop := vpL l = 0 ∧ bd 256 x ∧ (1 ≤ s ∧ s ≤ 16) ∧ (0 ≤ b ∧ b ≤ 2000) ∧ (0 ≤ d ∧ d ≤ 3) ∧ (e ≤ 2000 ∧ b ≤ e ∧ e ≤ b + 200)
theorem trq_f {l : List PU} {x : P3} {s b e d : Int} (h0 : F45 x = true) (h1 : F46 s = true) (h2 : F59 b = true) (h3 : F59 e = true) (h4 : F60 d = true)
    (h5 : ((F53_L l (F63 (W (e - b)) 0 200) : Int) != 0) = false) : TRQ l x s b e d := by
  have k2 := ist_p h2; have k3 := ist_p h3
  have k5 := ckL_b h5
  rw [sfrom_eq, W_eq (by omega) (by omega)] at k5
  have k6 := of_decide_eq_true k5
  exact ⟨ckL_v h5, isp_p h0, iss_p h1, k2, isd_p h4, by omega⟩
theorem vprL_v {l : List PU} (h : ((F28_L l : Int) != 0) = false) : vpL l = 0 := by rw [← vpl_r]; exact bne_eq_false_iff_eq.1 h
theorem trq_r {l : List PU} {x : P3} {s b e d : Int} (h0 : ((F28_L l : Int) != 0) = false) (h1 : ((F49 x s b d : Int) != 0) = false)
    (h2 : (!(F65 e b (if (2000 : Int) < (W (b + 200)) then 2000 else (W (b + 200))))) = false) : TRQ l x s b e d := by
  obtain ⟨k1, k2, k3, k4⟩ := ask_p h1
  rw [win8, W_eq (by omega) (by omega)] at h2
  have k6 : b ≤ e ∧ e ≤ (if (2000 : Int) < b + 200 then 2000 else b + 200) := by simpa using h2
  refine ⟨vprL_v h0, k1, k2, k3, k4, ?_⟩
  have := k6.2
  split at this <;> omega

noncomputable def B33_L_0 : Code := (loopAtD [1, 1, 1, 0, 1] [] (Try.f33.body.getD .skip) []).1
noncomputable def K33_L_0 : List K := (loopAtD [1, 1, 1, 0, 1] [] (Try.f33.body.getD .skip) []).2

/-- a round of loop 0 of facet/sound.Trace; the variables: v2 = s15, v3 = s16 -/
def S33_L_0 (a0 : List (((Int × Int × Int) × (Int × Int × Int) × Int × Int × Int) × Int × Int)) (a1 : Int × Int × Int) (a2 : Int) (a3 : Int) (a4 : Int) (a5 : Int) : (List (Int × Int)) × Int → ((List (Int × Int)) × Int) ⊕ ((List (Int × Int)) × Int)
  | (v2, v3) =>
   (bif (decide ((v3 : Int) ≤ a4)) then
    (bif (((F71_L a0 a1 a2 v3 a5).2 : Int) != 0) then
     (.inr (([] : List (Int × Int)), (F71_L a0 a1 a2 v3 a5).2))
    else
     (.inl ((v2 ++ [(F71_L a0 a1 a2 v3 a5).1]), (v3 + 1))))
   else
    (.inr (v2, 0)))

set_option maxHeartbeats 4000000 in
theorem L33_L_0 (a0 : List (((Int × Int × Int) × (Int × Int × Int) × Int × Int × Int) × Int × Int)) (a1 : Int × Int × Int) (a2 : Int) (a3 : Int) (a4 : Int) (a5 : Int) (l0 : a0.length ≤ 9223372036854775807) {cx : Cx} (hcx : cx.base = 1) : ∀ (n : Nat) (v2 : List (Int × Int)) (v3 : Int), (0 ≤ v3) ∧ (vpL a0 = 0) ∧ (bd 256 a1) ∧ (1 ≤ a2 ∧ a2 ≤ 16) ∧ (0 ≤ a5 ∧ a5 ≤ 3) ∧ (0 ≤ a3 ∧ a3 ≤ v3) ∧ (a4 ≤ 2000 ∧ a4 ≤ a3 + 200) ∧ (v2.length = Int.toNat (v3 - a3)) ∧ (v3 ≤ a4 + 1) → Int.toNat (a4 - v3 + 1) < n → Aw.Good Try.prog none 9 (bodyPost Try.prog Try.f33 (RR cx (.t [(.s 1 0 (loopF (S33_L_0 a0 a1 a2 a3 a4 a5) n (v2, v3)).1.length 2), (iv (loopF (S33_L_0 a0 a1 a2 a3 a4 a5) n (v2, v3)).2)]) [(.live true true (flat c32 (loopF (S33_L_0 a0 a1 a2 a3 a4 a5) n (v2, v3)).1))] [])) cx [] (.l B33_L_0 n :: K33_L_0) ⟨[(.s 0 0 a0.length 11), .u, (iv a2), .u, (iv a4), (iv a5), .u, (.p 1 0), .u, .u, .u, .u, .u, .u, .u, (.s 2 0 v2.length 2), (iv v3), .u, .u, .u, .u, .u, .u, .u, .u, .u, .u, .u, .u, .u, .u, .u, .u, .u, .u, .u, .u, .u, .u, .u, .u, .u, .u, .u, .u, .u, .u, .u, .u, .u, .u, .u, .u, .u, .u, .u, .u, .u, .u, .u, .u, .u, .u, .u, .u, .u, .u, .u, .u, .u, .u], [(.live false true (flat c41 a0)), (.live true false (k3 a1)), (.live true true (flat c32 v2))]⟩ := by
  intro n
  induction n with
  | zero => intro v2 v3 hi hn; exact absurd hn (Nat.not_lt_zero _)
  | succ n ih =>
    intro v2 v3 hi hn
    refine good_round ?_
    cases h0 : (decide ((v3 : Int) ≤ a4)) with
    | true =>
      cases h1 : (((F71_L a0 a1 a2 v3 a5).2 : Int) != 0) with
      | true =>
        have q0 := of_decide_eq_true h0
        have q1 := bne_iff_ne.1 h1
        have e : S33_L_0 a0 a1 a2 a3 a4 a5 (v2, v3) = (.inr (([] : List (Int × Int)), (F71_L a0 a1 a2 v3 a5).2)) := by simp only [S33_L_0, h0, h1, cond_true, cond_false]
        rw [show loopF (S33_L_0 a0 a1 a2 a3 a4 a5) (n + 1) (v2, v3) = thenF (S33_L_0 a0 a1 a2 a3 a4 a5) n (S33_L_0 a0 a1 a2 a3 a4 a5 (v2, v3)) from rfl, e]
        exact ret_of (T := T0) hT hm (f := 5000) (orc := [.d true, .call [0] (.t [(.a (k2 (F71_L a0 a1 a2 v3 a5).1)), (iv (F71_L a0 a1 a2 v3 a5).2)]) [], .d true]) [.slot 12 2] [] [4] hcx
          (obs := [.eq (decide ((v3 : Int) ≤ a4)) true, .call 71 [(.s 0 0 a0.length 11), (.a (k3 a1)), (iv a2), (iv v3), (iv a5)] [(.live false true (flat c41 a0))] (.t [(.a (k2 (F71_L a0 a1 a2 v3 a5).1)), (iv (F71_L a0 a1 a2 v3 a5).2)]) [], .eq (((F71_L a0 a1 a2 v3 a5).2 : Int) != 0) true]) (by kernel_rfl) ⟨h0, (C71_L a0 a1 a2 v3 a5 (by (try simp only [List.length_append, List.length_cons, List.length_nil, Int.toNat_zero]); omega) hi.2.1 hi.2.2.1 (by omega) (by omega) (by omega)), h1, trivial⟩
      | false =>
        have q0 := of_decide_eq_true h0
        have q1 := bne_eq_false_iff_eq.1 h1
        have e : S33_L_0 a0 a1 a2 a3 a4 a5 (v2, v3) = (.inl ((v2 ++ [(F71_L a0 a1 a2 v3 a5).1]), (v3 + 1))) := by simp only [S33_L_0, h0, h1, cond_true, cond_false]
        rw [loopF_inl e]
        refine back_of (T := T0) hT hm (f := 5000) (orc := [.d true, .call [0] (.t [(.a (k2 (F71_L a0 a1 a2 v3 a5).1)), (iv (F71_L a0 a1 a2 v3 a5).2)]) [], .d false]) [] [0, 2, 4, 5, 7, 15, 16] [1, 5] hcx (body := B33_L_0) (m := n) (k' := K33_L_0) (s' := ⟨[(.s 0 0 a0.length 11), .u, (iv a2), .u, (iv a4), (iv a5), .u, (.p 1 0), .u, .u, .u, .u, .u, .u, .u, (.s 2 0 (v2.length + 1) 2), (iv (W (v3 + 1))), .u, .u, .u, .u, .u, .u, .u, .u, .u, .u, .u, .u, .u, .u, .u, .u, .u, .u, .u, .u, .u, .u, .u, .u, .u, .u, .u, .u, .u, .u, .u, .u, .u, .u, .u, .u, .u, .u, .u, .u, .u, .u, .u, .u, .u, .u, .u, .u, .u, .u, .u, .u, .u, .u], [(.live false true (flat c41 a0)), (.live true false (k3 a1)), (.live true true (flat c32 v2 ++ (k2 (F71_L a0 a1 a2 v3 a5).1)))]⟩)
          (obs := [.eq (decide ((v3 : Int) ≤ a4)) true, .call 71 [(.s 0 0 a0.length 11), (.a (k3 a1)), (iv a2), (iv v3), (iv a5)] [(.live false true (flat c41 a0))] (.t [(.a (k2 (F71_L a0 a1 a2 v3 a5).1)), (iv (F71_L a0 a1 a2 v3 a5).2)]) [], .eq (((F71_L a0 a1 a2 v3 a5).2 : Int) != 0) false, .pr ((flat c32 v2).length = v2.length * 2 ∧ v2.length + 1 ≤ 2 ^ 40 ∧ (v2.length + 1) * 16 ≤ 2 ^ 47)]) (by kernel_rfl) ⟨h0, (C71_L a0 a1 a2 v3 a5 (by (try simp only [List.length_append, List.length_cons, List.length_nil, Int.toNat_zero]); omega) hi.2.1 hi.2.2.1 (by omega) (by omega) (by omega)), h1, (app_ok c32_len (by omega) (by omega)), trivial⟩ ?_
        have z0 : (W (v3 + 1)) = (v3 + 1) := W_eq (by omega) (by omega)
        have z1 : (flat c32 v2 ++ (k2 (F71_L a0 a1 a2 v3 a5).1)) = (flat c32 (v2 ++ [(F71_L a0 a1 a2 v3 a5).1])) := (flat_append (c := c32) (l := v2) (m := [(F71_L a0 a1 a2 v3 a5).1])).symm
        have z2 : (v2.length + 1) = (v2 ++ [(F71_L a0 a1 a2 v3 a5).1]).length := len_app v2 [(F71_L a0 a1 a2 v3 a5).1] rfl
        rw [z0, z1, z2]
        exact ih (v2 ++ [(F71_L a0 a1 a2 v3 a5).1]) (v3 + 1) (by refine ⟨?_, ?_, ?_, ?_, ?_, ?_, ?_, ?_, ?_⟩ <;> (try simp only [List.length_append, List.length_cons, List.length_nil, Int.toNat_zero]) <;> first | omega | assumption | exact hi.2.1 | exact hi.2.2.1 | exact hi.2.2.2.1 | exact hi.2.2.2.2.1 | exact hi.2.2.2.2.2.1 | exact hi.2.2.2.2.2.2.1 | exact hi.2.2.2.2.2.2.2.1 | exact hi.2.2.2.2.2.2.2.2.1 | simp) (by (try simp only [List.length_append, List.length_cons, List.length_nil, Int.toNat_zero]); omega)
    | false =>
      have q0 := of_decide_eq_false h0
      have e : S33_L_0 a0 a1 a2 a3 a4 a5 (v2, v3) = (.inr (v2, 0)) := by simp only [S33_L_0, h0, cond_true, cond_false]
      rw [show loopF (S33_L_0 a0 a1 a2 a3 a4 a5) (n + 1) (v2, v3) = thenF (S33_L_0 a0 a1 a2 a3 a4 a5) n (S33_L_0 a0 a1 a2 a3 a4 a5 (v2, v3)) from rfl, e]
      exact ret_of (T := T0) hT hm (f := 5000) (orc := [.d false]) [] [] [2] hcx
        (obs := [.eq (decide ((v3 : Int) ≤ a4)) false]) (by kernel_rfl) ⟨h0, trivial⟩

/-- facet/sound.Trace at ('L',) -/
def F33_L (a0 : List (((Int × Int × Int) × (Int × Int × Int) × Int × Int × Int) × Int × Int)) (a1 : Int × Int × Int) (a2 : Int) (a3 : Int) (a4 : Int) (a5 : Int) : (List (Int × Int)) × Int :=
  (bif (F45 a1) then
   (bif (F46 a2) then
    (bif (F59 a3) then
     (bif (F59 a4) then
      (bif (F60 a5) then
       (bif (((F53_L a0 (F63 (W (a4 - a3)) 0 200)) : Int) != 0) then
        (([] : List (Int × Int)), (F53_L a0 (F63 (W (a4 - a3)) 0 200)))
       else
        (loopF (S33_L_0 a0 a1 a2 a3 a4 a5) (Int.toNat (a4 - a3 + 1) + 1) (([] : List (Int × Int)), a3)))
      else
       (bif (((F53_L a0 false) : Int) != 0) then
        (([] : List (Int × Int)), (F53_L a0 false))
       else
        (loopF (S33_L_0 a0 a1 a2 a3 a4 a5) (Int.toNat (a4 - a3 + 1) + 1) (([] : List (Int × Int)), a3))))
     else
      (bif (((F53_L a0 false) : Int) != 0) then
       (([] : List (Int × Int)), (F53_L a0 false))
      else
       (loopF (S33_L_0 a0 a1 a2 a3 a4 a5) (Int.toNat (a4 - a3 + 1) + 1) (([] : List (Int × Int)), a3))))
    else
     (bif (((F53_L a0 false) : Int) != 0) then
      (([] : List (Int × Int)), (F53_L a0 false))
     else
      (loopF (S33_L_0 a0 a1 a2 a3 a4 a5) (Int.toNat (a4 - a3 + 1) + 1) (([] : List (Int × Int)), a3))))
   else
    (bif (((F53_L a0 false) : Int) != 0) then
     (([] : List (Int × Int)), (F53_L a0 false))
    else
     (loopF (S33_L_0 a0 a1 a2 a3 a4 a5) (Int.toNat (a4 - a3 + 1) + 1) (([] : List (Int × Int)), a3))))
  else
   (bif (((F53_L a0 false) : Int) != 0) then
    (([] : List (Int × Int)), (F53_L a0 false))
   else
    (loopF (S33_L_0 a0 a1 a2 a3 a4 a5) (Int.toNat (a4 - a3 + 1) + 1) (([] : List (Int × Int)), a3))))

noncomputable def oC33_L_0 (a0 : List (((Int × Int × Int) × (Int × Int × Int) × Int × Int × Int) × Int × Int)) : Ob := .call 53 [(.s 0 0 a0.length 11), (.v (.bool false))] [(.live false true (flat c41 a0))] (iv (F53_L a0 false)) []
theorem C33_L (a0 : List (((Int × Int × Int) × (Int × Int × Int) × Int × Int × Int) × Int × Int)) (a1 : Int × Int × Int) (a2 : Int) (a3 : Int) (a4 : Int) (a5 : Int) (l0 : a0.length ≤ 9223372036854775807) : Con Try.prog 33 [(.s 0 0 a0.length 11), (.a (k3 a1)), (iv a2), (iv a3), (iv a4), (iv a5)] [(.live false true (flat c41 a0))] (.t [(.s 1 0 (F33_L a0 a1 a2 a3 a4 a5).1.length 2), (iv (F33_L a0 a1 a2 a3 a4 a5).2)]) [(.live true true (flat c32 (F33_L a0 a1 a2 a3 a4 a5).1))] := by
  cases h0 : (F45 a1) with
  | true =>
    cases h1 : (F46 a2) with
    | true =>
      cases h2 : (F59 a3) with
      | true =>
        cases h3 : (F59 a4) with
        | true =>
          cases h4 : (F60 a5) with
          | true =>
            cases h5 : (((F53_L a0 (F63 (W (a4 - a3)) 0 200)) : Int) != 0) with
            | true =>
              have q5 := bne_iff_ne.1 h5
              try have hq : TRQ a0 a1 a2 a3 a4 a5 := by first | exact trq_f h0 h1 h2 h3 h4 h5 | exact absurd (ckL_b h1) (by decide) | exact absurd (ckL_b h2) (by decide) | exact absurd (ckL_b h3) (by decide) | exact absurd (ckL_b h4) (by decide) | exact absurd (ckL_b h5) (by decide)
              try obtain ⟨hv, hx, hs, hb, hd, he⟩ := hq
              have e : (F33_L a0 a1 a2 a3 a4 a5) = (([] : List (Int × Int)), (F53_L a0 (F63 (W (a4 - a3)) 0 200))) := by simp only [F33_L, h0, h1, h2, h3, h4, h5, cond_true, cond_false]
              rw [e]
              refine con_of (n := 9) Try.func33 rfl (ent Try.func33 (by kernel_rfl) rfl) (by show 6 ≤ Try.f33.ntmps; decide) (by kernel_rfl) ⟨rfl, trivial⟩ (fun cx hcx => ?_)
              exact ret_of (T := T0) hT hm (f := 5000) (orc := [.call [] (.v (.bool (F45 a1))) [], .d true, .call [] (.v (.bool (F46 a2))) [], .d true, .call [] (.v (.bool (F59 a3))) [], .d true, .call [] (.v (.bool (F59 a4))) [], .d true, .call [] (.v (.bool (F60 a5))) [], .d true, .call [] (.v (.bool (F63 (W (a4 - a3)) 0 200))) [], .call [0] (iv (F53_L a0 (F63 (W (a4 - a3)) 0 200))) [], .d true]) [.slot 12 2] [] [2] hcx
                (obs := [.call 45 [(.a (k3 a1))] [] (.v (.bool (F45 a1))) [], .eq (F45 a1) true, .call 46 [(iv a2)] [] (.v (.bool (F46 a2))) [], .eq (F46 a2) true, .call 59 [(iv a3)] [] (.v (.bool (F59 a3))) [], .eq (F59 a3) true, .call 59 [(iv a4)] [] (.v (.bool (F59 a4))) [], .eq (F59 a4) true, .call 60 [(iv a5)] [] (.v (.bool (F60 a5))) [], .eq (F60 a5) true, .call 63 [(iv (W (a4 - a3))), (iv 0), (iv 200)] [] (.v (.bool (F63 (W (a4 - a3)) 0 200))) [], .call 53 [(.s 0 0 a0.length 11), (.v (.bool (F63 (W (a4 - a3)) 0 200)))] [(.live false true (flat c41 a0))] (iv (F53_L a0 (F63 (W (a4 - a3)) 0 200))) [], .eq (((F53_L a0 (F63 (W (a4 - a3)) 0 200)) : Int) != 0) true]) (by kernel_rfl) ⟨(C45 a1), h0, (C46 a2), h1, (C59 a3), h2, (C59 a4), h3, (C60 a5), h4, (C63 (W (a4 - a3)) 0 200), (C53_L a0 (F63 (W (a4 - a3)) 0 200) (by (try simp only [List.length_append, List.length_cons, List.length_nil, Int.toNat_zero]); omega)), h5, trivial⟩
            | false =>
              have q5 := bne_eq_false_iff_eq.1 h5
              try have hq : TRQ a0 a1 a2 a3 a4 a5 := by first | exact trq_f h0 h1 h2 h3 h4 h5 | exact absurd (ckL_b h1) (by decide) | exact absurd (ckL_b h2) (by decide) | exact absurd (ckL_b h3) (by decide) | exact absurd (ckL_b h4) (by decide) | exact absurd (ckL_b h5) (by decide)
              try obtain ⟨hv, hx, hs, hb, hd, he⟩ := hq
              have e : (F33_L a0 a1 a2 a3 a4 a5) = (loopF (S33_L_0 a0 a1 a2 a3 a4 a5) (Int.toNat (a4 - a3 + 1) + 1) (([] : List (Int × Int)), a3)) := by simp only [F33_L, h0, h1, h2, h3, h4, h5, cond_true, cond_false]
              rw [e]
              refine con_of (n := 9) Try.func33 rfl (ent Try.func33 (by kernel_rfl) rfl) (by show 6 ≤ Try.f33.ntmps; decide) (by kernel_rfl) ⟨rfl, trivial⟩ (fun cx hcx => ?_)
              refine enter_of (T := T0) hT hm (f := 5000) (orc := [.call [] (.v (.bool (F45 a1))) [], .d true, .call [] (.v (.bool (F46 a2))) [], .d true, .call [] (.v (.bool (F59 a3))) [], .d true, .call [] (.v (.bool (F59 a4))) [], .d true, .call [] (.v (.bool (F60 a5))) [], .d true, .call [] (.v (.bool (F63 (W (a4 - a3)) 0 200))) [], .call [0] (iv (F53_L a0 (F63 (W (a4 - a3)) 0 200))) [], .d false]) [.slot 15 2] [0, 2, 4, 5, 7, 15, 16] [1, 2] hcx (body := B33_L_0) (k' := K33_L_0) (s' := ⟨[(.s 0 0 a0.length 11), .u, (iv a2), .u, (iv a4), (iv a5), .u, (.p 1 0), .u, .u, .u, .u, .u, .u, .u, (.s 2 0 0 2), (iv a3), .u, .u, .u, .u, .u, .u, .u, .u, .u, .u, .u, .u, .u, .u, .u, .u, .u, .u, .u, .u, .u, .u, .u, .u, .u, .u, .u, .u, .u, .u, .u, .u, .u, .u, .u, .u, .u, .u, .u, .u, .u, .u, .u, .u, .u, .u, .u, .u, .u, .u, .u, .u, .u, .u], [(.live false true (flat c41 a0)), (.live true false (k3 a1)), (.live true true (flat c32 ([] : List (Int × Int))))]⟩)
                (obs := [.call 45 [(.a (k3 a1))] [] (.v (.bool (F45 a1))) [], .eq (F45 a1) true, .call 46 [(iv a2)] [] (.v (.bool (F46 a2))) [], .eq (F46 a2) true, .call 59 [(iv a3)] [] (.v (.bool (F59 a3))) [], .eq (F59 a3) true, .call 59 [(iv a4)] [] (.v (.bool (F59 a4))) [], .eq (F59 a4) true, .call 60 [(iv a5)] [] (.v (.bool (F60 a5))) [], .eq (F60 a5) true, .call 63 [(iv (W (a4 - a3))), (iv 0), (iv 200)] [] (.v (.bool (F63 (W (a4 - a3)) 0 200))) [], .call 53 [(.s 0 0 a0.length 11), (.v (.bool (F63 (W (a4 - a3)) 0 200)))] [(.live false true (flat c41 a0))] (iv (F53_L a0 (F63 (W (a4 - a3)) 0 200))) [], .eq (((F53_L a0 (F63 (W (a4 - a3)) 0 200)) : Int) != 0) false]) (by kernel_rfl) ⟨(C45 a1), h0, (C46 a2), h1, (C59 a3), h2, (C59 a4), h3, (C60 a5), h4, (C63 (W (a4 - a3)) 0 200), (C53_L a0 (F63 (W (a4 - a3)) 0 200) (by (try simp only [List.length_append, List.length_cons, List.length_nil, Int.toNat_zero]); omega)), h5, trivial⟩ ⟨Int.toNat (a4 - a3 + 1) + 1, ?_⟩
              exact L33_L_0 a0 a1 a2 a3 a4 a5 l0 hcx (Int.toNat (a4 - a3 + 1) + 1) ([] : List (Int × Int)) a3 (by refine ⟨?_, ?_, ?_, ?_, ?_, ?_, ?_, ?_, ?_⟩ <;> (try simp only [List.length_append, List.length_cons, List.length_nil, Int.toNat_zero]) <;> first | omega | assumption | exact hi.2.1 | exact hi.2.2.1 | exact hi.2.2.2.1 | exact hi.2.2.2.2.1 | exact hi.2.2.2.2.2.1 | exact hi.2.2.2.2.2.2.1 | exact hi.2.2.2.2.2.2.2.1 | exact hi.2.2.2.2.2.2.2.2.1 | simp) (by (try simp only [List.length_append, List.length_cons, List.length_nil, Int.toNat_zero]); omega)
          | false =>
            cases h5 : (((F53_L a0 false) : Int) != 0) with
            | true =>
              have q5 := bne_iff_ne.1 h5
              try have hq : TRQ a0 a1 a2 a3 a4 a5 := by first | exact trq_f h0 h1 h2 h3 h4 h5 | exact absurd (ckL_b h1) (by decide) | exact absurd (ckL_b h2) (by decide) | exact absurd (ckL_b h3) (by decide) | exact absurd (ckL_b h4) (by decide) | exact absurd (ckL_b h5) (by decide)
              try obtain ⟨hv, hx, hs, hb, hd, he⟩ := hq
              have e : (F33_L a0 a1 a2 a3 a4 a5) = (([] : List (Int × Int)), (F53_L a0 false)) := by simp only [F33_L, h0, h1, h2, h3, h4, h5, cond_true, cond_false]
              rw [e]
              refine con_of (n := 9) Try.func33 rfl (ent Try.func33 (by kernel_rfl) rfl) (by show 6 ≤ Try.f33.ntmps; decide) (by kernel_rfl) ⟨rfl, trivial⟩ (fun cx hcx => ?_)
              exact ret_of (T := T0) hT hm (f := 5000) (orc := [.call [] (.v (.bool (F45 a1))) [], .d true, .call [] (.v (.bool (F46 a2))) [], .d true, .call [] (.v (.bool (F59 a3))) [], .d true, .call [] (.v (.bool (F59 a4))) [], .d true, .call [] (.v (.bool (F60 a5))) [], .d false, .call [0] (iv (F53_L a0 false)) [], .d true]) [.slot 12 2] [] [2] hcx
                (obs := [.call 45 [(.a (k3 a1))] [] (.v (.bool (F45 a1))) [], .eq (F45 a1) true, .call 46 [(iv a2)] [] (.v (.bool (F46 a2))) [], .eq (F46 a2) true, .call 59 [(iv a3)] [] (.v (.bool (F59 a3))) [], .eq (F59 a3) true, .call 59 [(iv a4)] [] (.v (.bool (F59 a4))) [], .eq (F59 a4) true, .call 60 [(iv a5)] [] (.v (.bool (F60 a5))) [], .eq (F60 a5) false, (oC33_L_0 a0), .eq (((F53_L a0 false) : Int) != 0) true]) (by kernel_rfl) ⟨(C45 a1), h0, (C46 a2), h1, (C59 a3), h2, (C59 a4), h3, (C60 a5), h4, (C53_L a0 false (by (try simp only [List.length_append, List.length_cons, List.length_nil, Int.toNat_zero]); omega)), h5, trivial⟩
            | false =>
              have q5 := bne_eq_false_iff_eq.1 h5
              try have hq : TRQ a0 a1 a2 a3 a4 a5 := by first | exact trq_f h0 h1 h2 h3 h4 h5 | exact absurd (ckL_b h1) (by decide) | exact absurd (ckL_b h2) (by decide) | exact absurd (ckL_b h3) (by decide) | exact absurd (ckL_b h4) (by decide) | exact absurd (ckL_b h5) (by decide)
              try obtain ⟨hv, hx, hs, hb, hd, he⟩ := hq
              have e : (F33_L a0 a1 a2 a3 a4 a5) = (loopF (S33_L_0 a0 a1 a2 a3 a4 a5) (Int.toNat (a4 - a3 + 1) + 1) (([] : List (Int × Int)), a3)) := by simp only [F33_L, h0, h1, h2, h3, h4, h5, cond_true, cond_false]
              rw [e]
              refine con_of (n := 9) Try.func33 rfl (ent Try.func33 (by kernel_rfl) rfl) (by show 6 ≤ Try.f33.ntmps; decide) (by kernel_rfl) ⟨rfl, trivial⟩ (fun cx hcx => ?_)
              refine enter_of (T := T0) hT hm (f := 5000) (orc := [.call [] (.v (.bool (F45 a1))) [], .d true, .call [] (.v (.bool (F46 a2))) [], .d true, .call [] (.v (.bool (F59 a3))) [], .d true, .call [] (.v (.bool (F59 a4))) [], .d true, .call [] (.v (.bool (F60 a5))) [], .d false, .call [0] (iv (F53_L a0 false)) [], .d false]) [.slot 15 2] [0, 2, 4, 5, 7, 15, 16] [1, 2] hcx (body := B33_L_0) (k' := K33_L_0) (s' := ⟨[(.s 0 0 a0.length 11), .u, (iv a2), .u, (iv a4), (iv a5), .u, (.p 1 0), .u, .u, .u, .u, .u, .u, .u, (.s 2 0 0 2), (iv a3), .u, .u, .u, .u, .u, .u, .u, .u, .u, .u, .u, .u, .u, .u, .u, .u, .u, .u, .u, .u, .u, .u, .u, .u, .u, .u, .u, .u, .u, .u, .u, .u, .u, .u, .u, .u, .u, .u, .u, .u, .u, .u, .u, .u, .u, .u, .u, .u, .u, .u, .u, .u, .u, .u], [(.live false true (flat c41 a0)), (.live true false (k3 a1)), (.live true true (flat c32 ([] : List (Int × Int))))]⟩)
                (obs := [.call 45 [(.a (k3 a1))] [] (.v (.bool (F45 a1))) [], .eq (F45 a1) true, .call 46 [(iv a2)] [] (.v (.bool (F46 a2))) [], .eq (F46 a2) true, .call 59 [(iv a3)] [] (.v (.bool (F59 a3))) [], .eq (F59 a3) true, .call 59 [(iv a4)] [] (.v (.bool (F59 a4))) [], .eq (F59 a4) true, .call 60 [(iv a5)] [] (.v (.bool (F60 a5))) [], .eq (F60 a5) false, (oC33_L_0 a0), .eq (((F53_L a0 false) : Int) != 0) false]) (by kernel_rfl) ⟨(C45 a1), h0, (C46 a2), h1, (C59 a3), h2, (C59 a4), h3, (C60 a5), h4, (C53_L a0 false (by (try simp only [List.length_append, List.length_cons, List.length_nil, Int.toNat_zero]); omega)), h5, trivial⟩ ⟨Int.toNat (a4 - a3 + 1) + 1, ?_⟩
              exact L33_L_0 a0 a1 a2 a3 a4 a5 l0 hcx (Int.toNat (a4 - a3 + 1) + 1) ([] : List (Int × Int)) a3 (by refine ⟨?_, ?_, ?_, ?_, ?_, ?_, ?_, ?_, ?_⟩ <;> (try simp only [List.length_append, List.length_cons, List.length_nil, Int.toNat_zero]) <;> first | omega | assumption | exact hi.2.1 | exact hi.2.2.1 | exact hi.2.2.2.1 | exact hi.2.2.2.2.1 | exact hi.2.2.2.2.2.1 | exact hi.2.2.2.2.2.2.1 | exact hi.2.2.2.2.2.2.2.1 | exact hi.2.2.2.2.2.2.2.2.1 | simp) (by (try simp only [List.length_append, List.length_cons, List.length_nil, Int.toNat_zero]); omega)
        | false =>
          cases h4 : (((F53_L a0 false) : Int) != 0) with
          | true =>
            have q4 := bne_iff_ne.1 h4
            try have hq : TRQ a0 a1 a2 a3 a4 a5 := by first | exact trq_f h0 h1 h2 h3 h4 h5 | exact absurd (ckL_b h1) (by decide) | exact absurd (ckL_b h2) (by decide) | exact absurd (ckL_b h3) (by decide) | exact absurd (ckL_b h4) (by decide) | exact absurd (ckL_b h5) (by decide)
            try obtain ⟨hv, hx, hs, hb, hd, he⟩ := hq
            have e : (F33_L a0 a1 a2 a3 a4 a5) = (([] : List (Int × Int)), (F53_L a0 false)) := by simp only [F33_L, h0, h1, h2, h3, h4, cond_true, cond_false]
            rw [e]
            refine con_of (n := 9) Try.func33 rfl (ent Try.func33 (by kernel_rfl) rfl) (by show 6 ≤ Try.f33.ntmps; decide) (by kernel_rfl) ⟨rfl, trivial⟩ (fun cx hcx => ?_)
            exact ret_of (T := T0) hT hm (f := 5000) (orc := [.call [] (.v (.bool (F45 a1))) [], .d true, .call [] (.v (.bool (F46 a2))) [], .d true, .call [] (.v (.bool (F59 a3))) [], .d true, .call [] (.v (.bool (F59 a4))) [], .d false, .call [0] (iv (F53_L a0 false)) [], .d true]) [.slot 12 2] [] [2] hcx
              (obs := [.call 45 [(.a (k3 a1))] [] (.v (.bool (F45 a1))) [], .eq (F45 a1) true, .call 46 [(iv a2)] [] (.v (.bool (F46 a2))) [], .eq (F46 a2) true, .call 59 [(iv a3)] [] (.v (.bool (F59 a3))) [], .eq (F59 a3) true, .call 59 [(iv a4)] [] (.v (.bool (F59 a4))) [], .eq (F59 a4) false, (oC33_L_0 a0), .eq (((F53_L a0 false) : Int) != 0) true]) (by kernel_rfl) ⟨(C45 a1), h0, (C46 a2), h1, (C59 a3), h2, (C59 a4), h3, (C53_L a0 false (by (try simp only [List.length_append, List.length_cons, List.length_nil, Int.toNat_zero]); omega)), h4, trivial⟩
          | false =>
            have q4 := bne_eq_false_iff_eq.1 h4
            try have hq : TRQ a0 a1 a2 a3 a4 a5 := by first | exact trq_f h0 h1 h2 h3 h4 h5 | exact absurd (ckL_b h1) (by decide) | exact absurd (ckL_b h2) (by decide) | exact absurd (ckL_b h3) (by decide) | exact absurd (ckL_b h4) (by decide) | exact absurd (ckL_b h5) (by decide)
            try obtain ⟨hv, hx, hs, hb, hd, he⟩ := hq
            have e : (F33_L a0 a1 a2 a3 a4 a5) = (loopF (S33_L_0 a0 a1 a2 a3 a4 a5) (Int.toNat (a4 - a3 + 1) + 1) (([] : List (Int × Int)), a3)) := by simp only [F33_L, h0, h1, h2, h3, h4, cond_true, cond_false]
            rw [e]
            refine con_of (n := 9) Try.func33 rfl (ent Try.func33 (by kernel_rfl) rfl) (by show 6 ≤ Try.f33.ntmps; decide) (by kernel_rfl) ⟨rfl, trivial⟩ (fun cx hcx => ?_)
            refine enter_of (T := T0) hT hm (f := 5000) (orc := [.call [] (.v (.bool (F45 a1))) [], .d true, .call [] (.v (.bool (F46 a2))) [], .d true, .call [] (.v (.bool (F59 a3))) [], .d true, .call [] (.v (.bool (F59 a4))) [], .d false, .call [0] (iv (F53_L a0 false)) [], .d false]) [.slot 15 2] [0, 2, 4, 5, 7, 15, 16] [1, 2] hcx (body := B33_L_0) (k' := K33_L_0) (s' := ⟨[(.s 0 0 a0.length 11), .u, (iv a2), .u, (iv a4), (iv a5), .u, (.p 1 0), .u, .u, .u, .u, .u, .u, .u, (.s 2 0 0 2), (iv a3), .u, .u, .u, .u, .u, .u, .u, .u, .u, .u, .u, .u, .u, .u, .u, .u, .u, .u, .u, .u, .u, .u, .u, .u, .u, .u, .u, .u, .u, .u, .u, .u, .u, .u, .u, .u, .u, .u, .u, .u, .u, .u, .u, .u, .u, .u, .u, .u, .u, .u, .u, .u, .u, .u], [(.live false true (flat c41 a0)), (.live true false (k3 a1)), (.live true true (flat c32 ([] : List (Int × Int))))]⟩)
              (obs := [.call 45 [(.a (k3 a1))] [] (.v (.bool (F45 a1))) [], .eq (F45 a1) true, .call 46 [(iv a2)] [] (.v (.bool (F46 a2))) [], .eq (F46 a2) true, .call 59 [(iv a3)] [] (.v (.bool (F59 a3))) [], .eq (F59 a3) true, .call 59 [(iv a4)] [] (.v (.bool (F59 a4))) [], .eq (F59 a4) false, (oC33_L_0 a0), .eq (((F53_L a0 false) : Int) != 0) false]) (by kernel_rfl) ⟨(C45 a1), h0, (C46 a2), h1, (C59 a3), h2, (C59 a4), h3, (C53_L a0 false (by (try simp only [List.length_append, List.length_cons, List.length_nil, Int.toNat_zero]); omega)), h4, trivial⟩ ⟨Int.toNat (a4 - a3 + 1) + 1, ?_⟩
            exact L33_L_0 a0 a1 a2 a3 a4 a5 l0 hcx (Int.toNat (a4 - a3 + 1) + 1) ([] : List (Int × Int)) a3 (by refine ⟨?_, ?_, ?_, ?_, ?_, ?_, ?_, ?_, ?_⟩ <;> (try simp only [List.length_append, List.length_cons, List.length_nil, Int.toNat_zero]) <;> first | omega | assumption | exact hi.2.1 | exact hi.2.2.1 | exact hi.2.2.2.1 | exact hi.2.2.2.2.1 | exact hi.2.2.2.2.2.1 | exact hi.2.2.2.2.2.2.1 | exact hi.2.2.2.2.2.2.2.1 | exact hi.2.2.2.2.2.2.2.2.1 | simp) (by (try simp only [List.length_append, List.length_cons, List.length_nil, Int.toNat_zero]); omega)
      | false =>
        cases h3 : (((F53_L a0 false) : Int) != 0) with
        | true =>
          have q3 := bne_iff_ne.1 h3
          try have hq : TRQ a0 a1 a2 a3 a4 a5 := by first | exact trq_f h0 h1 h2 h3 h4 h5 | exact absurd (ckL_b h1) (by decide) | exact absurd (ckL_b h2) (by decide) | exact absurd (ckL_b h3) (by decide) | exact absurd (ckL_b h4) (by decide) | exact absurd (ckL_b h5) (by decide)
          try obtain ⟨hv, hx, hs, hb, hd, he⟩ := hq
          have e : (F33_L a0 a1 a2 a3 a4 a5) = (([] : List (Int × Int)), (F53_L a0 false)) := by simp only [F33_L, h0, h1, h2, h3, cond_true, cond_false]
          rw [e]
          refine con_of (n := 9) Try.func33 rfl (ent Try.func33 (by kernel_rfl) rfl) (by show 6 ≤ Try.f33.ntmps; decide) (by kernel_rfl) ⟨rfl, trivial⟩ (fun cx hcx => ?_)
          exact ret_of (T := T0) hT hm (f := 5000) (orc := [.call [] (.v (.bool (F45 a1))) [], .d true, .call [] (.v (.bool (F46 a2))) [], .d true, .call [] (.v (.bool (F59 a3))) [], .d false, .call [0] (iv (F53_L a0 false)) [], .d true]) [.slot 12 2] [] [2] hcx
            (obs := [.call 45 [(.a (k3 a1))] [] (.v (.bool (F45 a1))) [], .eq (F45 a1) true, .call 46 [(iv a2)] [] (.v (.bool (F46 a2))) [], .eq (F46 a2) true, .call 59 [(iv a3)] [] (.v (.bool (F59 a3))) [], .eq (F59 a3) false, (oC33_L_0 a0), .eq (((F53_L a0 false) : Int) != 0) true]) (by kernel_rfl) ⟨(C45 a1), h0, (C46 a2), h1, (C59 a3), h2, (C53_L a0 false (by (try simp only [List.length_append, List.length_cons, List.length_nil, Int.toNat_zero]); omega)), h3, trivial⟩
        | false =>
          have q3 := bne_eq_false_iff_eq.1 h3
          try have hq : TRQ a0 a1 a2 a3 a4 a5 := by first | exact trq_f h0 h1 h2 h3 h4 h5 | exact absurd (ckL_b h1) (by decide) | exact absurd (ckL_b h2) (by decide) | exact absurd (ckL_b h3) (by decide) | exact absurd (ckL_b h4) (by decide) | exact absurd (ckL_b h5) (by decide)
          try obtain ⟨hv, hx, hs, hb, hd, he⟩ := hq
          have e : (F33_L a0 a1 a2 a3 a4 a5) = (loopF (S33_L_0 a0 a1 a2 a3 a4 a5) (Int.toNat (a4 - a3 + 1) + 1) (([] : List (Int × Int)), a3)) := by simp only [F33_L, h0, h1, h2, h3, cond_true, cond_false]
          rw [e]
          refine con_of (n := 9) Try.func33 rfl (ent Try.func33 (by kernel_rfl) rfl) (by show 6 ≤ Try.f33.ntmps; decide) (by kernel_rfl) ⟨rfl, trivial⟩ (fun cx hcx => ?_)
          refine enter_of (T := T0) hT hm (f := 5000) (orc := [.call [] (.v (.bool (F45 a1))) [], .d true, .call [] (.v (.bool (F46 a2))) [], .d true, .call [] (.v (.bool (F59 a3))) [], .d false, .call [0] (iv (F53_L a0 false)) [], .d false]) [.slot 15 2] [0, 2, 4, 5, 7, 15, 16] [1, 2] hcx (body := B33_L_0) (k' := K33_L_0) (s' := ⟨[(.s 0 0 a0.length 11), .u, (iv a2), .u, (iv a4), (iv a5), .u, (.p 1 0), .u, .u, .u, .u, .u, .u, .u, (.s 2 0 0 2), (iv a3), .u, .u, .u, .u, .u, .u, .u, .u, .u, .u, .u, .u, .u, .u, .u, .u, .u, .u, .u, .u, .u, .u, .u, .u, .u, .u, .u, .u, .u, .u, .u, .u, .u, .u, .u, .u, .u, .u, .u, .u, .u, .u, .u, .u, .u, .u, .u, .u, .u, .u, .u, .u, .u, .u], [(.live false true (flat c41 a0)), (.live true false (k3 a1)), (.live true true (flat c32 ([] : List (Int × Int))))]⟩)
            (obs := [.call 45 [(.a (k3 a1))] [] (.v (.bool (F45 a1))) [], .eq (F45 a1) true, .call 46 [(iv a2)] [] (.v (.bool (F46 a2))) [], .eq (F46 a2) true, .call 59 [(iv a3)] [] (.v (.bool (F59 a3))) [], .eq (F59 a3) false, (oC33_L_0 a0), .eq (((F53_L a0 false) : Int) != 0) false]) (by kernel_rfl) ⟨(C45 a1), h0, (C46 a2), h1, (C59 a3), h2, (C53_L a0 false (by (try simp only [List.length_append, List.length_cons, List.length_nil, Int.toNat_zero]); omega)), h3, trivial⟩ ⟨Int.toNat (a4 - a3 + 1) + 1, ?_⟩
          exact L33_L_0 a0 a1 a2 a3 a4 a5 l0 hcx (Int.toNat (a4 - a3 + 1) + 1) ([] : List (Int × Int)) a3 (by refine ⟨?_, ?_, ?_, ?_, ?_, ?_, ?_, ?_, ?_⟩ <;> (try simp only [List.length_append, List.length_cons, List.length_nil, Int.toNat_zero]) <;> first | omega | assumption | exact hi.2.1 | exact hi.2.2.1 | exact hi.2.2.2.1 | exact hi.2.2.2.2.1 | exact hi.2.2.2.2.2.1 | exact hi.2.2.2.2.2.2.1 | exact hi.2.2.2.2.2.2.2.1 | exact hi.2.2.2.2.2.2.2.2.1 | simp) (by (try simp only [List.length_append, List.length_cons, List.length_nil, Int.toNat_zero]); omega)
    | false =>
      cases h2 : (((F53_L a0 false) : Int) != 0) with
      | true =>
        have q2 := bne_iff_ne.1 h2
        try have hq : TRQ a0 a1 a2 a3 a4 a5 := by first | exact trq_f h0 h1 h2 h3 h4 h5 | exact absurd (ckL_b h1) (by decide) | exact absurd (ckL_b h2) (by decide) | exact absurd (ckL_b h3) (by decide) | exact absurd (ckL_b h4) (by decide) | exact absurd (ckL_b h5) (by decide)
        try obtain ⟨hv, hx, hs, hb, hd, he⟩ := hq
        have e : (F33_L a0 a1 a2 a3 a4 a5) = (([] : List (Int × Int)), (F53_L a0 false)) := by simp only [F33_L, h0, h1, h2, cond_true, cond_false]
        rw [e]
        refine con_of (n := 9) Try.func33 rfl (ent Try.func33 (by kernel_rfl) rfl) (by show 6 ≤ Try.f33.ntmps; decide) (by kernel_rfl) ⟨rfl, trivial⟩ (fun cx hcx => ?_)
        exact ret_of (T := T0) hT hm (f := 5000) (orc := [.call [] (.v (.bool (F45 a1))) [], .d true, .call [] (.v (.bool (F46 a2))) [], .d false, .call [0] (iv (F53_L a0 false)) [], .d true]) [.slot 12 2] [] [2] hcx
          (obs := [.call 45 [(.a (k3 a1))] [] (.v (.bool (F45 a1))) [], .eq (F45 a1) true, .call 46 [(iv a2)] [] (.v (.bool (F46 a2))) [], .eq (F46 a2) false, (oC33_L_0 a0), .eq (((F53_L a0 false) : Int) != 0) true]) (by kernel_rfl) ⟨(C45 a1), h0, (C46 a2), h1, (C53_L a0 false (by (try simp only [List.length_append, List.length_cons, List.length_nil, Int.toNat_zero]); omega)), h2, trivial⟩
      | false =>
        have q2 := bne_eq_false_iff_eq.1 h2
        try have hq : TRQ a0 a1 a2 a3 a4 a5 := by first | exact trq_f h0 h1 h2 h3 h4 h5 | exact absurd (ckL_b h1) (by decide) | exact absurd (ckL_b h2) (by decide) | exact absurd (ckL_b h3) (by decide) | exact absurd (ckL_b h4) (by decide) | exact absurd (ckL_b h5) (by decide)
        try obtain ⟨hv, hx, hs, hb, hd, he⟩ := hq
        have e : (F33_L a0 a1 a2 a3 a4 a5) = (loopF (S33_L_0 a0 a1 a2 a3 a4 a5) (Int.toNat (a4 - a3 + 1) + 1) (([] : List (Int × Int)), a3)) := by simp only [F33_L, h0, h1, h2, cond_true, cond_false]
        rw [e]
        refine con_of (n := 9) Try.func33 rfl (ent Try.func33 (by kernel_rfl) rfl) (by show 6 ≤ Try.f33.ntmps; decide) (by kernel_rfl) ⟨rfl, trivial⟩ (fun cx hcx => ?_)
        refine enter_of (T := T0) hT hm (f := 5000) (orc := [.call [] (.v (.bool (F45 a1))) [], .d true, .call [] (.v (.bool (F46 a2))) [], .d false, .call [0] (iv (F53_L a0 false)) [], .d false]) [.slot 15 2] [0, 2, 4, 5, 7, 15, 16] [1, 2] hcx (body := B33_L_0) (k' := K33_L_0) (s' := ⟨[(.s 0 0 a0.length 11), .u, (iv a2), .u, (iv a4), (iv a5), .u, (.p 1 0), .u, .u, .u, .u, .u, .u, .u, (.s 2 0 0 2), (iv a3), .u, .u, .u, .u, .u, .u, .u, .u, .u, .u, .u, .u, .u, .u, .u, .u, .u, .u, .u, .u, .u, .u, .u, .u, .u, .u, .u, .u, .u, .u, .u, .u, .u, .u, .u, .u, .u, .u, .u, .u, .u, .u, .u, .u, .u, .u, .u, .u, .u, .u, .u, .u, .u, .u], [(.live false true (flat c41 a0)), (.live true false (k3 a1)), (.live true true (flat c32 ([] : List (Int × Int))))]⟩)
          (obs := [.call 45 [(.a (k3 a1))] [] (.v (.bool (F45 a1))) [], .eq (F45 a1) true, .call 46 [(iv a2)] [] (.v (.bool (F46 a2))) [], .eq (F46 a2) false, (oC33_L_0 a0), .eq (((F53_L a0 false) : Int) != 0) false]) (by kernel_rfl) ⟨(C45 a1), h0, (C46 a2), h1, (C53_L a0 false (by (try simp only [List.length_append, List.length_cons, List.length_nil, Int.toNat_zero]); omega)), h2, trivial⟩ ⟨Int.toNat (a4 - a3 + 1) + 1, ?_⟩
        exact L33_L_0 a0 a1 a2 a3 a4 a5 l0 hcx (Int.toNat (a4 - a3 + 1) + 1) ([] : List (Int × Int)) a3 (by refine ⟨?_, ?_, ?_, ?_, ?_, ?_, ?_, ?_, ?_⟩ <;> (try simp only [List.length_append, List.length_cons, List.length_nil, Int.toNat_zero]) <;> first | omega | assumption | exact hi.2.1 | exact hi.2.2.1 | exact hi.2.2.2.1 | exact hi.2.2.2.2.1 | exact hi.2.2.2.2.2.1 | exact hi.2.2.2.2.2.2.1 | exact hi.2.2.2.2.2.2.2.1 | exact hi.2.2.2.2.2.2.2.2.1 | simp) (by (try simp only [List.length_append, List.length_cons, List.length_nil, Int.toNat_zero]); omega)
  | false =>
    cases h1 : (((F53_L a0 false) : Int) != 0) with
    | true =>
      have q1 := bne_iff_ne.1 h1
      try have hq : TRQ a0 a1 a2 a3 a4 a5 := by first | exact trq_f h0 h1 h2 h3 h4 h5 | exact absurd (ckL_b h1) (by decide) | exact absurd (ckL_b h2) (by decide) | exact absurd (ckL_b h3) (by decide) | exact absurd (ckL_b h4) (by decide) | exact absurd (ckL_b h5) (by decide)
      try obtain ⟨hv, hx, hs, hb, hd, he⟩ := hq
      have e : (F33_L a0 a1 a2 a3 a4 a5) = (([] : List (Int × Int)), (F53_L a0 false)) := by simp only [F33_L, h0, h1, cond_true, cond_false]
      rw [e]
      refine con_of (n := 9) Try.func33 rfl (ent Try.func33 (by kernel_rfl) rfl) (by show 6 ≤ Try.f33.ntmps; decide) (by kernel_rfl) ⟨rfl, trivial⟩ (fun cx hcx => ?_)
      exact ret_of (T := T0) hT hm (f := 5000) (orc := [.call [] (.v (.bool (F45 a1))) [], .d false, .call [0] (iv (F53_L a0 false)) [], .d true]) [.slot 12 2] [] [2] hcx
        (obs := [.call 45 [(.a (k3 a1))] [] (.v (.bool (F45 a1))) [], .eq (F45 a1) false, (oC33_L_0 a0), .eq (((F53_L a0 false) : Int) != 0) true]) (by kernel_rfl) ⟨(C45 a1), h0, (C53_L a0 false (by (try simp only [List.length_append, List.length_cons, List.length_nil, Int.toNat_zero]); omega)), h1, trivial⟩
    | false =>
      have q1 := bne_eq_false_iff_eq.1 h1
      try have hq : TRQ a0 a1 a2 a3 a4 a5 := by first | exact trq_f h0 h1 h2 h3 h4 h5 | exact absurd (ckL_b h1) (by decide) | exact absurd (ckL_b h2) (by decide) | exact absurd (ckL_b h3) (by decide) | exact absurd (ckL_b h4) (by decide) | exact absurd (ckL_b h5) (by decide)
      try obtain ⟨hv, hx, hs, hb, hd, he⟩ := hq
      have e : (F33_L a0 a1 a2 a3 a4 a5) = (loopF (S33_L_0 a0 a1 a2 a3 a4 a5) (Int.toNat (a4 - a3 + 1) + 1) (([] : List (Int × Int)), a3)) := by simp only [F33_L, h0, h1, cond_true, cond_false]
      rw [e]
      refine con_of (n := 9) Try.func33 rfl (ent Try.func33 (by kernel_rfl) rfl) (by show 6 ≤ Try.f33.ntmps; decide) (by kernel_rfl) ⟨rfl, trivial⟩ (fun cx hcx => ?_)
      refine enter_of (T := T0) hT hm (f := 5000) (orc := [.call [] (.v (.bool (F45 a1))) [], .d false, .call [0] (iv (F53_L a0 false)) [], .d false]) [.slot 15 2] [0, 2, 4, 5, 7, 15, 16] [1, 2] hcx (body := B33_L_0) (k' := K33_L_0) (s' := ⟨[(.s 0 0 a0.length 11), .u, (iv a2), .u, (iv a4), (iv a5), .u, (.p 1 0), .u, .u, .u, .u, .u, .u, .u, (.s 2 0 0 2), (iv a3), .u, .u, .u, .u, .u, .u, .u, .u, .u, .u, .u, .u, .u, .u, .u, .u, .u, .u, .u, .u, .u, .u, .u, .u, .u, .u, .u, .u, .u, .u, .u, .u, .u, .u, .u, .u, .u, .u, .u, .u, .u, .u, .u, .u, .u, .u, .u, .u, .u, .u, .u, .u, .u, .u], [(.live false true (flat c41 a0)), (.live true false (k3 a1)), (.live true true (flat c32 ([] : List (Int × Int))))]⟩)
        (obs := [.call 45 [(.a (k3 a1))] [] (.v (.bool (F45 a1))) [], .eq (F45 a1) false, (oC33_L_0 a0), .eq (((F53_L a0 false) : Int) != 0) false]) (by kernel_rfl) ⟨(C45 a1), h0, (C53_L a0 false (by (try simp only [List.length_append, List.length_cons, List.length_nil, Int.toNat_zero]); omega)), h1, trivial⟩ ⟨Int.toNat (a4 - a3 + 1) + 1, ?_⟩
      exact L33_L_0 a0 a1 a2 a3 a4 a5 l0 hcx (Int.toNat (a4 - a3 + 1) + 1) ([] : List (Int × Int)) a3 (by refine ⟨?_, ?_, ?_, ?_, ?_, ?_, ?_, ?_, ?_⟩ <;> (try simp only [List.length_append, List.length_cons, List.length_nil, Int.toNat_zero]) <;> first | omega | assumption | exact hi.2.1 | exact hi.2.2.1 | exact hi.2.2.2.1 | exact hi.2.2.2.2.1 | exact hi.2.2.2.2.2.1 | exact hi.2.2.2.2.2.2.1 | exact hi.2.2.2.2.2.2.2.1 | exact hi.2.2.2.2.2.2.2.2.1 | simp) (by (try simp only [List.length_append, List.length_cons, List.length_nil, Int.toNat_zero]); omega)

noncomputable def B34_L_0 : Code := (loopAtD [1, 1, 1, 1, 1, 1, 1, 0, 1] [] (Try.f34.body.getD .skip) []).1
noncomputable def K34_L_0 : List K := (loopAtD [1, 1, 1, 1, 1, 1, 1, 0, 1] [] (Try.f34.body.getD .skip) []).2

/-- a round of loop 0 of facet/facetref08.Trace; the variables: v2 = s15, v3 = s16 -/
def S34_L_0 (a0 : List (((Int × Int × Int) × (Int × Int × Int) × Int × Int × Int) × Int × Int)) (a1 : Int × Int × Int) (a2 : Int) (a3 : Int) (a4 : Int) (a5 : Int) : (List (Int × Int)) × Int → ((List (Int × Int)) × Int) ⊕ ((List (Int × Int)) × Int)
  | (v2, v3) =>
   (bif (decide ((v3 : Int) ≤ a4)) then
    (bif (((F72_L a0 a1 a2 v3 a5).2 : Int) != 0) then
     (.inr (([] : List (Int × Int)), (F72_L a0 a1 a2 v3 a5).2))
    else
     (.inl ((v2 ++ [(F72_L a0 a1 a2 v3 a5).1]), (v3 + 1))))
   else
    (.inr (v2, 0)))

set_option maxHeartbeats 4000000 in
theorem L34_L_0 (a0 : List (((Int × Int × Int) × (Int × Int × Int) × Int × Int × Int) × Int × Int)) (a1 : Int × Int × Int) (a2 : Int) (a3 : Int) (a4 : Int) (a5 : Int) (l0 : a0.length ≤ 9223372036854775807) {cx : Cx} (hcx : cx.base = 1) : ∀ (n : Nat) (v2 : List (Int × Int)) (v3 : Int), (0 ≤ v3) ∧ (vpL a0 = 0) ∧ (bd 256 a1) ∧ (1 ≤ a2 ∧ a2 ≤ 16) ∧ (0 ≤ a5 ∧ a5 ≤ 3) ∧ (0 ≤ a3 ∧ a3 ≤ v3) ∧ (a4 ≤ 2000 ∧ a4 ≤ a3 + 200) ∧ (v2.length = Int.toNat (v3 - a3)) ∧ (v3 ≤ a4 + 1) → Int.toNat (a4 - v3 + 1) < n → Aw.Good Try.prog none 9 (bodyPost Try.prog Try.f34 (RR cx (.t [(.s 1 0 (loopF (S34_L_0 a0 a1 a2 a3 a4 a5) n (v2, v3)).1.length 2), (iv (loopF (S34_L_0 a0 a1 a2 a3 a4 a5) n (v2, v3)).2)]) [(.live true true (flat c32 (loopF (S34_L_0 a0 a1 a2 a3 a4 a5) n (v2, v3)).1))] [])) cx [] (.l B34_L_0 n :: K34_L_0) ⟨[(.s 0 0 a0.length 11), .u, (iv a2), .u, (iv a4), (iv a5), .u, (.p 1 0), .u, .u, .u, .u, .u, .u, .u, (.s 2 0 v2.length 2), (iv v3), .u, .u, .u, .u, .u, .u, .u, .u, .u, .u, .u, .u, .u, .u, .u, .u, .u, .u, .u, .u, .u, .u, .u, .u, .u, .u, .u, .u, .u, .u, .u, .u, .u, .u, .u, .u, .u, .u, .u, .u, .u, .u, .u, .u, .u], [(.live false true (flat c41 a0)), (.live true false (k3 a1)), (.live true true (flat c32 v2))]⟩ := by
  intro n
  induction n with
  | zero => intro v2 v3 hi hn; exact absurd hn (Nat.not_lt_zero _)
  | succ n ih =>
    intro v2 v3 hi hn
    refine good_round ?_
    cases h0 : (decide ((v3 : Int) ≤ a4)) with
    | true =>
      cases h1 : (((F72_L a0 a1 a2 v3 a5).2 : Int) != 0) with
      | true =>
        have q0 := of_decide_eq_true h0
        have q1 := bne_iff_ne.1 h1
        have e : S34_L_0 a0 a1 a2 a3 a4 a5 (v2, v3) = (.inr (([] : List (Int × Int)), (F72_L a0 a1 a2 v3 a5).2)) := by simp only [S34_L_0, h0, h1, cond_true, cond_false]
        rw [show loopF (S34_L_0 a0 a1 a2 a3 a4 a5) (n + 1) (v2, v3) = thenF (S34_L_0 a0 a1 a2 a3 a4 a5) n (S34_L_0 a0 a1 a2 a3 a4 a5 (v2, v3)) from rfl, e]
        exact ret_of (T := T0) hT hm (f := 5000) (orc := [.d true, .call [0] (.t [(.a (k2 (F72_L a0 a1 a2 v3 a5).1)), (iv (F72_L a0 a1 a2 v3 a5).2)]) [], .d true]) [.slot 12 2] [] [4] hcx
          (obs := [.eq (decide ((v3 : Int) ≤ a4)) true, .call 72 [(.s 0 0 a0.length 11), (.a (k3 a1)), (iv a2), (iv v3), (iv a5)] [(.live false true (flat c41 a0))] (.t [(.a (k2 (F72_L a0 a1 a2 v3 a5).1)), (iv (F72_L a0 a1 a2 v3 a5).2)]) [], .eq (((F72_L a0 a1 a2 v3 a5).2 : Int) != 0) true]) (by kernel_rfl) ⟨h0, (C72_L a0 a1 a2 v3 a5 (by (try simp only [List.length_append, List.length_cons, List.length_nil, Int.toNat_zero]); omega) hi.2.1 hi.2.2.1 (by omega) (by omega) (by omega)), h1, trivial⟩
      | false =>
        have q0 := of_decide_eq_true h0
        have q1 := bne_eq_false_iff_eq.1 h1
        have e : S34_L_0 a0 a1 a2 a3 a4 a5 (v2, v3) = (.inl ((v2 ++ [(F72_L a0 a1 a2 v3 a5).1]), (v3 + 1))) := by simp only [S34_L_0, h0, h1, cond_true, cond_false]
        rw [loopF_inl e]
        refine back_of (T := T0) hT hm (f := 5000) (orc := [.d true, .call [0] (.t [(.a (k2 (F72_L a0 a1 a2 v3 a5).1)), (iv (F72_L a0 a1 a2 v3 a5).2)]) [], .d false]) [] [0, 2, 4, 5, 7, 15, 16] [1, 5] hcx (body := B34_L_0) (m := n) (k' := K34_L_0) (s' := ⟨[(.s 0 0 a0.length 11), .u, (iv a2), .u, (iv a4), (iv a5), .u, (.p 1 0), .u, .u, .u, .u, .u, .u, .u, (.s 2 0 (v2.length + 1) 2), (iv (W (v3 + 1))), .u, .u, .u, .u, .u, .u, .u, .u, .u, .u, .u, .u, .u, .u, .u, .u, .u, .u, .u, .u, .u, .u, .u, .u, .u, .u, .u, .u, .u, .u, .u, .u, .u, .u, .u, .u, .u, .u, .u, .u, .u, .u, .u, .u, .u], [(.live false true (flat c41 a0)), (.live true false (k3 a1)), (.live true true (flat c32 v2 ++ (k2 (F72_L a0 a1 a2 v3 a5).1)))]⟩)
          (obs := [.eq (decide ((v3 : Int) ≤ a4)) true, .call 72 [(.s 0 0 a0.length 11), (.a (k3 a1)), (iv a2), (iv v3), (iv a5)] [(.live false true (flat c41 a0))] (.t [(.a (k2 (F72_L a0 a1 a2 v3 a5).1)), (iv (F72_L a0 a1 a2 v3 a5).2)]) [], .eq (((F72_L a0 a1 a2 v3 a5).2 : Int) != 0) false, .pr ((flat c32 v2).length = v2.length * 2 ∧ v2.length + 1 ≤ 2 ^ 40 ∧ (v2.length + 1) * 16 ≤ 2 ^ 47)]) (by kernel_rfl) ⟨h0, (C72_L a0 a1 a2 v3 a5 (by (try simp only [List.length_append, List.length_cons, List.length_nil, Int.toNat_zero]); omega) hi.2.1 hi.2.2.1 (by omega) (by omega) (by omega)), h1, (app_ok c32_len (by omega) (by omega)), trivial⟩ ?_
        have z0 : (W (v3 + 1)) = (v3 + 1) := W_eq (by omega) (by omega)
        have z1 : (flat c32 v2 ++ (k2 (F72_L a0 a1 a2 v3 a5).1)) = (flat c32 (v2 ++ [(F72_L a0 a1 a2 v3 a5).1])) := (flat_append (c := c32) (l := v2) (m := [(F72_L a0 a1 a2 v3 a5).1])).symm
        have z2 : (v2.length + 1) = (v2 ++ [(F72_L a0 a1 a2 v3 a5).1]).length := len_app v2 [(F72_L a0 a1 a2 v3 a5).1] rfl
        rw [z0, z1, z2]
        exact ih (v2 ++ [(F72_L a0 a1 a2 v3 a5).1]) (v3 + 1) (by refine ⟨?_, ?_, ?_, ?_, ?_, ?_, ?_, ?_, ?_⟩ <;> (try simp only [List.length_append, List.length_cons, List.length_nil, Int.toNat_zero]) <;> first | omega | assumption | exact hi.2.1 | exact hi.2.2.1 | exact hi.2.2.2.1 | exact hi.2.2.2.2.1 | exact hi.2.2.2.2.2.1 | exact hi.2.2.2.2.2.2.1 | exact hi.2.2.2.2.2.2.2.1 | exact hi.2.2.2.2.2.2.2.2.1 | simp) (by (try simp only [List.length_append, List.length_cons, List.length_nil, Int.toNat_zero]); omega)
    | false =>
      have q0 := of_decide_eq_false h0
      have e : S34_L_0 a0 a1 a2 a3 a4 a5 (v2, v3) = (.inr (v2, 0)) := by simp only [S34_L_0, h0, cond_true, cond_false]
      rw [show loopF (S34_L_0 a0 a1 a2 a3 a4 a5) (n + 1) (v2, v3) = thenF (S34_L_0 a0 a1 a2 a3 a4 a5) n (S34_L_0 a0 a1 a2 a3 a4 a5 (v2, v3)) from rfl, e]
      exact ret_of (T := T0) hT hm (f := 5000) (orc := [.d false]) [] [] [2] hcx
        (obs := [.eq (decide ((v3 : Int) ≤ a4)) false]) (by kernel_rfl) ⟨h0, trivial⟩

/-- facet/facetref08.Trace at ('L',) -/
def F34_L (a0 : List (((Int × Int × Int) × (Int × Int × Int) × Int × Int × Int) × Int × Int)) (a1 : Int × Int × Int) (a2 : Int) (a3 : Int) (a4 : Int) (a5 : Int) : (List (Int × Int)) × Int :=
  (bif (((F28_L a0) : Int) != 0) then
   (([] : List (Int × Int)), (F28_L a0))
  else
   (bif (((F49 a1 a2 a3 a5) : Int) != 0) then
    (([] : List (Int × Int)), (F49 a1 a2 a3 a5))
   else
    (bif (!(F65 a4 a3 (if (2000 : Int) < (W (a3 + 200)) then 2000 else (W (a3 + 200))))) then
     (([] : List (Int × Int)), 1)
    else
     (loopF (S34_L_0 a0 a1 a2 a3 a4 a5) (Int.toNat (a4 - a3 + 1) + 1) (([] : List (Int × Int)), a3)))))

noncomputable def oC34_L_0 (a0 : List (((Int × Int × Int) × (Int × Int × Int) × Int × Int × Int) × Int × Int)) : Ob := .call 28 [(.s 0 0 a0.length 11)] [(.live false true (flat c41 a0))] (iv (F28_L a0)) []
noncomputable def oC34_L_1 (a3 : Int) (a4 : Int) : Ob := .call 65 [(iv a4), (iv a3), (iv (if (2000 : Int) < (W (a3 + 200)) then 2000 else (W (a3 + 200))))] [] (.v (.bool (F65 a4 a3 (if (2000 : Int) < (W (a3 + 200)) then 2000 else (W (a3 + 200)))))) []
theorem C34_L (a0 : List (((Int × Int × Int) × (Int × Int × Int) × Int × Int × Int) × Int × Int)) (a1 : Int × Int × Int) (a2 : Int) (a3 : Int) (a4 : Int) (a5 : Int) (l0 : a0.length ≤ 9223372036854775807) : Con Try.prog 34 [(.s 0 0 a0.length 11), (.a (k3 a1)), (iv a2), (iv a3), (iv a4), (iv a5)] [(.live false true (flat c41 a0))] (.t [(.s 1 0 (F34_L a0 a1 a2 a3 a4 a5).1.length 2), (iv (F34_L a0 a1 a2 a3 a4 a5).2)]) [(.live true true (flat c32 (F34_L a0 a1 a2 a3 a4 a5).1))] := by
  cases h0 : (((F28_L a0) : Int) != 0) with
  | true =>
    have q0 := bne_iff_ne.1 h0
    try have hq : TRQ a0 a1 a2 a3 a4 a5 := trq_r h0 h1 h2
    try obtain ⟨hv, hx, hs, hb, hd, he⟩ := hq
    have e : (F34_L a0 a1 a2 a3 a4 a5) = (([] : List (Int × Int)), (F28_L a0)) := by simp only [F34_L, h0, cond_true, cond_false]
    rw [e]
    refine con_of (n := 9) Try.func34 rfl (ent Try.func34 (by kernel_rfl) rfl) (by show 6 ≤ Try.f34.ntmps; decide) (by kernel_rfl) ⟨rfl, trivial⟩ (fun cx hcx => ?_)
    exact ret_of (T := T0) hT hm (f := 5000) (orc := [.call [0] (iv (F28_L a0)) [], .d true]) [.slot 12 2] [] [2] hcx
      (obs := [(oC34_L_0 a0), .eq (((F28_L a0) : Int) != 0) true]) (by kernel_rfl) ⟨(C28_L a0 (by (try simp only [List.length_append, List.length_cons, List.length_nil, Int.toNat_zero]); omega)), h0, trivial⟩
  | false =>
    cases h1 : (((F49 a1 a2 a3 a5) : Int) != 0) with
    | true =>
      have q0 := bne_eq_false_iff_eq.1 h0
      have q1 := bne_iff_ne.1 h1
      try have hq : TRQ a0 a1 a2 a3 a4 a5 := trq_r h0 h1 h2
      try obtain ⟨hv, hx, hs, hb, hd, he⟩ := hq
      have e : (F34_L a0 a1 a2 a3 a4 a5) = (([] : List (Int × Int)), (F49 a1 a2 a3 a5)) := by simp only [F34_L, h0, h1, cond_true, cond_false]
      rw [e]
      refine con_of (n := 9) Try.func34 rfl (ent Try.func34 (by kernel_rfl) rfl) (by show 6 ≤ Try.f34.ntmps; decide) (by kernel_rfl) ⟨rfl, trivial⟩ (fun cx hcx => ?_)
      exact ret_of (T := T0) hT hm (f := 5000) (orc := [.call [0] (iv (F28_L a0)) [], .d false, .call [] (iv (F49 a1 a2 a3 a5)) [], .d true]) [.slot 12 2] [] [2] hcx
        (obs := [(oC34_L_0 a0), .eq (((F28_L a0) : Int) != 0) false, .call 49 [(.a (k3 a1)), (iv a2), (iv a3), (iv a5)] [] (iv (F49 a1 a2 a3 a5)) [], .eq (((F49 a1 a2 a3 a5) : Int) != 0) true]) (by kernel_rfl) ⟨(C28_L a0 (by (try simp only [List.length_append, List.length_cons, List.length_nil, Int.toNat_zero]); omega)), h0, (C49 a1 a2 a3 a5), h1, trivial⟩
    | false =>
      cases h2 : (!(F65 a4 a3 (if (2000 : Int) < (W (a3 + 200)) then 2000 else (W (a3 + 200))))) with
      | true =>
        have q0 := bne_eq_false_iff_eq.1 h0
        have q1 := bne_eq_false_iff_eq.1 h1
        try have hq : TRQ a0 a1 a2 a3 a4 a5 := trq_r h0 h1 h2
        try obtain ⟨hv, hx, hs, hb, hd, he⟩ := hq
        have e : (F34_L a0 a1 a2 a3 a4 a5) = (([] : List (Int × Int)), 1) := by simp only [F34_L, h0, h1, h2, cond_true, cond_false]
        rw [e]
        refine con_of (n := 9) Try.func34 rfl (ent Try.func34 (by kernel_rfl) rfl) (by show 6 ≤ Try.f34.ntmps; decide) (by kernel_rfl) ⟨rfl, trivial⟩ (fun cx hcx => ?_)
        exact ret_of (T := T0) hT hm (f := 5000) (orc := [.call [0] (iv (F28_L a0)) [], .d false, .call [] (iv (F49 a1 a2 a3 a5)) [], .d false, .call [] (.v (.bool (F65 a4 a3 (if (2000 : Int) < (W (a3 + 200)) then 2000 else (W (a3 + 200)))))) [], .d true]) [.slot 12 2] [] [2] hcx
          (obs := [(oC34_L_0 a0), .eq (((F28_L a0) : Int) != 0) false, .call 49 [(.a (k3 a1)), (iv a2), (iv a3), (iv a5)] [] (iv (F49 a1 a2 a3 a5)) [], .eq (((F49 a1 a2 a3 a5) : Int) != 0) false, (oC34_L_1 a3 a4), .eq (!(F65 a4 a3 (if (2000 : Int) < (W (a3 + 200)) then 2000 else (W (a3 + 200))))) true]) (by kernel_rfl) ⟨(C28_L a0 (by (try simp only [List.length_append, List.length_cons, List.length_nil, Int.toNat_zero]); omega)), h0, (C49 a1 a2 a3 a5), h1, (C65 a4 a3 (if (2000 : Int) < (W (a3 + 200)) then 2000 else (W (a3 + 200)))), h2, trivial⟩
      | false =>
        have q0 := bne_eq_false_iff_eq.1 h0
        have q1 := bne_eq_false_iff_eq.1 h1
        try have hq : TRQ a0 a1 a2 a3 a4 a5 := trq_r h0 h1 h2
        try obtain ⟨hv, hx, hs, hb, hd, he⟩ := hq
        have e : (F34_L a0 a1 a2 a3 a4 a5) = (loopF (S34_L_0 a0 a1 a2 a3 a4 a5) (Int.toNat (a4 - a3 + 1) + 1) (([] : List (Int × Int)), a3)) := by simp only [F34_L, h0, h1, h2, cond_true, cond_false]
        rw [e]
        refine con_of (n := 9) Try.func34 rfl (ent Try.func34 (by kernel_rfl) rfl) (by show 6 ≤ Try.f34.ntmps; decide) (by kernel_rfl) ⟨rfl, trivial⟩ (fun cx hcx => ?_)
        refine enter_of (T := T0) hT hm (f := 5000) (orc := [.call [0] (iv (F28_L a0)) [], .d false, .call [] (iv (F49 a1 a2 a3 a5)) [], .d false, .call [] (.v (.bool (F65 a4 a3 (if (2000 : Int) < (W (a3 + 200)) then 2000 else (W (a3 + 200)))))) [], .d false]) [.slot 15 2] [0, 2, 4, 5, 7, 15, 16] [1, 2] hcx (body := B34_L_0) (k' := K34_L_0) (s' := ⟨[(.s 0 0 a0.length 11), .u, (iv a2), .u, (iv a4), (iv a5), .u, (.p 1 0), .u, .u, .u, .u, .u, .u, .u, (.s 2 0 0 2), (iv a3), .u, .u, .u, .u, .u, .u, .u, .u, .u, .u, .u, .u, .u, .u, .u, .u, .u, .u, .u, .u, .u, .u, .u, .u, .u, .u, .u, .u, .u, .u, .u, .u, .u, .u, .u, .u, .u, .u, .u, .u, .u, .u, .u, .u, .u], [(.live false true (flat c41 a0)), (.live true false (k3 a1)), (.live true true (flat c32 ([] : List (Int × Int))))]⟩)
          (obs := [(oC34_L_0 a0), .eq (((F28_L a0) : Int) != 0) false, .call 49 [(.a (k3 a1)), (iv a2), (iv a3), (iv a5)] [] (iv (F49 a1 a2 a3 a5)) [], .eq (((F49 a1 a2 a3 a5) : Int) != 0) false, (oC34_L_1 a3 a4), .eq (!(F65 a4 a3 (if (2000 : Int) < (W (a3 + 200)) then 2000 else (W (a3 + 200))))) false]) (by kernel_rfl) ⟨(C28_L a0 (by (try simp only [List.length_append, List.length_cons, List.length_nil, Int.toNat_zero]); omega)), h0, (C49 a1 a2 a3 a5), h1, (C65 a4 a3 (if (2000 : Int) < (W (a3 + 200)) then 2000 else (W (a3 + 200)))), h2, trivial⟩ ⟨Int.toNat (a4 - a3 + 1) + 1, ?_⟩
        exact L34_L_0 a0 a1 a2 a3 a4 a5 l0 hcx (Int.toNat (a4 - a3 + 1) + 1) ([] : List (Int × Int)) a3 (by refine ⟨?_, ?_, ?_, ?_, ?_, ?_, ?_, ?_, ?_⟩ <;> (try simp only [List.length_append, List.length_cons, List.length_nil, Int.toNat_zero]) <;> first | omega | assumption | exact hi.2.1 | exact hi.2.2.1 | exact hi.2.2.2.1 | exact hi.2.2.2.2.1 | exact hi.2.2.2.2.2.1 | exact hi.2.2.2.2.2.2.1 | exact hi.2.2.2.2.2.2.2.1 | exact hi.2.2.2.2.2.2.2.2.1 | simp) (by (try simp only [List.length_append, List.length_cons, List.length_nil, Int.toNat_zero]); omega)

noncomputable def B35_L_L_0 : Code := (loopAtD [1, 1, 0, 1] [] (Try.f35.body.getD .skip) []).1
noncomputable def K35_L_L_0 : List K := (loopAtD [1, 1, 0, 1] [] (Try.f35.body.getD .skip) []).2

/-- a round of loop 0 of facet/facetref05.SameSpans; the variables: v1 = s5 -/
def S35_L_L_0 (a0 : List (Int × Int)) (a1 : List (Int × Int)) : Int → (Int) ⊕ (Bool)
  | v1 =>
   (bif (decide ((v1 : Int) < ((a0.length : Nat) : Int))) then
    (bif (!((((a0.getD (Int.toNat v1) default).1 : Int) == (a1.getD (Int.toNat v1) default).1) && ((((a0.getD (Int.toNat v1) default).2 : Int) == (a1.getD (Int.toNat v1) default).2) && true))) then
     (.inr false)
    else
     (.inl (v1 + 1)))
   else
    (.inr true))

set_option maxHeartbeats 4000000 in
theorem L35_L_L_0 (a0 : List (Int × Int)) (a1 : List (Int × Int)) (l0 : a0.length ≤ 9223372036854775807) (l1 : a1.length ≤ 9223372036854775807) {cx : Cx} (hcx : cx.base = 2) : ∀ (n : Nat) (v1 : Int), (0 ≤ v1) ∧ (a0.length = a1.length) → Int.toNat (((a0.length : Nat) : Int) - v1) < n → Aw.Good Try.prog none 9 (bodyPost Try.prog Try.f35 (RR cx (.v (.bool (loopF (S35_L_L_0 a0 a1) n v1))) [] [])) cx [] (.l B35_L_L_0 n :: K35_L_L_0) ⟨[(.s 0 0 a0.length 2), (.s 1 0 a1.length 2), .u, .u, .u, (iv v1), .u, .u, .u, .u, .u, .u, .u, .u, .u, .u, .u, .u, .u, .u, .u, .u, .u, .u, .u, .u], [(.live false true (flat c32 a0)), (.live false true (flat c32 a1))]⟩ := by
  intro n
  induction n with
  | zero => intro v1 hi hn; exact absurd hn (Nat.not_lt_zero _)
  | succ n ih =>
    intro v1 hi hn
    refine good_round ?_
    cases h0 : (decide ((v1 : Int) < ((a0.length : Nat) : Int))) with
    | true =>
      cases h1 : (!((((a0.getD (Int.toNat v1) default).1 : Int) == (a1.getD (Int.toNat v1) default).1) && ((((a0.getD (Int.toNat v1) default).2 : Int) == (a1.getD (Int.toNat v1) default).2) && true))) with
      | true =>
        have q0 := of_decide_eq_true h0
        have e : S35_L_L_0 a0 a1 v1 = (.inr false) := by simp only [S35_L_L_0, h0, h1, cond_true, cond_false]
        rw [show loopF (S35_L_L_0 a0 a1) (n + 1) v1 = thenF (S35_L_L_0 a0 a1) n (S35_L_L_0 a0 a1 v1) from rfl, e]
        exact ret_of (T := T0) hT hm (f := 5000) (orc := [.d true, .ld (k2 (a0.getD (Int.toNat v1) default)), .ld (k2 (a1.getD (Int.toNat v1) default)), .d true]) [] [] [] hcx
          (obs := [.eq (decide ((v1 : Int) < ((a0.length : Nat) : Int))) true, .pr (0 ≤ (v1 : Int) ∧ (v1 : Int) < ((a0.length : Nat) : Int)), .pr (((((flat c32 a0)).drop (0 + Int.toNat v1 * 2)).take 2) = (k2 (a0.getD (Int.toNat v1) default))), .pr (0 ≤ (v1 : Int) ∧ (v1 : Int) < ((a1.length : Nat) : Int)), .pr (((((flat c32 a1)).drop (0 + Int.toNat v1 * 2)).take 2) = (k2 (a1.getD (Int.toNat v1) default))), .eq (!((((a0.getD (Int.toNat v1) default).1 : Int) == (a1.getD (Int.toNat v1) default).1) && ((((a0.getD (Int.toNat v1) default).2 : Int) == (a1.getD (Int.toNat v1) default).2) && true))) true]) (by kernel_rfl) ⟨h0, (show 0 ≤ (v1 : Int) ∧ (v1 : Int) < ((a0.length : Nat) : Int) from by first | omega | (rw [W_eq] <;> omega) | exact u64_nn _), (ld_part c32_len default a0 v1 0 2 (by omega) (by decide) (by omega) rfl), (show 0 ≤ (v1 : Int) ∧ (v1 : Int) < ((a1.length : Nat) : Int) from by first | omega | (rw [W_eq] <;> omega) | exact u64_nn _), (ld_part c32_len default a1 v1 0 2 (by omega) (by decide) (by omega) rfl), h1, trivial⟩
      | false =>
        have q0 := of_decide_eq_true h0
        have e : S35_L_L_0 a0 a1 v1 = (.inl (v1 + 1)) := by simp only [S35_L_L_0, h0, h1, cond_true, cond_false]
        rw [loopF_inl e]
        refine back_of (T := T0) hT hm (f := 5000) (orc := [.d true, .ld (k2 (a0.getD (Int.toNat v1) default)), .ld (k2 (a1.getD (Int.toNat v1) default)), .d false]) [] [0, 1, 5] [] hcx (body := B35_L_L_0) (m := n) (k' := K35_L_L_0) (s' := ⟨[(.s 0 0 a0.length 2), (.s 1 0 a1.length 2), .u, .u, .u, (iv (W (v1 + 1))), .u, .u, .u, .u, .u, .u, .u, .u, .u, .u, .u, .u, .u, .u, .u, .u, .u, .u, .u, .u], [(.live false true (flat c32 a0)), (.live false true (flat c32 a1))]⟩)
          (obs := [.eq (decide ((v1 : Int) < ((a0.length : Nat) : Int))) true, .pr (0 ≤ (v1 : Int) ∧ (v1 : Int) < ((a0.length : Nat) : Int)), .pr (((((flat c32 a0)).drop (0 + Int.toNat v1 * 2)).take 2) = (k2 (a0.getD (Int.toNat v1) default))), .pr (0 ≤ (v1 : Int) ∧ (v1 : Int) < ((a1.length : Nat) : Int)), .pr (((((flat c32 a1)).drop (0 + Int.toNat v1 * 2)).take 2) = (k2 (a1.getD (Int.toNat v1) default))), .eq (!((((a0.getD (Int.toNat v1) default).1 : Int) == (a1.getD (Int.toNat v1) default).1) && ((((a0.getD (Int.toNat v1) default).2 : Int) == (a1.getD (Int.toNat v1) default).2) && true))) false]) (by kernel_rfl) ⟨h0, (show 0 ≤ (v1 : Int) ∧ (v1 : Int) < ((a0.length : Nat) : Int) from by first | omega | (rw [W_eq] <;> omega) | exact u64_nn _), (ld_part c32_len default a0 v1 0 2 (by omega) (by decide) (by omega) rfl), (show 0 ≤ (v1 : Int) ∧ (v1 : Int) < ((a1.length : Nat) : Int) from by first | omega | (rw [W_eq] <;> omega) | exact u64_nn _), (ld_part c32_len default a1 v1 0 2 (by omega) (by decide) (by omega) rfl), h1, trivial⟩ ?_
        have z0 : (W (v1 + 1)) = (v1 + 1) := W_eq (by omega) (by omega)
        rw [z0]
        exact ih (v1 + 1) (by refine ⟨?_, ?_⟩ <;> (try simp only [List.length_append, List.length_cons, List.length_nil, Int.toNat_zero]) <;> first | omega | assumption | simp) (by (try simp only [List.length_append, List.length_cons, List.length_nil, Int.toNat_zero]); omega)
    | false =>
      have q0 := of_decide_eq_false h0
      have e : S35_L_L_0 a0 a1 v1 = (.inr true) := by simp only [S35_L_L_0, h0, cond_true, cond_false]
      rw [show loopF (S35_L_L_0 a0 a1) (n + 1) v1 = thenF (S35_L_L_0 a0 a1) n (S35_L_L_0 a0 a1 v1) from rfl, e]
      exact ret_of (T := T0) hT hm (f := 5000) (orc := [.d false]) [] [] [] hcx
        (obs := [.eq (decide ((v1 : Int) < ((a0.length : Nat) : Int))) false]) (by kernel_rfl) ⟨h0, trivial⟩

/-- facet/facetref05.SameSpans at ('L', 'L') -/
def F35_L_L (a0 : List (Int × Int)) (a1 : List (Int × Int)) : Bool :=
  (bif ((((a0.length : Nat) : Int) : Int) != ((a1.length : Nat) : Int)) then
   false
  else
   (loopF (S35_L_L_0 a0 a1) (Int.toNat (((a0.length : Nat) : Int) - 0) + 1) 0))

theorem C35_L_L (a0 : List (Int × Int)) (a1 : List (Int × Int)) (l0 : a0.length ≤ 9223372036854775807) (l1 : a1.length ≤ 9223372036854775807) : Con Try.prog 35 [(.s 0 0 a0.length 2), (.s 1 0 a1.length 2)] [(.live false true (flat c32 a0)), (.live false true (flat c32 a1))] (.v (.bool (F35_L_L a0 a1))) [] := by
  cases h0 : ((((a0.length : Nat) : Int) : Int) != ((a1.length : Nat) : Int)) with
  | true =>
    have q0 := bne_iff_ne.1 h0
    have e : (F35_L_L a0 a1) = false := by simp only [F35_L_L, h0, cond_true, cond_false]
    rw [e]
    refine con_of (n := 9) Try.func35 rfl (ent Try.func35 (by kernel_rfl) rfl) (by show 2 ≤ Try.f35.ntmps; decide) (by kernel_rfl) ⟨rfl, rfl, trivial⟩ (fun cx hcx => ?_)
    exact ret_of (T := T0) hT hm (f := 5000) (orc := [.d true]) [] [] [] hcx
      (obs := [.eq ((((a0.length : Nat) : Int) : Int) != ((a1.length : Nat) : Int)) true]) (by kernel_rfl) ⟨h0, trivial⟩
  | false =>
    have q0 := bne_eq_false_iff_eq.1 h0
    have e : (F35_L_L a0 a1) = (loopF (S35_L_L_0 a0 a1) (Int.toNat (((a0.length : Nat) : Int) - 0) + 1) 0) := by simp only [F35_L_L, h0, cond_true, cond_false]
    rw [e]
    refine con_of (n := 9) Try.func35 rfl (ent Try.func35 (by kernel_rfl) rfl) (by show 2 ≤ Try.f35.ntmps; decide) (by kernel_rfl) ⟨rfl, rfl, trivial⟩ (fun cx hcx => ?_)
    refine enter_of (T := T0) hT hm (f := 5000) (orc := [.d false]) [] [0, 1, 5] [] hcx (body := B35_L_L_0) (k' := K35_L_L_0) (s' := ⟨[(.s 0 0 a0.length 2), (.s 1 0 a1.length 2), .u, .u, .u, (iv 0), .u, .u, .u, .u, .u, .u, .u, .u, .u, .u, .u, .u, .u, .u, .u, .u, .u, .u, .u, .u], [(.live false true (flat c32 a0)), (.live false true (flat c32 a1))]⟩)
      (obs := [.eq ((((a0.length : Nat) : Int) : Int) != ((a1.length : Nat) : Int)) false]) (by kernel_rfl) ⟨h0, trivial⟩ ⟨Int.toNat (((a0.length : Nat) : Int) - 0) + 1, ?_⟩
    exact L35_L_L_0 a0 a1 l0 l1 hcx (Int.toNat (((a0.length : Nat) : Int) - 0) + 1) 0 (by refine ⟨?_, ?_⟩ <;> (try simp only [List.length_append, List.length_cons, List.length_nil, Int.toNat_zero]) <;> first | omega | assumption | simp) (by (try simp only [List.length_append, List.length_cons, List.length_nil, Int.toNat_zero]); omega)

end Go.Proofs.Ytopbnnmkdildgaa

namespace Go.Proofs.Ytopbnnmkdildgaa
open Go.Proofs Go.Aw Go.RowKit
set_option maxRecDepth 100000
set_option linter.unusedVariables false
set_option linter.unusedSimpArgs false

/-! ### What is heard from one tick to another one: the list -/
def ticks (b : Int) (n : Nat) : List Int := (List.range n).map fun (i : Nat) => b + (i : Int)
theorem ticks_len (b : Int) (n : Nat) : (ticks b n).length = n := by simp [ticks]
theorem ticks_get {b : Int} {n i : Nat} {c : Int} (h : (ticks b n)[i]? = some c) : c = b + (i : Int) ∧ i < n := by
  unfold ticks at h
  rw [List.getElem?_map] at h
  by_cases hi : i < n
  · rw [List.getElem?_range hi] at h
    simp only [Option.map_some, Option.some.injEq] at h
    exact ⟨h.symm, hi⟩
  · rw [List.getElem?_eq_none (by simpa using hi)] at h
    simp at h
theorem shs_loopFo {α β R : Type} [Inhabited R] {g : α → β × Int} {S : List β × Int → (List β × Int) ⊕ R} {G : List β → R} {E : Int → R} {L : List α} {b : Int}
    (hS : ∀ (i : Nat) (c : α), L[i]? = some c → ∀ l : List β, S (l, b + (i : Int)) = bif ((g c).2 != 0) then .inr (E (g c).2) else .inl (l ++ [(g c).1], b + ((i + 1 : Nat) : Int)))
    (hE : ∀ l : List β, S (l, b + (L.length : Int)) = .inr (G l)) (n : Nat) (l : List β) (hn : L.length < n) : loopF S n (l, b) = out8 G E (shs g L l) := by
  have key : ∀ (k : List α) (i n : Nat) (l : List β), L.drop i = k → i ≤ L.length → k.length < n → loopF S n (l, b + (i : Int)) = out8 G E (shs g k l) := by
    intro k
    induction k with
    | nil =>
      intro i n l hd hi' hn
      have : i = L.length := by have := List.drop_eq_nil_iff.1 hd; omega
      obtain ⟨n, rfl⟩ : ∃ m, n = m + 1 := ⟨n - 1, by simp only [List.length_nil] at hn; omega⟩
      subst this
      rw [loopF_inr (hE _)]; rfl
    | cons c k ih =>
      intro i n l hd hi' hn
      have hc : L[i]? = some c := by
        have : (L.drop i)[0]? = some c := by rw [hd]; rfl
        simpa using this
      obtain ⟨hlt, hce⟩ := List.getElem?_eq_some_iff.1 hc
      obtain ⟨n, rfl⟩ : ∃ m, n = m + 1 := ⟨n - 1, by omega⟩
      have h1 := hS i c hc l
      unfold shs
      by_cases h : (g c).2 = 0
      · rw [h] at h1
        rw [loopF_inl h1, if_pos h]
        exact ih (i + 1) n _ (by rw [← List.drop_drop, hd]; rfl) (by omega) (by simp only [List.length_cons] at hn; omega)
      · rw [bne_iff_ne.2 h, cond_true] at h1
        rw [loopF_inr h1, if_neg h]; rfl
  have := key L 0 n l rfl (Nat.zero_le _) hn
  rwa [show b + ((0 : Nat) : Int) = b by simp] at this
def TRA (x : P3) (s b e d : Int) : Prop := bd 256 x ∧ (1 ≤ s ∧ s ≤ 16) ∧ (0 ≤ b ∧ b ≤ 2000) ∧ (0 ≤ d ∧ d ≤ 3) ∧ (e ≤ 2000 ∧ b ≤ e ∧ e ≤ b + 200)
noncomputable def trL (l : List PU) (x : P3) (s b e d : Int) : List (Int × Int) × Int := out8 (fun m => (m, 0)) (fun r => ([], r)) (shs (fun t => scS l x s t d) (ticks b (Int.toNat (e - b + 1))) [])
noncomputable def trV (l : List PU) (x : P3) (s b e d : Int) : List (Int × Int) × Int :=
  open Classical in if vpL l = 0 then (if TRA x s b e d then trL l x s b e d else ([], 1)) else ([], vpL l)
theorem tr_f {l : List PU} {x : P3} {s b e d : Int} (hv : vpL l = 0) (h : TRA x s b e d) : loopF (S33_L_0 l x s b e d) (Int.toNat (e - b + 1) + 1) (([] : List (Int × Int)), b) = trL l x s b e d := by
  obtain ⟨hx, hs, hb, hd, he⟩ := h
  refine shs_loopFo (g := fun t => scS l x s t d) (L := ticks b (Int.toNat (e - b + 1))) (G := fun m => (m, (0 : Int))) (E := fun r => (([] : List (Int × Int)), r)) (fun i c hi m => ?_) (fun m => ?_) _ _ (by rw [ticks_len]; omega)
  · obtain ⟨rfl, hlt⟩ := ticks_get hi
    simp only [S33_L_0]
    rw [decide_eq_true (show b + ((i : Nat) : Int) ≤ e by omega), cond_true, scene_f hv hx hs (by omega) hd, show b + (i : Int) + 1 = b + ((i + 1 : Nat) : Int) by omega]
  · simp only [S33_L_0]
    rw [ticks_len, decide_eq_false (by omega), cond_false]
theorem tr_r {l : List PU} {x : P3} {s b e d : Int} (hv : vpL l = 0) (h : TRA x s b e d) : loopF (S34_L_0 l x s b e d) (Int.toNat (e - b + 1) + 1) (([] : List (Int × Int)), b) = trL l x s b e d := by
  obtain ⟨hx, hs, hb, hd, he⟩ := h
  refine shs_loopFo (g := fun t => scS l x s t d) (L := ticks b (Int.toNat (e - b + 1))) (G := fun m => (m, (0 : Int))) (E := fun r => (([] : List (Int × Int)), r)) (fun i c hi m => ?_) (fun m => ?_) _ _ (by rw [ticks_len]; omega)
  · obtain ⟨rfl, hlt⟩ := ticks_get hi
    simp only [S34_L_0]
    rw [decide_eq_true (show b + ((i : Nat) : Int) ≤ e by omega), cond_true, scene_r hv hx hs (by omega) hd, show b + (i : Int) + 1 = b + ((i + 1 : Nat) : Int) by omega]
  · simp only [S34_L_0]
    rw [ticks_len, decide_eq_false (by omega), cond_false]
theorem chkL_ff (l : List PU) : F53_L l false = if vpL l = 0 then 1 else vpL l := by
  rw [chkL_f]; split <;> simp
theorem chkL_bad {l : List PU} {α : Type} (a : α) (E : Int → α) : (bif ((F53_L l false : Int) != 0) then E (F53_L l false) else a) = if vpL l = 0 then E 1 else E (vpL l) := by
  rw [chkL_ff]
  by_cases h : vpL l = 0
  · rw [if_pos h, if_pos h]; rfl
  · rw [if_neg h, if_neg h, bne_iff_ne.2 h]; rfl
open Classical in
theorem Trace_f (l : List PU) (x : P3) (s b e d : Int) : F33_L l x s b e d = trV l x s b e d := by
  unfold F33_L
  rw [isP_f, isS_f, isT_f, isT_f, isD_f]
  have bad : ¬ TRA x s b e d → trV l x s b e d = if vpL l = 0 then (([] : List (Int × Int)), (1 : Int)) else ([], vpL l) := fun h => by
    unfold trV; rw [if_neg h]
  by_cases h1 : bd 256 x
  · by_cases h2 : 1 ≤ s ∧ s ≤ 16
    · by_cases h3 : 0 ≤ b ∧ b ≤ 2000
      · by_cases h4 : 0 ≤ e ∧ e ≤ 2000
        · by_cases h5 : 0 ≤ d ∧ d ≤ 3
          · rw [decide_eq_true h1, decide_eq_true h2, decide_eq_true h3, decide_eq_true h4, decide_eq_true h5]
            simp only [cond_true]
            rw [sfrom_eq, W_eq (n := e - b) (by omega) (by omega)]
            by_cases h6 : 0 ≤ e - b ∧ e - b ≤ 200
            · have hT : TRA x s b e d := ⟨h1, h2, h3, h5, by omega⟩
              rw [decide_eq_true h6, chkL_f]
              unfold trV
              by_cases h : vpL l = 0
              · rw [if_pos h, if_pos h, if_pos rfl, if_pos hT]
                exact tr_f h hT
              · rw [if_neg h, if_neg h, bne_iff_ne.2 h]; rfl
            · rw [decide_eq_false h6, bad (by unfold TRA; omega)]
              exact chkL_bad _ (fun r => (([] : List (Int × Int)), r))
          · rw [decide_eq_true h1, decide_eq_true h2, decide_eq_true h3, decide_eq_true h4, decide_eq_false h5, bad (by unfold TRA; omega)]
            exact chkL_bad _ (fun r => (([] : List (Int × Int)), r))
        · rw [decide_eq_true h1, decide_eq_true h2, decide_eq_true h3, decide_eq_false h4, bad (by unfold TRA; omega)]
          exact chkL_bad _ (fun r => (([] : List (Int × Int)), r))
      · rw [decide_eq_true h1, decide_eq_true h2, decide_eq_false h3, bad (by unfold TRA; omega)]
        exact chkL_bad _ (fun r => (([] : List (Int × Int)), r))
    · rw [decide_eq_true h1, decide_eq_false h2, bad (by unfold TRA; omega)]
      exact chkL_bad _ (fun r => (([] : List (Int × Int)), r))
  · rw [decide_eq_false h1, bad (fun h => h1 h.1)]
    exact chkL_bad _ (fun r => (([] : List (Int × Int)), r))
open Classical in
theorem Trace_r (l : List PU) (x : P3) (s b e d : Int) : F34_L l x s b e d = trV l x s b e d := by
  unfold F34_L trV
  rw [vpl_r, asked_r]
  by_cases h : vpL l = 0
  · rw [if_pos h, h]
    by_cases h1 : bd 256 x ∧ (1 ≤ s ∧ s ≤ 16) ∧ (0 ≤ b ∧ b ≤ 2000) ∧ (0 ≤ d ∧ d ≤ 3)
    · have hb := h1.2.2.1
      rw [if_pos h1, win8, W_eq (n := b + 200) (by omega) (by omega)]
      by_cases h2 : b ≤ e ∧ e ≤ (if (2000 : Int) < b + 200 then 2000 else b + 200)
      · have he : e ≤ 2000 ∧ b ≤ e ∧ e ≤ b + 200 := by
          have := h2.2
          split at this <;> omega
        have hT : TRA x s b e d := ⟨h1.1, h1.2.1, h1.2.2.1, h1.2.2.2, he⟩
        rw [decide_eq_true h2, if_pos hT]
        exact tr_r h hT
      · rw [decide_eq_false h2, if_neg (fun (hT : TRA x s b e d) => h2 ⟨hT.2.2.2.2.2.1, by split <;> (have := hT.2.2.2.2; omega)⟩)]; rfl
    · rw [if_neg h1, if_neg (fun (hT : TRA x s b e d) => h1 ⟨hT.1, hT.2.1, hT.2.2.1, hT.2.2.2.1⟩)]; rfl
  · rw [if_neg h, bne_iff_ne.2 h]; rfl
theorem shs_len {α β : Type} {g : α → β × Int} {k : List α} {m : List β} (h : shs g k [] = .inl m) : m.length = k.length := by
  obtain ⟨h1, _⟩ := shs_inl h
  rw [h1]; simp
theorem trV_len (l : List PU) (x : P3) (s b e d : Int) : (trV l x s b e d).1.length ≤ 201 := by
  unfold trV
  split
  · split
    · rename_i hT
      unfold trL
      cases h : shs (fun t => scS l x s t d) (ticks b (Int.toNat (e - b + 1))) [] with
      | inr r => simp [out8]
      | inl m =>
        have h1 := shs_len h
        rw [ticks_len] at h1
        have he := hT.2.2.2.2
        simp only [out8]; omega
    · simp
  · simp
theorem trf_len (l : List PU) (x : P3) (s b e d : Int) : (F33_L l x s b e d).1.length ≤ 201 := by rw [Trace_f]; exact trV_len l x s b e d
theorem trr_len (l : List PU) (x : P3) (s b e d : Int) : (F34_L l x s b e d).1.length ≤ 201 := by rw [Trace_r]; exact trV_len l x s b e d
theorem sameS_refl (l : List (Int × Int)) : F35_L_L l l = true := by
  unfold F35_L_L
  rw [show ((((l.length : Nat) : Int) : Int) != ((l.length : Nat) : Int)) = false by simp, cond_false]
  have key := fe_loopF (g := fun _ : Int × Int => 0) (S := S35_L_L_0 l l) (L := l) (E := fun _ => false) (G := true) (fun i c hi => ?_) ?_ l 0 (Int.toNat (((l.length : Nat) : Int) - 0) + 1) rfl (Nat.zero_le _) (by omega)
  · exact key.trans (if_pos (fe_0.2 (fun _ _ => rfl)))
  · obtain ⟨hg, hlt⟩ := getD_some hi
    simp only [S35_L_L_0]
    rw [decide_eq_true (show ((i : Nat) : Int) < (l.length : Nat) by omega), cond_true, Int.toNat_natCast, hg]
    simp
  · simp only [S35_L_L_0]
    rw [decide_eq_false (Int.lt_irrefl _), cond_false]

end Go.Proofs.Ytopbnnmkdildgaa
