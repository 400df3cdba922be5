/-
  A part of the proofs of the Field laws: what functions of the program compute, and that it is what the statements ask. No premise.
-/
import Derived.Test.YtjlekmjnkpcnoaaMl
namespace Go.Proofs.Ytjlekmjnkpcnoaa
open Go.Proofs Go.Aw Go.RowKit
set_option maxRecDepth 100000
set_option linter.unusedVariables false
set_option linter.unusedSimpArgs false

theorem cut64 (p : PN) {d : Int} (h : 0 ≤ d ∧ d ≤ 3) : (cutL (Int.toNat d) p).length ≤ 64 := by
  have h1 := cnt_len h p; have h2 := cnt_in d; omega
theorem mut_le {p q : PN} {d : Int} (h : F65 p q d = 0) : 0 ≤ d ∧ d ≤ 3 := paired_le (p := p) (q := q) (by rw [h]; rfl)
theorem mut_hr {p q : PN} {d : Int} (h : F65 p q d = 0) : W (128 * F114 (F115 (F106 p) (F106 p))) ≠ 0 := paired_hr (p := p) (q := q) (by rw [h]; rfl)

noncomputable def RA32 : Code := match (codeAtD [1, 1, 1, 0, 1, 0] [] (Try.f32.body.getD .skip)).1 with
  | .rangeFunc _ _ a b => a
  | _ => .skip

noncomputable def RB32 : Code := match (codeAtD [1, 1, 1, 0, 1, 0] [] (Try.f32.body.getD .skip)).1 with
  | .rangeFunc _ _ a b => b
  | _ => .skip

noncomputable def RK32 : List K := (codeAtD [1, 1, 1, 0, 1, 0] [] (Try.f32.body.getD .skip)).2

/-- between two rounds of the range of facet/field.Mutual; the variables: v1 = h3_0 -/
def st32 (a0 : (Int × Int × Int) × (Int × Int × Int) × Int × Int × Int) (a1 : (Int × Int × Int) × (Int × Int × Int) × Int × Int × Int) (a2 : Int) : List (Int × Int) → LS
  | v1 => ⟨[.u, .u, .u, (.p 0 0), .u, (.p 1 0), (.p 2 0), .u, .u, (.p 3 0), .u, .u, .u, .u, .u, .u, .u, .u, .u, .u, .u, (.f 102 [(.p 4 0), (.p 5 0)]), .u, .u, .u, .u, .u, .u, .u, .u, .u, .u, .u, .u], [(.live true false (k9 a0)), (.live true false [(iv a2)]), (.live true false [(iv 0), (iv 0)]), (.live true false [(.s 6 0 v1.length 2)]), (.live true false (k9 a1)), (.live true false [(iv a2)]), (.live true true (flat c27 v1))]⟩

def sA32 (a0 : (Int × Int × Int) × (Int × Int × Int) × Int × Int × Int) (a1 : (Int × Int × Int) × (Int × Int × Int) × Int × Int × Int) (a2 : Int) : List (Int × Int) → (Int × Int × Int) × (Int × Int × Int) × Int × Int × Int → LS
  | v1, x => ⟨[.u, .u, .u, (.p 0 0), .u, (.p 1 0), .u, .u, .u, (.p 3 0), (.p 6 0), .u, .u, .u, .u, .u, .u, .u, .u, .u, .u, .u, .u, .u, .u, .u, .u, .u, .u, .u, .u, .u, .u, .u], [(.live true false (k9 a0)), (.live true false [(iv a2)]), (.live true false [(iv 0), (iv 0)]), (.live true false [(.s 7 0 v1.length 2)]), (.live true false (k9 a1)), (.live true false [(iv a2)]), (.live true false (k9 x)), (.live true true (flat c27 v1))]⟩

def S32_r (a0 : (Int × Int × Int) × (Int × Int × Int) × Int × Int × Int) (a1 : (Int × Int × Int) × (Int × Int × Int) × Int × Int × Int) (a2 : Int) : List (Int × Int) → (Int × Int × Int) × (Int × Int × Int) × Int × Int × Int → List (Int × Int)
  | v1, x =>
   (v1 ++ [(F63 a0 x a2)])

def G32 (a0 : (Int × Int × Int) × (Int × Int × Int) × Int × Int × Int) (a1 : (Int × Int × Int) × (Int × Int × Int) × Int × Int × Int) (a2 : Int) : List (Int × Int) → (Int × Int) × Int
  | v1 =>
   ((F74_L v1).1, (F74_L v1).2)

def inv32 (a0 : (Int × Int × Int) × (Int × Int × Int) × Int × Int × Int) (a1 : (Int × Int × Int) × (Int × Int × Int) × Int × Int × Int) (a2 : Int) : Nat → List (Int × Int) → Prop
  | i, v1 => (v1.length = i)

/-- facet/field.Mutual -/
def F32 (a0 : (Int × Int × Int) × (Int × Int × Int) × Int × Int × Int) (a1 : (Int × Int × Int) × (Int × Int × Int) × Int × Int × Int) (a2 : Int) : (Int × Int) × Int :=
  (bif (((F62 a0 a1 a2) : Int) != 0) then
   ((0, 0), (F62 a0 a1 a2))
  else
   (G32 a0 a1 a2 ((cutL (Int.toNat a2) a1).foldl (S32_r a0 a1 a2) ([] : List (Int × Int)))))

theorem C32 (a0 : (Int × Int × Int) × (Int × Int × Int) × Int × Int × Int) (a1 : (Int × Int × Int) × (Int × Int × Int) × Int × Int × Int) (a2 : Int) : Con Try.prog 32 [(.a (k9 a0)), (.a (k9 a1)), (iv a2)] [] (.t [(.a (k2 (F32 a0 a1 a2).1)), (iv (F32 a0 a1 a2).2)]) [] := by
  cases h0 : (((F62 a0 a1 a2) : Int) != 0) with
  | true =>
    have q0 := bne_iff_ne.1 h0
    have e : (F32 a0 a1 a2) = ((0, 0), (F62 a0 a1 a2)) := by simp only [F32, h0, cond_true, cond_false]
    rw [e]
    refine con_of_mark (n := 9) Try.func32 rfl (ent Try.func32 (by kernel_rfl) rfl) (by show 3 ≤ Try.f32.ntmps; decide) (by kernel_rfl) trivial (fun cx hcx => ?_)
    exact retM_of (T := T0) hT hm (f := 5000) (orc := [.call [] (iv (F62 a0 a1 a2)) [], .d true]) [] [] [] hcx
      (obs := [.call 62 [(.a (k9 a0)), (.a (k9 a1)), (iv a2)] [] (iv (F62 a0 a1 a2)) [], .eq (((F62 a0 a1 a2) : Int) != 0) true]) (by kernel_rfl) ⟨(C62 a0 a1 a2), h0, trivial⟩
  | false =>
    have q0 := bne_eq_false_iff_eq.1 h0
    have e : (F32 a0 a1 a2) = (G32 a0 a1 a2 ((cutL (Int.toNat a2) a1).foldl (S32_r a0 a1 a2) ([] : List (Int × Int)))) := by simp only [F32, h0, cond_true, cond_false]
    rw [e]
    refine con_of_mark (n := 9) Try.func32 rfl (ent Try.func32 (by kernel_rfl) rfl) (by show 3 ≤ Try.f32.ntmps; decide) (by kernel_rfl) trivial (fun cx hcx => ?_)
    refine at_of (T := T0) hT hm (f := 5000) (orc := [.call [] (iv (F62 a0 a1 a2)) [], .d false, .call [] (.f 102 [(.p 0 0), (.p 1 0)]) [(.live true false (k9 a1)), (.live true false [(iv a2)])]]) [.cell 4 0 2] [3, 5, 6, 9, 21] [0, 2, 3, 4, 5, 6, 7] hcx (x := .rangeFunc (.tmp 21) #[22] RA32 RB32) (k' := RK32) (s' := st32 a0 a1 a2 ([] : List (Int × Int)))
      (obs := [.call 62 [(.a (k9 a0)), (.a (k9 a1)), (iv a2)] [] (iv (F62 a0 a1 a2)) [], .eq (((F62 a0 a1 a2) : Int) != 0) false, .call 48 [(.a (k9 a1)), (iv a2)] [] (.f 102 [(.p 0 0), (.p 1 0)]) [(.live true false (k9 a1)), (.live true false [(iv a2)])]]) (by kernel_rfl) ⟨(C62 a0 a1 a2), h0, (C48 a1 a2), trivial⟩ ?_
    refine range_of (xs := cutL (Int.toNat a2) a1) (enc := encP) (V := List (Int × Int)) (R' := Empty) hcx rfl [4, 5] [(.p 0 0), (.p 1 0)] [(.live false false (k9 a1)), (.live false false [(iv a2)])] rfl rfl (iter_cutI a1 a2 (by first | omega | exact pair_le h0)) (fun x => SV.a (cP x)) encP_rel cP_has 6 (Nat.le_of_ble_eq_true rfl) (of_decide_eq_true (by kernel_rfl))
      (st32 a0 a1 a2) ([] : List (Int × Int)) rfl (fun v1 => (by kernel_rfl)) (by kernel_rfl) (fun v v' => (roSub_own (roSub_own (roSub_own (roSub_own (roSub_own (roSub_own (roSub_own roSub_nil)))))))) (fun v1 => (by kernel_rfl)) (fun v1 => (by kernel_rfl)) (fun v1 => (Nat.le_of_ble_eq_true (by kernel_rfl)))
      (fun v x => .inl (S32_r a0 a1 a2 v x)) (fun r => r.elim) (fun v r => r.elim) (fun r => r.elim)
      (inv32 a0 a1 a2) (by simp [inv32]) (sA32 a0 a1 a2) (fun v1 x => (by kernel_rfl)) (fun v1 x => (by kernel_rfl)) (fun v1 x => (Nat.le_of_ble_eq_true (by kernel_rfl)))
      (fun cx' l i v1 x QA hcx' hx hinv hg => norm_of (T := T0) hT hm (f := 5000) (orc := []) [] [3, 5, 9, 10] [7, 6] hcx' (obs := []) (by kernel_rfl) trivial hg)
      (fun cx' l i v1 x QB hcx' hx hinv hb1 hb2 => ?_) (fun cx' d v1 hh hv hinv => ?_) (fun cx' d r hh hv => ?_)
    · show Aw.Good _ _ _ _ _ _ _ (sA32 a0 a1 a2 v1 x)
      simp only [inv32] at hinv
      have ha := pair_le h0
      have hlt := cut_lt ha hx
      have e : (Sum.inl (S32_r a0 a1 a2 v1 x) : (List (Int × Int)) ⊕ Empty) = .inl (v1 ++ [(F63 a0 x a2)]) := by simp only [S32_r]
      refine norm_of (T := T0) hT hm (f := 5000) (orc := [.call [] (.a (k2 (F63 a0 x a2))) []]) [] [] [9] hcx' (s' := ⟨List.replicate 34 .u, [(.live true false (k9 a0)), (.live true false [(iv a2)]), (.live true false [(iv 0), (iv 0)]), (.live true false [(.s 6 0 (v1.length + 1) 2)]), (.live true false (k9 a1)), (.live true false [(iv a2)]), (.live true true (flat c27 v1 ++ (k2 (F63 a0 x a2))))]⟩)
        (obs := [.call 63 [(.a (k9 a0)), (.a (k9 x)), (iv a2)] [] (.a (k2 (F63 a0 x a2))) [], .pr ((flat c27 v1).length = v1.length * 2 ∧ v1.length + 1 ≤ 2 ^ 40 ∧ (v1.length + 1) * 16 ≤ 2 ^ 47)]) (by kernel_rfl) ⟨(C63 a0 x a2  (pair_vp h0) (pair_le h0)), (app_ok c27_len (by omega) (by omega)), trivial⟩ ?_
      have z0 : (flat c27 v1 ++ (k2 (F63 a0 x a2))) = (flat c27 (v1 ++ [(F63 a0 x a2)])) := (flat_append (c := c27) (l := v1) (m := [(F63 a0 x a2)])).symm
      have z1 : (v1.length + 1) = (v1 ++ [(F63 a0 x a2)]).length := len_app v1 [(F63 a0 x a2)] rfl
      rw [z0, z1]
      exact hb1 _ e (by simp only [inv32, List.length_append, List.length_cons, List.length_nil]; omega)
    · rw [runL_foldl, Sum.inl.injEq] at hv; rw [hv]
      show Aw.Good _ _ _ _ _ _ _ (st32 a0 a1 a2 v1)
      simp only [inv32] at hinv
      have hcl := cut64 a1 (pair_le h0)
      have e : G32 a0 a1 a2 v1 = ((F74_L v1).1, (F74_L v1).2) := by simp only [G32]
      rw [e]
      exact retH_of (T := T0) hT hm (f := 5000) (orc := [.call [6] (.t [(.a (k2 (F74_L v1).1)), (iv (F74_L v1).2)]) []]) [] [] [] hh hcx
        (obs := [.call 74 [(.s 0 0 v1.length 2)] [(.live false true (flat c27 v1))] (.t [(.a (k2 (F74_L v1).1)), (iv (F74_L v1).2)]) []]) (by kernel_rfl) ⟨(C74_L v1 (by (try simp only [List.length_append, List.length_cons, List.length_nil, Int.toNat_zero]); omega)), trivial⟩
    · exact r.elim

/-- facet/facetref01.total at ('n',) -/
def F128_n : Int × Int × Int :=
  (0, 0, 0)

theorem C128_n : Con Try.prog 128 [(.v (.slice none 0 0))] [] (.t (k3 F128_n)) [] := by
  have e : F128_n = (0, 0, 0) := by simp only [F128_n]
  rw [e]
  refine con_of (n := 9) Try.func128 rfl (ent Try.func128 (by kernel_rfl) rfl) (by show 1 ≤ Try.f128.ntmps; decide) (by kernel_rfl) trivial (fun cx hcx => ?_)
  exact ret_of (T := T0) hT hm (f := 5000) (orc := [.d false, .un 200, .d false]) [] [] [] hcx
    (obs := [.eq false false, .eq false false]) (by kernel_rfl) ⟨rfl, rfl, trivial⟩

/-- facet/facetref01.Mean at ('n',) -/
def F75_n : (Int × Int) × Int :=
  (bif ((F128_n.2.2 : Int) != 0) then
   ((0, 0), F128_n.2.2)
  else
   ((0, 0), 1))

theorem C75_n : Con Try.prog 75 [(.v (.slice none 0 0))] [] (.t [(.a (k2 F75_n.1)), (iv F75_n.2)]) [] := by
  cases h0 : ((F128_n.2.2 : Int) != 0) with
  | true =>
    have q0 := bne_iff_ne.1 h0
    have e : F75_n = ((0, 0), F128_n.2.2) := by simp only [F75_n, h0, cond_true, cond_false]
    rw [e]
    refine con_of (n := 9) Try.func75 rfl (ent Try.func75 (by kernel_rfl) rfl) (by show 1 ≤ Try.f75.ntmps; decide) (by kernel_rfl) trivial (fun cx hcx => ?_)
    exact ret_of (T := T0) hT hm (f := 5000) (orc := [.call [] (.t (k3 F128_n)) [], .d true]) [] [] [] hcx
      (obs := [.call 128 [(.v (.slice none 0 0))] [] (.t (k3 F128_n)) [], .eq ((F128_n.2.2 : Int) != 0) true]) (by kernel_rfl) ⟨(C128_n), h0, trivial⟩
  | false =>
    have q0 := bne_eq_false_iff_eq.1 h0
    have e : F75_n = ((0, 0), 1) := by simp only [F75_n, h0, cond_true, cond_false]
    rw [e]
    refine con_of (n := 9) Try.func75 rfl (ent Try.func75 (by kernel_rfl) rfl) (by show 1 ≤ Try.f75.ntmps; decide) (by kernel_rfl) trivial (fun cx hcx => ?_)
    exact ret_of (T := T0) hT hm (f := 5000) (orc := [.call [] (.t (k3 F128_n)) [], .d false, .d true]) [] [] [] hcx
      (obs := [.call 128 [(.v (.slice none 0 0))] [] (.t (k3 F128_n)) [], .eq ((F128_n.2.2 : Int) != 0) false, .eq true true]) (by kernel_rfl) ⟨(C128_n), h0, rfl, trivial⟩

noncomputable def B33_0 : Code := (loopAtD [1, 1, 1, 1, 0, 1] [] (Try.f33.body.getD .skip) []).1
noncomputable def K33_0 : List K := (loopAtD [1, 1, 1, 1, 0, 1] [] (Try.f33.body.getD .skip) []).2

/-- a round of loop 0 of facet/facetref03.Mutual; the variables: v2 = s9, v3 = s11 -/
def S33_0 (a0 : (Int × Int × Int) × (Int × Int × Int) × Int × Int × Int) (a1 : (Int × Int × Int) × (Int × Int × Int) × Int × Int × Int) (a2 : Int) : (List (Int × Int)) × Int → ((List (Int × Int)) × Int) ⊕ ((Int × Int) × Int)
  | (v2, v3) =>
   (bif (decide ((v3 : Int) < (((F50 a1 a2).length : Nat) : Int))) then
    (.inl ((v2 ++ [(F66 a0 a2 ((F50 a1 a2).getD (Int.toNat v3) default))]), (v3 + 1)))
   else
    (.inr ((F75_L v2).1, (F75_L v2).2)))

set_option maxHeartbeats 4000000 in
theorem L33_0 (a0 : (Int × Int × Int) × (Int × Int × Int) × Int × Int × Int) (a1 : (Int × Int × Int) × (Int × Int × Int) × Int × Int × Int) (a2 : Int) {cx : Cx} (hcx : cx.base = 0) : ∀ (n : Nat) (v2 : List (Int × Int)) (v3 : Int), (0 ≤ v3) ∧ (F65 a0 a1 a2 = 0) ∧ (v2.length = Int.toNat v3) ∧ (v3 ≤ (F50 a1 a2).length) → Int.toNat ((((F50 a1 a2).length : Nat) : Int) - v3) < n → Aw.Good Try.prog none 9 (bodyPost Try.prog Try.f33 (RR cx (.t [(.a (k2 (loopF (S33_0 a0 a1 a2) n (v2, v3)).1)), (iv (loopF (S33_0 a0 a1 a2) n (v2, v3)).2)]) [] [])) cx [] (.l B33_0 n :: K33_0) ⟨[.u, .u, (iv a2), (.p 0 0), .u, .u, (.p 1 0), .u, .u, (.s 2 0 v2.length 2), (.s 3 0 (F50 a1 a2).length 9), (iv v3), .u, .u, .u, .u, .u, .u, .u, .u, .u, .u, .u, .u, .u, .u, .u, .u, .u, .u, .u, .u, .u, .u, .u, .u, .u, .u, .u, .u, .u, .u, .u], [(.live true false (k9 a0)), (.live true false [(iv 0), (iv 0)]), (.live true true (flat c27 v2)), (.live true true (flat c25 (F50 a1 a2)))]⟩ := by
  intro n
  induction n with
  | zero => intro v2 v3 hi hn; exact absurd hn (Nat.not_lt_zero _)
  | succ n ih =>
    intro v2 v3 hi hn
    refine good_round ?_
    cases h0 : (decide ((v3 : Int) < (((F50 a1 a2).length : Nat) : Int))) with
    | true =>
      have q0 := of_decide_eq_true h0
      have hcl := cut_le (p := a1) (mut_le (p := a0) (q := a1) (d := a2) (by omega))
      have e : S33_0 a0 a1 a2 (v2, v3) = (.inl ((v2 ++ [(F66 a0 a2 ((F50 a1 a2).getD (Int.toNat v3) default))]), (v3 + 1))) := by simp only [S33_0, h0, cond_true, cond_false]
      rw [loopF_inl e]
      refine back_of (T := T0) hT hm (f := 5000) (orc := [.d true, .ld (k9 ((F50 a1 a2).getD (Int.toNat v3) default)), .call [] (.a (k2 (F66 a0 a2 ((F50 a1 a2).getD (Int.toNat v3) default)))) []]) [] [2, 3, 6, 9, 10, 11] [0, 1, 5, 3] hcx (body := B33_0) (m := n) (k' := K33_0) (s' := ⟨[.u, .u, (iv a2), (.p 0 0), .u, .u, (.p 1 0), .u, .u, (.s 2 0 (v2.length + 1) 2), (.s 3 0 (F50 a1 a2).length 9), (iv (W (v3 + 1))), .u, .u, .u, .u, .u, .u, .u, .u, .u, .u, .u, .u, .u, .u, .u, .u, .u, .u, .u, .u, .u, .u, .u, .u, .u, .u, .u, .u, .u, .u, .u], [(.live true false (k9 a0)), (.live true false [(iv 0), (iv 0)]), (.live true true (flat c27 v2 ++ (k2 (F66 a0 a2 ((F50 a1 a2).getD (Int.toNat v3) default))))), (.live true true (flat c25 (F50 a1 a2)))]⟩)
        (obs := [.eq (decide ((v3 : Int) < (((F50 a1 a2).length : Nat) : Int))) true, .pr (0 ≤ (v3 : Int) ∧ (v3 : Int) < (((F50 a1 a2).length : Nat) : Int)), .pr (((((flat c25 (F50 a1 a2))).drop (0 + Int.toNat v3 * 9)).take 9) = (k9 ((F50 a1 a2).getD (Int.toNat v3) default))), .call 66 [(.a (k9 a0)), (iv a2), (.a (k9 ((F50 a1 a2).getD (Int.toNat v3) default)))] [] (.a (k2 (F66 a0 a2 ((F50 a1 a2).getD (Int.toNat v3) default)))) [], .pr ((flat c27 v2).length = v2.length * 2 ∧ v2.length + 1 ≤ 2 ^ 40 ∧ (v2.length + 1) * 16 ≤ 2 ^ 47)]) (by kernel_rfl) ⟨h0, (show 0 ≤ (v3 : Int) ∧ (v3 : Int) < (((F50 a1 a2).length : Nat) : Int) from by first | omega | (rw [W_eq] <;> omega) | exact u64_nn _), (ld_part c25_len default (F50 a1 a2) v3 0 9 (by omega) (by decide) (by omega) rfl), (C66 a0 a2 ((F50 a1 a2).getD (Int.toNat v3) default)  (mut_le (p := a0) (q := a1) (d := a2) (by omega)) (mut_hr (p := a0) (q := a1) (d := a2) (by omega))), (app_ok c27_len (by omega) (by omega)), trivial⟩ ?_
      have z0 : (W (v3 + 1)) = (v3 + 1) := W_eq (by omega) (by omega)
      have z1 : (flat c27 v2 ++ (k2 (F66 a0 a2 ((F50 a1 a2).getD (Int.toNat v3) default)))) = (flat c27 (v2 ++ [(F66 a0 a2 ((F50 a1 a2).getD (Int.toNat v3) default))])) := (flat_append (c := c27) (l := v2) (m := [(F66 a0 a2 ((F50 a1 a2).getD (Int.toNat v3) default))])).symm
      have z2 : (v2.length + 1) = (v2 ++ [(F66 a0 a2 ((F50 a1 a2).getD (Int.toNat v3) default))]).length := len_app v2 [(F66 a0 a2 ((F50 a1 a2).getD (Int.toNat v3) default))] rfl
      rw [z0, z1, z2]
      exact ih (v2 ++ [(F66 a0 a2 ((F50 a1 a2).getD (Int.toNat v3) default))]) (v3 + 1) (by refine ⟨?_, ?_, ?_, ?_⟩ <;> (try simp only [List.length_append, List.length_cons, List.length_nil, Int.toNat_zero]) <;> first | omega | simp) (by (try simp only [List.length_append, List.length_cons, List.length_nil, Int.toNat_zero]); omega)
    | false =>
      have q0 := of_decide_eq_false h0
      have hcl := cut_le (p := a1) (mut_le (p := a0) (q := a1) (d := a2) (by omega))
      have e : S33_0 a0 a1 a2 (v2, v3) = (.inr ((F75_L v2).1, (F75_L v2).2)) := by simp only [S33_0, h0, cond_true, cond_false]
      rw [show loopF (S33_0 a0 a1 a2) (n + 1) (v2, v3) = thenF (S33_0 a0 a1 a2) n (S33_0 a0 a1 a2 (v2, v3)) from rfl, e]
      exact ret_of (T := T0) hT hm (f := 5000) (orc := [.d false, .call [2] (.t [(.a (k2 (F75_L v2).1)), (iv (F75_L v2).2)]) []]) [] [] [] hcx
        (obs := [.eq (decide ((v3 : Int) < (((F50 a1 a2).length : Nat) : Int))) false, .call 75 [(.s 0 0 v2.length 2)] [(.live false true (flat c27 v2))] (.t [(.a (k2 (F75_L v2).1)), (iv (F75_L v2).2)]) []]) (by kernel_rfl) ⟨h0, (C75_L v2 (by (try simp only [List.length_append, List.length_cons, List.length_nil, Int.toNat_zero]); omega)), trivial⟩

/-- facet/facetref03.Mutual -/
def F33 (a0 : (Int × Int × Int) × (Int × Int × Int) × Int × Int × Int) (a1 : (Int × Int × Int) × (Int × Int × Int) × Int × Int × Int) (a2 : Int) : (Int × Int) × Int :=
  (bif (((F65 a0 a1 a2) : Int) != 0) then
   ((0, 0), (F65 a0 a1 a2))
  else
   (loopF (S33_0 a0 a1 a2) (Int.toNat ((((F50 a1 a2).length : Nat) : Int) - 0) + 1) (([] : List (Int × Int)), 0)))

theorem C33 (a0 : (Int × Int × Int) × (Int × Int × Int) × Int × Int × Int) (a1 : (Int × Int × Int) × (Int × Int × Int) × Int × Int × Int) (a2 : Int) : Con Try.prog 33 [(.a (k9 a0)), (.a (k9 a1)), (iv a2)] [] (.t [(.a (k2 (F33 a0 a1 a2).1)), (iv (F33 a0 a1 a2).2)]) [] := by
  cases h0 : (((F65 a0 a1 a2) : Int) != 0) with
  | true =>
    have q0 := bne_iff_ne.1 h0
    have e : (F33 a0 a1 a2) = ((0, 0), (F65 a0 a1 a2)) := by simp only [F33, h0, cond_true, cond_false]
    rw [e]
    refine con_of (n := 9) Try.func33 rfl (ent Try.func33 (by kernel_rfl) rfl) (by show 3 ≤ Try.f33.ntmps; decide) (by kernel_rfl) trivial (fun cx hcx => ?_)
    exact ret_of (T := T0) hT hm (f := 5000) (orc := [.call [] (iv (F65 a0 a1 a2)) [], .d true]) [] [] [] hcx
      (obs := [.call 65 [(.a (k9 a0)), (.a (k9 a1)), (iv a2)] [] (iv (F65 a0 a1 a2)) [], .eq (((F65 a0 a1 a2) : Int) != 0) true]) (by kernel_rfl) ⟨(C65 a0 a1 a2), h0, trivial⟩
  | false =>
    have q0 := bne_eq_false_iff_eq.1 h0
    have e : (F33 a0 a1 a2) = (loopF (S33_0 a0 a1 a2) (Int.toNat ((((F50 a1 a2).length : Nat) : Int) - 0) + 1) (([] : List (Int × Int)), 0)) := by simp only [F33, h0, cond_true, cond_false]
    rw [e]
    refine con_of (n := 9) Try.func33 rfl (ent Try.func33 (by kernel_rfl) rfl) (by show 3 ≤ Try.f33.ntmps; decide) (by kernel_rfl) trivial (fun cx hcx => ?_)
    refine enter_of (T := T0) hT hm (f := 5000) (orc := [.call [] (iv (F65 a0 a1 a2)) [], .d false, .call [] (.s 0 0 (F50 a1 a2).length 9) [(.live true true (flat c25 (F50 a1 a2)))]]) [.slot 9 2] [2, 3, 6, 9, 10, 11] [0, 2, 4, 3] hcx (body := B33_0) (k' := K33_0) (s' := ⟨[.u, .u, (iv a2), (.p 0 0), .u, .u, (.p 1 0), .u, .u, (.s 2 0 0 2), (.s 3 0 (F50 a1 a2).length 9), (iv 0), .u, .u, .u, .u, .u, .u, .u, .u, .u, .u, .u, .u, .u, .u, .u, .u, .u, .u, .u, .u, .u, .u, .u, .u, .u, .u, .u, .u, .u, .u, .u], [(.live true false (k9 a0)), (.live true false [(iv 0), (iv 0)]), (.live true true (flat c27 ([] : List (Int × Int)))), (.live true true (flat c25 (F50 a1 a2)))]⟩)
      (obs := [.call 65 [(.a (k9 a0)), (.a (k9 a1)), (iv a2)] [] (iv (F65 a0 a1 a2)) [], .eq (((F65 a0 a1 a2) : Int) != 0) false, .call 50 [(.a (k9 a1)), (iv a2)] [] (.s 0 0 (F50 a1 a2).length 9) [(.live true true (flat c25 (F50 a1 a2)))]]) (by kernel_rfl) ⟨(C65 a0 a1 a2), h0, (C50 a1 a2  (paired_le h0)), trivial⟩ ⟨Int.toNat ((((F50 a1 a2).length : Nat) : Int) - 0) + 1, ?_⟩
    exact L33_0 a0 a1 a2 hcx (Int.toNat ((((F50 a1 a2).length : Nat) : Int) - 0) + 1) ([] : List (Int × Int)) 0 (by refine ⟨?_, ?_, ?_, ?_⟩ <;> (try simp only [List.length_append, List.length_cons, List.length_nil, Int.toNat_zero]) <;> first | omega | simp) (by (try simp only [List.length_append, List.length_cons, List.length_nil, Int.toNat_zero]); omega)

end Go.Proofs.Ytjlekmjnkpcnoaa
