/-
  A part of the proofs of the Field laws: what functions of the program compute, and that it is what the statements ask. No premise.
-/
import Derived.Test.YtjlekmjnkpcnoaaMb
namespace Go.Proofs.Ytjlekmjnkpcnoaa
open Go.Proofs Go.Aw Go.RowKit
set_option maxRecDepth 100000
set_option linter.unusedVariables false
set_option linter.unusedSimpArgs false

/-- facet/field.cut -/
theorem C48 (a0 : (Int × Int × Int) × (Int × Int × Int) × Int × Int × Int) (a1 : Int) : Con Try.prog 48 [(.a (k9 a0)), (iv a1)] [] (.f 102 [(.p 0 0), (.p 1 0)]) [(.live true false (k9 a0)), (.live true false [(iv a1)])] := by
  refine con_of (n := 9) Try.func48 rfl (ent Try.func48 (by kernel_rfl) rfl) (by show 2 ≤ Try.f48.ntmps; decide) (by kernel_rfl) trivial (fun cx hcx => ?_)
  exact ret_of (T := T0) hT hm (f := 5000) (orc := []) [] [] [0, 1] hcx
    (obs := []) (by kernel_rfl) trivial

noncomputable def RA101_n_c102 : Code := match (codeAtD [1, 0, 1, 0] [] (Try.f101.body.getD .skip)).1 with
  | .rangeFunc _ _ a b => a
  | _ => .skip

noncomputable def RB101_n_c102 : Code := match (codeAtD [1, 0, 1, 0] [] (Try.f101.body.getD .skip)).1 with
  | .rangeFunc _ _ a b => b
  | _ => .skip

noncomputable def RK101_n_c102 : List K := (codeAtD [1, 0, 1, 0] [] (Try.f101.body.getD .skip)).2

/-- between two rounds of the range of slices.AppendSeq[[]facet/api.Panel,facet/api.Panel]; the variables: v1 = h2_0 -/
def st101_n_c102 (a1_0 : (Int × Int × Int) × (Int × Int × Int) × Int × Int × Int) (a1_1 : Int) : List ((Int × Int × Int) × (Int × Int × Int) × Int × Int × Int) → LS
  | v1 => ⟨[.u, .u, (.p 2 0), .u, .u, .u, (.f 102 [(.p 0 0), (.p 1 0)]), .u, .u, .u, .u, .u, .u], [(.live false false (k9 a1_0)), (.live false false [(iv a1_1)]), (.live true false [(.s 3 0 v1.length 9)]), (.live true true (flat c25 v1))]⟩

def sA101_n_c102 (a1_0 : (Int × Int × Int) × (Int × Int × Int) × Int × Int × Int) (a1_1 : Int) : List ((Int × Int × Int) × (Int × Int × Int) × Int × Int × Int) → (Int × Int × Int) × (Int × Int × Int) × Int × Int × Int → LS
  | v1, x => ⟨[.u, .u, (.p 2 0), .u, .u, (.p 3 0), .u, .u, .u, .u, .u, .u, .u], [(.live false false (k9 a1_0)), (.live false false [(iv a1_1)]), (.live true false [(.s 4 0 v1.length 9)]), (.live true false (k9 x)), (.live true true (flat c25 v1))]⟩

def S101_n_c102_r (a1_0 : (Int × Int × Int) × (Int × Int × Int) × Int × Int × Int) (a1_1 : Int) : List ((Int × Int × Int) × (Int × Int × Int) × Int × Int × Int) → (Int × Int × Int) × (Int × Int × Int) × Int × Int × Int → List ((Int × Int × Int) × (Int × Int × Int) × Int × Int × Int)
  | v1, x =>
   (v1 ++ [x])

def G101_n_c102 (a1_0 : (Int × Int × Int) × (Int × Int × Int) × Int × Int × Int) (a1_1 : Int) : List ((Int × Int × Int) × (Int × Int × Int) × Int × Int × Int) → List ((Int × Int × Int) × (Int × Int × Int) × Int × Int × Int)
  | v1 =>
   v1

def inv101_n_c102 (a1_0 : (Int × Int × Int) × (Int × Int × Int) × Int × Int × Int) (a1_1 : Int) : Nat → List ((Int × Int × Int) × (Int × Int × Int) × Int × Int × Int) → Prop
  | i, v1 => (v1.length = i)

/-- slices.AppendSeq[[]facet/api.Panel,facet/api.Panel] at ('n', 'c102') -/
def F101_n_c102 (a1_0 : (Int × Int × Int) × (Int × Int × Int) × Int × Int × Int) (a1_1 : Int) : List ((Int × Int × Int) × (Int × Int × Int) × Int × Int × Int) :=
  (G101_n_c102 a1_0 a1_1 ((cutL (Int.toNat a1_1) a1_0).foldl (S101_n_c102_r a1_0 a1_1) ([] : List ((Int × Int × Int) × (Int × Int × Int) × Int × Int × Int))))

theorem C101_n_c102 (a1_0 : (Int × Int × Int) × (Int × Int × Int) × Int × Int × Int) (a1_1 : Int) (ha : 0 ≤ a1_1 ∧ a1_1 ≤ 3) : Con Try.prog 101 [(.v (.slice none 0 0)), (.f 102 [(.p 0 0), (.p 1 0)])] [(.live false false (k9 a1_0)), (.live false false [(iv a1_1)])] (.s 2 0 (F101_n_c102 a1_0 a1_1).length 9) [(.live true true (flat c25 (F101_n_c102 a1_0 a1_1)))] := by
  have e : (F101_n_c102 a1_0 a1_1) = (G101_n_c102 a1_0 a1_1 ((cutL (Int.toNat a1_1) a1_0).foldl (S101_n_c102_r a1_0 a1_1) ([] : List ((Int × Int × Int) × (Int × Int × Int) × Int × Int × Int)))) := by simp only [F101_n_c102]
  rw [e]
  refine con_of_mark (n := 9) Try.func101 rfl (ent Try.func101 (by kernel_rfl) rfl) (by show 2 ≤ Try.f101.ntmps; decide) (by kernel_rfl) ⟨rfl, rfl, trivial⟩ (fun cx hcx => ?_)
  refine at_of (T := T0) hT hm (f := 5000) (orc := []) [.cell 2 0 9] [2, 6] [2, 3] hcx (x := .rangeFunc (.tmp 6) #[7] RA101_n_c102 RB101_n_c102) (k' := RK101_n_c102) (s' := st101_n_c102 a1_0 a1_1 ([] : List ((Int × Int × Int) × (Int × Int × Int) × Int × Int × Int)))
    (obs := []) (by kernel_rfl) trivial ?_
  refine range_of (xs := cutL (Int.toNat a1_1) a1_0) (enc := encP) (V := List ((Int × Int × Int) × (Int × Int × Int) × Int × Int × Int)) (R' := Empty) hcx rfl [0, 1] [(.p 0 0), (.p 1 0)] [(.live false false (k9 a1_0)), (.live false false [(iv a1_1)])] rfl rfl (iter_cutI a1_0 a1_1 (by omega)) (fun x => SV.a (cP x)) encP_rel cP_has 3 (Nat.le_of_ble_eq_true rfl) (of_decide_eq_true (by kernel_rfl))
    (st101_n_c102 a1_0 a1_1) ([] : List ((Int × Int × Int) × (Int × Int × Int) × Int × Int × Int)) rfl (fun v1 => (by kernel_rfl)) (by kernel_rfl) (fun v v' => (roSub_ro (roSub_ro (roSub_own (roSub_own roSub_nil))))) (fun v1 => (by kernel_rfl)) (fun v1 => (by kernel_rfl)) (fun v1 => (Nat.le_of_ble_eq_true (by kernel_rfl)))
    (fun v x => .inl (S101_n_c102_r a1_0 a1_1 v x)) (fun r => r.elim) (fun v r => r.elim) (fun r => r.elim)
    (inv101_n_c102 a1_0 a1_1) (by simp [inv101_n_c102]) (sA101_n_c102 a1_0 a1_1) (fun v1 x => (by kernel_rfl)) (fun v1 x => (by kernel_rfl)) (fun v1 x => (Nat.le_of_ble_eq_true (by kernel_rfl)))
    (fun cx' l i v1 x QA hcx' hx hinv hg => norm_of (T := T0) hT hm (f := 5000) (orc := []) [] [2, 5] [4, 3] hcx' (obs := []) (by kernel_rfl) trivial hg)
    (fun cx' l i v1 x QB hcx' hx hinv hb1 hb2 => ?_) (fun cx' d v1 hh hv hinv => ?_) (fun cx' d r hh hv => ?_)
  · show Aw.Good _ _ _ _ _ _ _ (sA101_n_c102 a1_0 a1_1 v1 x)
    simp only [inv101_n_c102] at hinv
    have hlt := cut_lt ha hx
    have e : (Sum.inl (S101_n_c102_r a1_0 a1_1 v1 x) : (List ((Int × Int × Int) × (Int × Int × Int) × Int × Int × Int)) ⊕ Empty) = .inl (v1 ++ [x]) := by simp only [S101_n_c102_r]
    refine norm_of (T := T0) hT hm (f := 5000) (orc := []) [] [] [6] hcx' (s' := ⟨List.replicate 13 .u, [(.live false false (k9 a1_0)), (.live false false [(iv a1_1)]), (.live true false [(.s 3 0 (v1.length + 1) 9)]), (.live true true (flat c25 v1 ++ (k9 x)))]⟩)
      (obs := [.pr ((flat c25 v1).length = v1.length * 9 ∧ v1.length + 1 ≤ 2 ^ 40 ∧ (v1.length + 1) * 72 ≤ 2 ^ 47)]) (by kernel_rfl) ⟨(app_ok c25_len (by omega) (by omega)), trivial⟩ ?_
    have z0 : (flat c25 v1 ++ (k9 x)) = (flat c25 (v1 ++ [x])) := (flat_append (c := c25) (l := v1) (m := [x])).symm
    have z1 : (v1.length + 1) = (v1 ++ [x]).length := len_app v1 [x] rfl
    rw [z0, z1]
    exact hb1 _ e (by simp only [inv101_n_c102, List.length_append, List.length_cons, List.length_nil]; omega)
  · rw [runL_foldl, Sum.inl.injEq] at hv; rw [hv]
    show Aw.Good _ _ _ _ _ _ _ (st101_n_c102 a1_0 a1_1 v1)
    simp only [inv101_n_c102] at hinv
    have e : G101_n_c102 a1_0 a1_1 v1 = v1 := by simp only [G101_n_c102]
    rw [e]
    exact retH_of (T := T0) hT hm (f := 5000) (orc := []) [] [] [3] hh hcx
      (obs := []) (by kernel_rfl) trivial
  · exact r.elim

/-- slices.Collect[facet/api.Panel] at ('c102',) -/
def F47_c102 (a0_0 : (Int × Int × Int) × (Int × Int × Int) × Int × Int × Int) (a0_1 : Int) : List ((Int × Int × Int) × (Int × Int × Int) × Int × Int × Int) :=
  (F101_n_c102 a0_0 a0_1)

theorem C47_c102 (a0_0 : (Int × Int × Int) × (Int × Int × Int) × Int × Int × Int) (a0_1 : Int) (ha : 0 ≤ a0_1 ∧ a0_1 ≤ 3) : Con Try.prog 47 [(.f 102 [(.p 0 0), (.p 1 0)])] [(.live false false (k9 a0_0)), (.live false false [(iv a0_1)])] (.s 2 0 (F47_c102 a0_0 a0_1).length 9) [(.live true true (flat c25 (F47_c102 a0_0 a0_1)))] := by
  have e : (F47_c102 a0_0 a0_1) = (F101_n_c102 a0_0 a0_1) := by simp only [F47_c102]
  rw [e]
  refine con_of (n := 9) Try.func47 rfl (ent Try.func47 (by kernel_rfl) rfl) (by show 1 ≤ Try.f47.ntmps; decide) (by kernel_rfl) ⟨rfl, rfl, trivial⟩ (fun cx hcx => ?_)
  exact ret_of (T := T0) hT hm (f := 5000) (orc := [.call [0, 1] (.s 2 0 (F101_n_c102 a0_0 a0_1).length 9) [(.live true true (flat c25 (F101_n_c102 a0_0 a0_1)))]]) [] [] [2] hcx
    (obs := [.call 101 [(.v (.slice none 0 0)), (.f 102 [(.p 0 0), (.p 1 0)])] [(.live false false (k9 a0_0)), (.live false false [(iv a0_1)])] (.s 2 0 (F101_n_c102 a0_0 a0_1).length 9) [(.live true true (flat c25 (F101_n_c102 a0_0 a0_1)))]]) (by kernel_rfl) ⟨(C101_n_c102 a0_0 a0_1  (by (try simp only [List.length_append, List.length_cons, List.length_nil, Int.toNat_zero]); omega)), trivial⟩

/-- facet/field.corners -/
def F108 (a0 : (Int × Int × Int) × (Int × Int × Int) × Int × Int × Int) : (Int × Int × Int) × (Int × Int × Int) × Int × Int × Int :=
  a0

theorem C108 (a0 : (Int × Int × Int) × (Int × Int × Int) × Int × Int × Int) : Con Try.prog 108 [(.a (k9 a0))] [] (.a (k9 (F108 a0))) [] := by
  have e : (F108 a0) = a0 := by simp only [F108]
  rw [e]
  refine con_of (n := 9) Try.func108 rfl (ent Try.func108 (by kernel_rfl) rfl) (by show 1 ≤ Try.f108.ntmps; decide) (by kernel_rfl) trivial (fun cx hcx => ?_)
  exact ret_of (T := T0) hT hm (f := 5000) (orc := []) [] [] [] hcx
    (obs := []) (by kernel_rfl) trivial

/-- facet/field.average -/
def F111 (a0 : Int) (a1 : Int) (a2 : Int) : Int × Int :=
  (F61 (a0, a1) a2).1

theorem C111 (a0 : Int) (a1 : Int) (a2 : Int) : Con Try.prog 111 [(iv a0), (iv a1), (iv a2)] [] (.a (k2 (F111 a0 a1 a2))) [] := by
  have e : (F111 a0 a1 a2) = (F61 (a0, a1) a2).1 := by simp only [F111]
  rw [e]
  refine con_of (n := 9) Try.func111 rfl (ent Try.func111 (by kernel_rfl) rfl) (by show 3 ≤ Try.f111.ntmps; decide) (by kernel_rfl) trivial (fun cx hcx => ?_)
  exact ret_of (T := T0) hT hm (f := 5000) (orc := [.call [] (.t [(.a (k2 (F61 (a0, a1) a2).1)), (iv (F61 (a0, a1) a2).2)]) []]) [] [] [] hcx
    (obs := [.call 61 [(.a [(iv a0), (iv a1)]), (iv a2)] [] (.t [(.a (k2 (F61 (a0, a1) a2).1)), (iv (F61 (a0, a1) a2).2)]) []]) (by kernel_rfl) ⟨(C61 (a0, a1) a2), trivial⟩

noncomputable def RA51_f52 : Code := match (codeAtD [1, 1, 1, 1, 0, 1, 0] [] (Try.f51.body.getD .skip)).1 with
  | .rangeFunc _ _ a b => a
  | _ => .skip

noncomputable def RB51_f52 : Code := match (codeAtD [1, 1, 1, 1, 0, 1, 0] [] (Try.f51.body.getD .skip)).1 with
  | .rangeFunc _ _ a b => b
  | _ => .skip

noncomputable def RK51_f52 : List K := (codeAtD [1, 1, 1, 1, 0, 1, 0] [] (Try.f51.body.getD .skip)).2

/-- between two rounds of the range of facet/field.mean; the variables: v1 = h5_0, v2 = h6_0 -/
def st51_f52 (a0 : (Int × Int × Int) × (Int × Int × Int) × Int × Int × Int) (a1 : Int × Int × Int) (a2 : Int) : Int × Int → LS
  | (v1, v2) => ⟨[.u, .u, (iv a2), .u, .u, .u, .u, (.p 0 0), (.p 1 0), (.p 2 0), (.p 3 0), (.p 4 0), (.p 5 0), (.p 6 0), .u, .u, .u, .u, .u, .u, .u, .u, .u, .u, .u, .u, .u, .u, .u, (.f 102 [(.p 7 0), (.p 8 0)]), .u, .u, .u, .u, .u, .u, .u, .u, .u, .u, .u, .u, .u, .u, .u, .u, .u, .u, .u, .u, .u, .u, .u, .u, .u, .u, .u, .u, .u, .u, .u, .u, .u, .u, .u, .u, .u, .u, .u], [(.live true false [(.v (.func (.func 52) #[] #[]))]), (.live true false [(iv 0), (iv 0)]), (.live true false [(iv 0)]), (.live true false [(iv (W (1 * 2 ^ (min (Int.toNat a2) 64))))]), (.live true false [(.s 9 0 1 3)]), (.live true false [(iv v1)]), (.live true false [(iv v2)]), (.live true false (k9 a0)), (.live true false [(iv a2)]), (.live true false (k3 (F64 a1 (W (1 * 2 ^ (min (Int.toNat a2) 64))))))]⟩

def sA51_f52 (a0 : (Int × Int × Int) × (Int × Int × Int) × Int × Int × Int) (a1 : Int × Int × Int) (a2 : Int) : Int × Int → (Int × Int × Int) × (Int × Int × Int) × Int × Int × Int → LS
  | (v1, v2), x => ⟨[.u, .u, .u, .u, .u, .u, .u, (.p 0 0), (.p 1 0), (.p 2 0), (.p 3 0), (.p 4 0), (.p 5 0), (.p 6 0), (.p 10 0), .u, .u, .u, .u, .u, .u, .u, .u, .u, .u, .u, .u, .u, .u, .u, .u, .u, .u, .u, .u, .u, .u, .u, .u, .u, .u, .u, .u, .u, .u, .u, .u, .u, .u, .u, .u, .u, .u, .u, .u, .u, .u, .u, .u, .u, .u, .u, .u, .u, .u, .u, .u, .u, .u], [(.live true false [(.v (.func (.func 52) #[] #[]))]), (.live true false [(iv 0), (iv 0)]), (.live true false [(iv 0)]), (.live true false [(iv (W (1 * 2 ^ (min (Int.toNat a2) 64))))]), (.live true false [(.s 9 0 1 3)]), (.live true false [(iv v1)]), (.live true false [(iv v2)]), (.live true false (k9 a0)), (.live true false [(iv a2)]), (.live true false (k3 (F64 a1 (W (1 * 2 ^ (min (Int.toNat a2) 64)))))), (.live true false (k9 x))]⟩

def str51_f52 (a0 : (Int × Int × Int) × (Int × Int × Int) × Int × Int × Int) (a1 : Int × Int × Int) (a2 : Int) (r : (Int × Int) × Int) : LS := ⟨[], [.dead, (.live true false [(iv r.1.1), (iv r.1.2)]), (.live true false [(iv r.2)]), .dead, .dead, .dead, .dead, .dead, .dead, .dead]⟩

def S51_f52_r (a0 : (Int × Int × Int) × (Int × Int × Int) × Int × Int × Int) (a1 : Int × Int × Int) (a2 : Int) : Int × Int → (Int × Int × Int) × (Int × Int × Int) × Int × Int × Int → (Int × Int) ⊕ ((Int × Int) × Int)
  | (v1, v2), x =>
   (bif (((F109_3_1 (F108 x) (F64 a1 (W (1 * 2 ^ (min (Int.toNat a2) 64))))) : Int) == 0) then
    (.inr ((0, 0), 10))
   else
    (.inl ((W (v1 + (F52 (F110_L_L ([(F108 x).1, (F108 x).2.1, (F108 x).2.2] : List (Int × Int × Int)) ([(F64 a1 (W (1 * 2 ^ (min (Int.toNat a2) 64))))] : List (Int × Int × Int))) (W (1 * 2 ^ (min (Int.toNat a2) 64)))).1.1)), (W (v2 + (F52 (F109_3_1 (F108 x) (F64 a1 (W (1 * 2 ^ (min (Int.toNat a2) 64))))) (W (1 * 2 ^ (min (Int.toNat a2) 64)))).1.2)))))

def G51_f52 (a0 : (Int × Int × Int) × (Int × Int × Int) × Int × Int × Int) (a1 : Int × Int × Int) (a2 : Int) : Int × Int → (Int × Int) × Int
  | (v1, v2) =>
   ((F111 v1 v2 (W (1 * 2 ^ (min (Int.toNat (W (2 * a2))) 64)))), 0)

/-- facet/field.mean at ('f52',) -/
def F51_f52 (a0 : (Int × Int × Int) × (Int × Int × Int) × Int × Int × Int) (a1 : Int × Int × Int) (a2 : Int) : (Int × Int) × Int :=
  (thenL (G51_f52 a0 a1 a2) (runL (S51_f52_r a0 a1 a2) (cutL (Int.toNat a2) a0) (0, 0)))

theorem C51_f52 (a0 : (Int × Int × Int) × (Int × Int × Int) × Int × Int × Int) (a1 : Int × Int × Int) (a2 : Int) (ha : 0 ≤ a2 ∧ a2 ≤ 3) : Con Try.prog 51 [(.a (k9 a0)), (.a (k3 a1)), (iv a2), (.v (.func (.func 52) #[] #[]))] [] (.t [(.a (k2 (F51_f52 a0 a1 a2).1)), (iv (F51_f52 a0 a1 a2).2)]) [] := by
  have e : (F51_f52 a0 a1 a2) = (thenL (G51_f52 a0 a1 a2) (runL (S51_f52_r a0 a1 a2) (cutL (Int.toNat a2) a0) (0, 0))) := by simp only [F51_f52]
  rw [e]
  refine con_of_mark (n := 9) Try.func51 rfl (ent Try.func51 (by kernel_rfl) rfl) (by show 4 ≤ Try.f51.ntmps; decide) (by kernel_rfl) trivial (fun cx hcx => ?_)
  refine at_of (T := T0) hT hm (f := 5000) (orc := [.call [] (.a (k3 (F64 a1 (W (1 * 2 ^ (min (Int.toNat a2) 64)))))) [], .call [] (.f 102 [(.p 0 0), (.p 1 0)]) [(.live true false (k9 a0)), (.live true false [(iv a2)])]]) [] [2, 7, 8, 9, 10, 11, 12, 13, 29] [2, 3, 4, 5, 7, 8, 9, 10, 11, 6] hcx (x := .rangeFunc (.tmp 29) #[30] RA51_f52 RB51_f52) (k' := RK51_f52) (s' := st51_f52 a0 a1 a2 (0, 0))
    (obs := [.pr (0 ≤ (a2 : Int)), .call 64 [(.a (k3 a1)), (iv (W (1 * 2 ^ (min (Int.toNat a2) 64))))] [] (.a (k3 (F64 a1 (W (1 * 2 ^ (min (Int.toNat a2) 64)))))) [], .call 48 [(.a (k9 a0)), (iv a2)] [] (.f 102 [(.p 0 0), (.p 1 0)]) [(.live true false (k9 a0)), (.live true false [(iv a2)])]]) (by kernel_rfl) ⟨(show 0 ≤ (a2 : Int) from by first | omega | (rw [W_eq] <;> omega) | exact u64_nn _), (C64 a1 (W (1 * 2 ^ (min (Int.toNat a2) 64)))), (C48 a0 a2), trivial⟩ ?_
  refine range_of (xs := cutL (Int.toNat a2) a0) (enc := encP) (V := Int × Int) (R' := ((Int × Int) × Int)) hcx rfl [7, 8] [(.p 0 0), (.p 1 0)] [(.live false false (k9 a0)), (.live false false [(iv a2)])] rfl rfl (iter_cutI a0 a2 (by omega)) (fun x => SV.a (cP x)) encP_rel cP_has 10 (Nat.le_of_ble_eq_true rfl) (of_decide_eq_true (by kernel_rfl))
    (st51_f52 a0 a1 a2) (0, 0) rfl (fun ⟨v1, v2⟩ => (by kernel_rfl)) (by kernel_rfl) (fun v v' => (roSub_own (roSub_own (roSub_own (roSub_own (roSub_own (roSub_own (roSub_own (roSub_own (roSub_own (roSub_own roSub_nil))))))))))) (fun ⟨v1, v2⟩ => (by kernel_rfl)) (fun ⟨v1, v2⟩ => (by kernel_rfl)) (fun ⟨v1, v2⟩ => (Nat.le_of_ble_eq_true (by kernel_rfl)))
    (S51_f52_r a0 a1 a2) (str51_f52 a0 a1 a2) (fun v r => (roSub_dead (roSub_own (roSub_own (roSub_dead (roSub_dead (roSub_dead (roSub_dead (roSub_dead (roSub_dead (roSub_dead roSub_nil))))))))))) (fun r => (by kernel_rfl))
    (fun _ _ => True) trivial (sA51_f52 a0 a1 a2) (fun ⟨v1, v2⟩ x => (by kernel_rfl)) (fun ⟨v1, v2⟩ x => (by kernel_rfl)) (fun ⟨v1, v2⟩ x => (Nat.le_of_ble_eq_true (by kernel_rfl)))
    (fun cx' l i ⟨v1, v2⟩ x QA hcx' hx hinv hg => norm_of (T := T0) hT hm (f := 5000) (orc := []) [] [7, 8, 9, 10, 11, 12, 13, 14] [10] hcx' (obs := []) (by kernel_rfl) trivial hg)
    (fun cx' l i ⟨v1, v2⟩ x QB hcx' hx hinv hb1 hb2 => ?_) (fun cx' d ⟨v1, v2⟩ hh hv hinv => ?_) (fun cx' d r hh hv => ?_)
  · show Aw.Good _ _ _ _ _ _ _ (sA51_f52 a0 a1 a2 (v1, v2) x)
    cases h0 : (((F109_3_1 (F108 x) (F64 a1 (W (1 * 2 ^ (min (Int.toNat a2) 64))))) : Int) == 0) with
    | true =>
      have q0 := eq_of_beq h0
      have e : S51_f52_r a0 a1 a2 (v1, v2) x = (.inr ((0, 0), 10)) := by simp only [S51_f52_r, h0, cond_true, cond_false]
      exact rets_of (T := T0) hT hm (f := 5000) (orc := [.call [] (.a (k9 (F108 x))) [], .call [11, 9] (iv (F109_3_1 (F108 x) (F64 a1 (W (1 * 2 ^ (min (Int.toNat a2) 64)))))) [], .d true]) [.kill 0, .kill 3, .kill 4, .kill 5, .kill 6, .kill 7, .kill 8, .kill 9] [] [] hcx' (s' := ⟨List.replicate 69 .u, (str51_f52 a0 a1 a2 ((0, 0), 10)).bk⟩)
        (obs := [.call 108 [(.a (k9 x))] [] (.a (k9 (F108 x))) [], .call 109 [(.s 0 0 3 3), (.s 1 0 1 3)] [(.live false false (k9 (F108 x))), (.live false false (k3 (F64 a1 (W (1 * 2 ^ (min (Int.toNat a2) 64))))))] (iv (F109_3_1 (F108 x) (F64 a1 (W (1 * 2 ^ (min (Int.toNat a2) 64)))))) [], .eq (((F109_3_1 (F108 x) (F64 a1 (W (1 * 2 ^ (min (Int.toNat a2) 64))))) : Int) == 0) true]) (by kernel_rfl) ⟨(C108 x), (C109_3_1 (F108 x) (F64 a1 (W (1 * 2 ^ (min (Int.toNat a2) 64))))), h0, trivial⟩ (hb2 _ e)
    | false =>
      have q0 := ne_of_beq_false h0
      have e : S51_f52_r a0 a1 a2 (v1, v2) x = (.inl ((W (v1 + (F52 (F110_L_L ([(F108 x).1, (F108 x).2.1, (F108 x).2.2] : List (Int × Int × Int)) ([(F64 a1 (W (1 * 2 ^ (min (Int.toNat a2) 64))))] : List (Int × Int × Int))) (W (1 * 2 ^ (min (Int.toNat a2) 64)))).1.1)), (W (v2 + (F52 (F109_3_1 (F108 x) (F64 a1 (W (1 * 2 ^ (min (Int.toNat a2) 64))))) (W (1 * 2 ^ (min (Int.toNat a2) 64)))).1.2)))) := by simp only [S51_f52_r, h0, cond_true, cond_false]
      refine norm_of (T := T0) hT hm (f := 5000) (orc := [.call [] (.a (k9 (F108 x))) [], .call [11, 9] (iv (F109_3_1 (F108 x) (F64 a1 (W (1 * 2 ^ (min (Int.toNat a2) 64)))))) [], .d false, .call [11, 9] (iv (F110_L_L ([(F108 x).1, (F108 x).2.1, (F108 x).2.2] : List (Int × Int × Int)) ([(F64 a1 (W (1 * 2 ^ (min (Int.toNat a2) 64))))] : List (Int × Int × Int)))) [], .call [] (.t [(.a (k2 (F52 (F110_L_L ([(F108 x).1, (F108 x).2.1, (F108 x).2.2] : List (Int × Int × Int)) ([(F64 a1 (W (1 * 2 ^ (min (Int.toNat a2) 64))))] : List (Int × Int × Int))) (W (1 * 2 ^ (min (Int.toNat a2) 64)))).1)), (iv (F52 (F110_L_L ([(F108 x).1, (F108 x).2.1, (F108 x).2.2] : List (Int × Int × Int)) ([(F64 a1 (W (1 * 2 ^ (min (Int.toNat a2) 64))))] : List (Int × Int × Int))) (W (1 * 2 ^ (min (Int.toNat a2) 64)))).2)]) [], .call [] (.t [(.a (k2 (F52 (F109_3_1 (F108 x) (F64 a1 (W (1 * 2 ^ (min (Int.toNat a2) 64))))) (W (1 * 2 ^ (min (Int.toNat a2) 64)))).1)), (iv (F52 (F109_3_1 (F108 x) (F64 a1 (W (1 * 2 ^ (min (Int.toNat a2) 64))))) (W (1 * 2 ^ (min (Int.toNat a2) 64)))).2)]) []]) [] [] [] hcx' (s' := ⟨List.replicate 69 .u, [(.live true false [(.v (.func (.func 52) #[] #[]))]), (.live true false [(iv 0), (iv 0)]), (.live true false [(iv 0)]), (.live true false [(iv (W (1 * 2 ^ (min (Int.toNat a2) 64))))]), (.live true false [(.s 9 0 1 3)]), (.live true false [(iv (W (v1 + (F52 (F110_L_L ([(F108 x).1, (F108 x).2.1, (F108 x).2.2] : List (Int × Int × Int)) ([(F64 a1 (W (1 * 2 ^ (min (Int.toNat a2) 64))))] : List (Int × Int × Int))) (W (1 * 2 ^ (min (Int.toNat a2) 64)))).1.1)))]), (.live true false [(iv (W (v2 + (F52 (F109_3_1 (F108 x) (F64 a1 (W (1 * 2 ^ (min (Int.toNat a2) 64))))) (W (1 * 2 ^ (min (Int.toNat a2) 64)))).1.2)))]), (.live true false (k9 a0)), (.live true false [(iv a2)]), (.live true false (k3 (F64 a1 (W (1 * 2 ^ (min (Int.toNat a2) 64))))))]⟩)
        (obs := [.call 108 [(.a (k9 x))] [] (.a (k9 (F108 x))) [], .call 109 [(.s 0 0 3 3), (.s 1 0 1 3)] [(.live false false (k9 (F108 x))), (.live false false (k3 (F64 a1 (W (1 * 2 ^ (min (Int.toNat a2) 64))))))] (iv (F109_3_1 (F108 x) (F64 a1 (W (1 * 2 ^ (min (Int.toNat a2) 64)))))) [], .eq (((F109_3_1 (F108 x) (F64 a1 (W (1 * 2 ^ (min (Int.toNat a2) 64))))) : Int) == 0) false, .call 110 [(.s 0 0 3 3), (.s 1 0 1 3)] [(.live false false (k9 (F108 x))), (.live false false (k3 (F64 a1 (W (1 * 2 ^ (min (Int.toNat a2) 64))))))] (iv (F110_L_L ([(F108 x).1, (F108 x).2.1, (F108 x).2.2] : List (Int × Int × Int)) ([(F64 a1 (W (1 * 2 ^ (min (Int.toNat a2) 64))))] : List (Int × Int × Int)))) [], .call 52 [(iv (F110_L_L ([(F108 x).1, (F108 x).2.1, (F108 x).2.2] : List (Int × Int × Int)) ([(F64 a1 (W (1 * 2 ^ (min (Int.toNat a2) 64))))] : List (Int × Int × Int)))), (iv (W (1 * 2 ^ (min (Int.toNat a2) 64))))] [] (.t [(.a (k2 (F52 (F110_L_L ([(F108 x).1, (F108 x).2.1, (F108 x).2.2] : List (Int × Int × Int)) ([(F64 a1 (W (1 * 2 ^ (min (Int.toNat a2) 64))))] : List (Int × Int × Int))) (W (1 * 2 ^ (min (Int.toNat a2) 64)))).1)), (iv (F52 (F110_L_L ([(F108 x).1, (F108 x).2.1, (F108 x).2.2] : List (Int × Int × Int)) ([(F64 a1 (W (1 * 2 ^ (min (Int.toNat a2) 64))))] : List (Int × Int × Int))) (W (1 * 2 ^ (min (Int.toNat a2) 64)))).2)]) [], .call 52 [(iv (F109_3_1 (F108 x) (F64 a1 (W (1 * 2 ^ (min (Int.toNat a2) 64)))))), (iv (W (1 * 2 ^ (min (Int.toNat a2) 64))))] [] (.t [(.a (k2 (F52 (F109_3_1 (F108 x) (F64 a1 (W (1 * 2 ^ (min (Int.toNat a2) 64))))) (W (1 * 2 ^ (min (Int.toNat a2) 64)))).1)), (iv (F52 (F109_3_1 (F108 x) (F64 a1 (W (1 * 2 ^ (min (Int.toNat a2) 64))))) (W (1 * 2 ^ (min (Int.toNat a2) 64)))).2)]) []]) (by kernel_rfl) ⟨(C108 x), (C109_3_1 (F108 x) (F64 a1 (W (1 * 2 ^ (min (Int.toNat a2) 64))))), h0, (Con.flags (C110_L_L ([(F108 x).1, (F108 x).2.1, (F108 x).2.2] : List (Int × Int × Int)) ([(F64 a1 (W (1 * 2 ^ (min (Int.toNat a2) 64))))] : List (Int × Int × Int)) (by (try simp only [List.length_append, List.length_cons, List.length_nil, Int.toNat_zero]); omega) (by (try simp only [List.length_append, List.length_cons, List.length_nil, Int.toNat_zero]); omega)) rfl ⟨flat_plain (fun _ => rfl), flat_plain (fun _ => rfl), trivial⟩), (C52 (F110_L_L ([(F108 x).1, (F108 x).2.1, (F108 x).2.2] : List (Int × Int × Int)) ([(F64 a1 (W (1 * 2 ^ (min (Int.toNat a2) 64))))] : List (Int × Int × Int))) (W (1 * 2 ^ (min (Int.toNat a2) 64)))), (C52 (F109_3_1 (F108 x) (F64 a1 (W (1 * 2 ^ (min (Int.toNat a2) 64))))) (W (1 * 2 ^ (min (Int.toNat a2) 64)))), trivial⟩ ?_
      exact hb1 _ e trivial
  · rw [hv]
    show Aw.Good _ _ _ _ _ _ _ (st51_f52 a0 a1 a2 (v1, v2))
    have e : thenL (G51_f52 a0 a1 a2) (Sum.inl (v1, v2)) = ((F111 v1 v2 (W (1 * 2 ^ (min (Int.toNat (W (2 * a2))) 64)))), 0) := by simp only [thenL, G51_f52]
    rw [e]
    exact retH_of (T := T0) hT hm (f := 5000) (orc := [.call [] (.a (k2 (F111 v1 v2 (W (1 * 2 ^ (min (Int.toNat (W (2 * a2))) 64)))))) []]) [] [] [] hh hcx
      (obs := [.pr (0 ≤ ((W (2 * a2)) : Int)), .call 111 [(iv v1), (iv v2), (iv (W (1 * 2 ^ (min (Int.toNat (W (2 * a2))) 64))))] [] (.a (k2 (F111 v1 v2 (W (1 * 2 ^ (min (Int.toNat (W (2 * a2))) 64)))))) []]) (by kernel_rfl) ⟨(show 0 ≤ ((W (2 * a2)) : Int) from by first | omega | (rw [W_eq] <;> omega) | exact u64_nn _), (C111 v1 v2 (W (1 * 2 ^ (min (Int.toNat (W (2 * a2))) 64)))), trivial⟩
  · rw [hv]
    exact finH_of (T := T0) hT [] [] [] (s' := ⟨[.u, .u, (iv a2), .u, .u, .u, .u, (.p 0 0), (.p 1 0), (.p 2 0), (.p 3 0), (.p 4 0), (.p 5 0), (.p 6 0), .u, .u, .u, .u, .u, .u, .u, .u, .u, .u, .u, .u, .u, .u, .u, (.f 102 [(.p 7 0), (.p 8 0)]), .u, .u, .u, .u, .u, .u, .u, .u, .u, .u, .u, .u, .u, .u, .u, .u, .u, .u, .u, .u, .u, .u, .u, .u, .u, .u, .u, .u, .u, .u, .u, .u, .u, .u, .u, .u, .u, .u, .u], (str51_f52 a0 a1 a2 r).bk⟩) rfl hh hcx (by kernel_rfl)

/-- facet/span.Cube -/
def F53 (a0 : Int) (a1 : Int) : (Int × Int) × Int :=
  (bif (decide ((a0 : Int) < 1)) then
   ((0, 0), 1)
  else
   (bif (decide ((a0 : Int) > 1099511627776)) then
    ((0, 0), 1)
   else
    (bif (decide ((a1 : Int) < 1)) then
     ((0, 0), 1)
    else
     (bif (decide ((a1 : Int) > 8)) then
      ((0, 0), 1)
     else
      (bif (decide ((a0 : Int) > 1048576)) then
       ((0, 1), 0)
      else
       ((F112 (W ((W ((W ((W (a1 * a1)) * (W (a1 * a1)))) * (W (a1 * a1)))) * 2 ^ (min (Int.toNat 40) 64))) (W ((W (a0 * a0)) * a0))).1, (F112 (W ((W ((W ((W (a1 * a1)) * (W (a1 * a1)))) * (W (a1 * a1)))) * 2 ^ (min (Int.toNat 40) 64))) (W ((W (a0 * a0)) * a0))).2))))))

theorem C53 (a0 : Int) (a1 : Int) : Con Try.prog 53 [(iv a0), (iv a1)] [] (.t [(.a (k2 (F53 a0 a1).1)), (iv (F53 a0 a1).2)]) [] := by
  cases h0 : (decide ((a0 : Int) < 1)) with
  | true =>
    have q0 := of_decide_eq_true h0
    have e : (F53 a0 a1) = ((0, 0), 1) := by simp only [F53, h0, cond_true, cond_false]
    rw [e]
    refine con_of (n := 9) Try.func53 rfl (ent Try.func53 (by kernel_rfl) rfl) (by show 2 ≤ Try.f53.ntmps; decide) (by kernel_rfl) trivial (fun cx hcx => ?_)
    exact ret_of (T := T0) hT hm (f := 5000) (orc := [.d true]) [] [] [] hcx
      (obs := [.eq (decide ((a0 : Int) < 1)) true]) (by kernel_rfl) ⟨h0, trivial⟩
  | false =>
    cases h1 : (decide ((a0 : Int) > 1099511627776)) with
    | true =>
      have q0 := of_decide_eq_false h0
      have q1 := of_decide_eq_true h1
      have e : (F53 a0 a1) = ((0, 0), 1) := by simp only [F53, h0, h1, cond_true, cond_false]
      rw [e]
      refine con_of (n := 9) Try.func53 rfl (ent Try.func53 (by kernel_rfl) rfl) (by show 2 ≤ Try.f53.ntmps; decide) (by kernel_rfl) trivial (fun cx hcx => ?_)
      exact ret_of (T := T0) hT hm (f := 5000) (orc := [.d false, .d true]) [] [] [] hcx
        (obs := [.eq (decide ((a0 : Int) < 1)) false, .eq (decide ((a0 : Int) > 1099511627776)) true]) (by kernel_rfl) ⟨h0, h1, trivial⟩
    | false =>
      cases h2 : (decide ((a1 : Int) < 1)) with
      | true =>
        have q0 := of_decide_eq_false h0
        have q1 := of_decide_eq_false h1
        have q2 := of_decide_eq_true h2
        have e : (F53 a0 a1) = ((0, 0), 1) := by simp only [F53, h0, h1, h2, cond_true, cond_false]
        rw [e]
        refine con_of (n := 9) Try.func53 rfl (ent Try.func53 (by kernel_rfl) rfl) (by show 2 ≤ Try.f53.ntmps; decide) (by kernel_rfl) trivial (fun cx hcx => ?_)
        exact ret_of (T := T0) hT hm (f := 5000) (orc := [.d false, .d false, .d true]) [] [] [] hcx
          (obs := [.eq (decide ((a0 : Int) < 1)) false, .eq (decide ((a0 : Int) > 1099511627776)) false, .eq (decide ((a1 : Int) < 1)) true]) (by kernel_rfl) ⟨h0, h1, h2, trivial⟩
      | false =>
        cases h3 : (decide ((a1 : Int) > 8)) with
        | true =>
          have q0 := of_decide_eq_false h0
          have q1 := of_decide_eq_false h1
          have q2 := of_decide_eq_false h2
          have q3 := of_decide_eq_true h3
          have e : (F53 a0 a1) = ((0, 0), 1) := by simp only [F53, h0, h1, h2, h3, cond_true, cond_false]
          rw [e]
          refine con_of (n := 9) Try.func53 rfl (ent Try.func53 (by kernel_rfl) rfl) (by show 2 ≤ Try.f53.ntmps; decide) (by kernel_rfl) trivial (fun cx hcx => ?_)
          exact ret_of (T := T0) hT hm (f := 5000) (orc := [.d false, .d false, .d false, .d true]) [] [] [] hcx
            (obs := [.eq (decide ((a0 : Int) < 1)) false, .eq (decide ((a0 : Int) > 1099511627776)) false, .eq (decide ((a1 : Int) < 1)) false, .eq (decide ((a1 : Int) > 8)) true]) (by kernel_rfl) ⟨h0, h1, h2, h3, trivial⟩
        | false =>
          cases h4 : (decide ((a0 : Int) > 1048576)) with
          | true =>
            have q0 := of_decide_eq_false h0
            have q1 := of_decide_eq_false h1
            have q2 := of_decide_eq_false h2
            have q3 := of_decide_eq_false h3
            have q4 := of_decide_eq_true h4
            have e : (F53 a0 a1) = ((0, 1), 0) := by simp only [F53, h0, h1, h2, h3, h4, cond_true, cond_false]
            rw [e]
            refine con_of (n := 9) Try.func53 rfl (ent Try.func53 (by kernel_rfl) rfl) (by show 2 ≤ Try.f53.ntmps; decide) (by kernel_rfl) trivial (fun cx hcx => ?_)
            exact ret_of (T := T0) hT hm (f := 5000) (orc := [.d false, .d false, .d false, .d false, .d true]) [] [] [] hcx
              (obs := [.eq (decide ((a0 : Int) < 1)) false, .eq (decide ((a0 : Int) > 1099511627776)) false, .eq (decide ((a1 : Int) < 1)) false, .eq (decide ((a1 : Int) > 8)) false, .eq (decide ((a0 : Int) > 1048576)) true]) (by kernel_rfl) ⟨h0, h1, h2, h3, h4, trivial⟩
          | false =>
            have q0 := of_decide_eq_false h0
            have q1 := of_decide_eq_false h1
            have q2 := of_decide_eq_false h2
            have q3 := of_decide_eq_false h3
            have q4 := of_decide_eq_false h4
            have e : (F53 a0 a1) = ((F112 (W ((W ((W ((W (a1 * a1)) * (W (a1 * a1)))) * (W (a1 * a1)))) * 2 ^ (min (Int.toNat 40) 64))) (W ((W (a0 * a0)) * a0))).1, (F112 (W ((W ((W ((W (a1 * a1)) * (W (a1 * a1)))) * (W (a1 * a1)))) * 2 ^ (min (Int.toNat 40) 64))) (W ((W (a0 * a0)) * a0))).2) := by simp only [F53, h0, h1, h2, h3, h4, cond_true, cond_false]
            rw [e]
            refine con_of (n := 9) Try.func53 rfl (ent Try.func53 (by kernel_rfl) rfl) (by show 2 ≤ Try.f53.ntmps; decide) (by kernel_rfl) trivial (fun cx hcx => ?_)
            exact ret_of (T := T0) hT hm (f := 5000) (orc := [.d false, .d false, .d false, .d false, .d false, .call [] (.t [(.a (k2 (F112 (W ((W ((W ((W (a1 * a1)) * (W (a1 * a1)))) * (W (a1 * a1)))) * 2 ^ (min (Int.toNat 40) 64))) (W ((W (a0 * a0)) * a0))).1)), (iv (F112 (W ((W ((W ((W (a1 * a1)) * (W (a1 * a1)))) * (W (a1 * a1)))) * 2 ^ (min (Int.toNat 40) 64))) (W ((W (a0 * a0)) * a0))).2)]) []]) [] [] [] hcx
              (obs := [.eq (decide ((a0 : Int) < 1)) false, .eq (decide ((a0 : Int) > 1099511627776)) false, .eq (decide ((a1 : Int) < 1)) false, .eq (decide ((a1 : Int) > 8)) false, .eq (decide ((a0 : Int) > 1048576)) false, .pr (0 ≤ (40 : Int)), .call 112 [(iv (W ((W ((W ((W (a1 * a1)) * (W (a1 * a1)))) * (W (a1 * a1)))) * 2 ^ (min (Int.toNat 40) 64)))), (iv (W ((W (a0 * a0)) * a0)))] [] (.t [(.a (k2 (F112 (W ((W ((W ((W (a1 * a1)) * (W (a1 * a1)))) * (W (a1 * a1)))) * 2 ^ (min (Int.toNat 40) 64))) (W ((W (a0 * a0)) * a0))).1)), (iv (F112 (W ((W ((W ((W (a1 * a1)) * (W (a1 * a1)))) * (W (a1 * a1)))) * 2 ^ (min (Int.toNat 40) 64))) (W ((W (a0 * a0)) * a0))).2)]) []]) (by kernel_rfl) ⟨h0, h1, h2, h3, h4, (show 0 ≤ (40 : Int) from by decide), (C112 (W ((W ((W ((W (a1 * a1)) * (W (a1 * a1)))) * (W (a1 * a1)))) * 2 ^ (min (Int.toNat 40) 64))) (W ((W (a0 * a0)) * a0))  (cube_ne (by omega) (by omega))), trivial⟩

noncomputable def RA51_f53 : Code := match (codeAtD [1, 1, 1, 1, 0, 1, 0] [] (Try.f51.body.getD .skip)).1 with
  | .rangeFunc _ _ a b => a
  | _ => .skip

noncomputable def RB51_f53 : Code := match (codeAtD [1, 1, 1, 1, 0, 1, 0] [] (Try.f51.body.getD .skip)).1 with
  | .rangeFunc _ _ a b => b
  | _ => .skip

noncomputable def RK51_f53 : List K := (codeAtD [1, 1, 1, 1, 0, 1, 0] [] (Try.f51.body.getD .skip)).2

/-- between two rounds of the range of facet/field.mean; the variables: v1 = h5_0, v2 = h6_0 -/
def st51_f53 (a0 : (Int × Int × Int) × (Int × Int × Int) × Int × Int × Int) (a1 : Int × Int × Int) (a2 : Int) : Int × Int → LS
  | (v1, v2) => ⟨[.u, .u, (iv a2), .u, .u, .u, .u, (.p 0 0), (.p 1 0), (.p 2 0), (.p 3 0), (.p 4 0), (.p 5 0), (.p 6 0), .u, .u, .u, .u, .u, .u, .u, .u, .u, .u, .u, .u, .u, .u, .u, (.f 102 [(.p 7 0), (.p 8 0)]), .u, .u, .u, .u, .u, .u, .u, .u, .u, .u, .u, .u, .u, .u, .u, .u, .u, .u, .u, .u, .u, .u, .u, .u, .u, .u, .u, .u, .u, .u, .u, .u, .u, .u, .u, .u, .u, .u, .u], [(.live true false [(.v (.func (.func 53) #[] #[]))]), (.live true false [(iv 0), (iv 0)]), (.live true false [(iv 0)]), (.live true false [(iv (W (1 * 2 ^ (min (Int.toNat a2) 64))))]), (.live true false [(.s 9 0 1 3)]), (.live true false [(iv v1)]), (.live true false [(iv v2)]), (.live true false (k9 a0)), (.live true false [(iv a2)]), (.live true false (k3 (F64 a1 (W (1 * 2 ^ (min (Int.toNat a2) 64))))))]⟩

def sA51_f53 (a0 : (Int × Int × Int) × (Int × Int × Int) × Int × Int × Int) (a1 : Int × Int × Int) (a2 : Int) : Int × Int → (Int × Int × Int) × (Int × Int × Int) × Int × Int × Int → LS
  | (v1, v2), x => ⟨[.u, .u, .u, .u, .u, .u, .u, (.p 0 0), (.p 1 0), (.p 2 0), (.p 3 0), (.p 4 0), (.p 5 0), (.p 6 0), (.p 10 0), .u, .u, .u, .u, .u, .u, .u, .u, .u, .u, .u, .u, .u, .u, .u, .u, .u, .u, .u, .u, .u, .u, .u, .u, .u, .u, .u, .u, .u, .u, .u, .u, .u, .u, .u, .u, .u, .u, .u, .u, .u, .u, .u, .u, .u, .u, .u, .u, .u, .u, .u, .u, .u, .u], [(.live true false [(.v (.func (.func 53) #[] #[]))]), (.live true false [(iv 0), (iv 0)]), (.live true false [(iv 0)]), (.live true false [(iv (W (1 * 2 ^ (min (Int.toNat a2) 64))))]), (.live true false [(.s 9 0 1 3)]), (.live true false [(iv v1)]), (.live true false [(iv v2)]), (.live true false (k9 a0)), (.live true false [(iv a2)]), (.live true false (k3 (F64 a1 (W (1 * 2 ^ (min (Int.toNat a2) 64)))))), (.live true false (k9 x))]⟩

def str51_f53 (a0 : (Int × Int × Int) × (Int × Int × Int) × Int × Int × Int) (a1 : Int × Int × Int) (a2 : Int) (r : (Int × Int) × Int) : LS := ⟨[], [.dead, (.live true false [(iv r.1.1), (iv r.1.2)]), (.live true false [(iv r.2)]), .dead, .dead, .dead, .dead, .dead, .dead, .dead]⟩

def S51_f53_r (a0 : (Int × Int × Int) × (Int × Int × Int) × Int × Int × Int) (a1 : Int × Int × Int) (a2 : Int) : Int × Int → (Int × Int × Int) × (Int × Int × Int) × Int × Int × Int → (Int × Int) ⊕ ((Int × Int) × Int)
  | (v1, v2), x =>
   (bif (((F109_3_1 (F108 x) (F64 a1 (W (1 * 2 ^ (min (Int.toNat a2) 64))))) : Int) == 0) then
    (.inr ((0, 0), 10))
   else
    (.inl ((W (v1 + (F53 (F110_L_L ([(F108 x).1, (F108 x).2.1, (F108 x).2.2] : List (Int × Int × Int)) ([(F64 a1 (W (1 * 2 ^ (min (Int.toNat a2) 64))))] : List (Int × Int × Int))) (W (1 * 2 ^ (min (Int.toNat a2) 64)))).1.1)), (W (v2 + (F53 (F109_3_1 (F108 x) (F64 a1 (W (1 * 2 ^ (min (Int.toNat a2) 64))))) (W (1 * 2 ^ (min (Int.toNat a2) 64)))).1.2)))))

def G51_f53 (a0 : (Int × Int × Int) × (Int × Int × Int) × Int × Int × Int) (a1 : Int × Int × Int) (a2 : Int) : Int × Int → (Int × Int) × Int
  | (v1, v2) =>
   ((F111 v1 v2 (W (1 * 2 ^ (min (Int.toNat (W (2 * a2))) 64)))), 0)

/-- facet/field.mean at ('f53',) -/
def F51_f53 (a0 : (Int × Int × Int) × (Int × Int × Int) × Int × Int × Int) (a1 : Int × Int × Int) (a2 : Int) : (Int × Int) × Int :=
  (thenL (G51_f53 a0 a1 a2) (runL (S51_f53_r a0 a1 a2) (cutL (Int.toNat a2) a0) (0, 0)))

theorem C51_f53 (a0 : (Int × Int × Int) × (Int × Int × Int) × Int × Int × Int) (a1 : Int × Int × Int) (a2 : Int) (ha : 0 ≤ a2 ∧ a2 ≤ 3) : Con Try.prog 51 [(.a (k9 a0)), (.a (k3 a1)), (iv a2), (.v (.func (.func 53) #[] #[]))] [] (.t [(.a (k2 (F51_f53 a0 a1 a2).1)), (iv (F51_f53 a0 a1 a2).2)]) [] := by
  have e : (F51_f53 a0 a1 a2) = (thenL (G51_f53 a0 a1 a2) (runL (S51_f53_r a0 a1 a2) (cutL (Int.toNat a2) a0) (0, 0))) := by simp only [F51_f53]
  rw [e]
  refine con_of_mark (n := 9) Try.func51 rfl (ent Try.func51 (by kernel_rfl) rfl) (by show 4 ≤ Try.f51.ntmps; decide) (by kernel_rfl) trivial (fun cx hcx => ?_)
  refine at_of (T := T0) hT hm (f := 5000) (orc := [.call [] (.a (k3 (F64 a1 (W (1 * 2 ^ (min (Int.toNat a2) 64)))))) [], .call [] (.f 102 [(.p 0 0), (.p 1 0)]) [(.live true false (k9 a0)), (.live true false [(iv a2)])]]) [] [2, 7, 8, 9, 10, 11, 12, 13, 29] [2, 3, 4, 5, 7, 8, 9, 10, 11, 6] hcx (x := .rangeFunc (.tmp 29) #[30] RA51_f53 RB51_f53) (k' := RK51_f53) (s' := st51_f53 a0 a1 a2 (0, 0))
    (obs := [.pr (0 ≤ (a2 : Int)), .call 64 [(.a (k3 a1)), (iv (W (1 * 2 ^ (min (Int.toNat a2) 64))))] [] (.a (k3 (F64 a1 (W (1 * 2 ^ (min (Int.toNat a2) 64)))))) [], .call 48 [(.a (k9 a0)), (iv a2)] [] (.f 102 [(.p 0 0), (.p 1 0)]) [(.live true false (k9 a0)), (.live true false [(iv a2)])]]) (by kernel_rfl) ⟨(show 0 ≤ (a2 : Int) from by first | omega | (rw [W_eq] <;> omega) | exact u64_nn _), (C64 a1 (W (1 * 2 ^ (min (Int.toNat a2) 64)))), (C48 a0 a2), trivial⟩ ?_
  refine range_of (xs := cutL (Int.toNat a2) a0) (enc := encP) (V := Int × Int) (R' := ((Int × Int) × Int)) hcx rfl [7, 8] [(.p 0 0), (.p 1 0)] [(.live false false (k9 a0)), (.live false false [(iv a2)])] rfl rfl (iter_cutI a0 a2 (by omega)) (fun x => SV.a (cP x)) encP_rel cP_has 10 (Nat.le_of_ble_eq_true rfl) (of_decide_eq_true (by kernel_rfl))
    (st51_f53 a0 a1 a2) (0, 0) rfl (fun ⟨v1, v2⟩ => (by kernel_rfl)) (by kernel_rfl) (fun v v' => (roSub_own (roSub_own (roSub_own (roSub_own (roSub_own (roSub_own (roSub_own (roSub_own (roSub_own (roSub_own roSub_nil))))))))))) (fun ⟨v1, v2⟩ => (by kernel_rfl)) (fun ⟨v1, v2⟩ => (by kernel_rfl)) (fun ⟨v1, v2⟩ => (Nat.le_of_ble_eq_true (by kernel_rfl)))
    (S51_f53_r a0 a1 a2) (str51_f53 a0 a1 a2) (fun v r => (roSub_dead (roSub_own (roSub_own (roSub_dead (roSub_dead (roSub_dead (roSub_dead (roSub_dead (roSub_dead (roSub_dead roSub_nil))))))))))) (fun r => (by kernel_rfl))
    (fun _ _ => True) trivial (sA51_f53 a0 a1 a2) (fun ⟨v1, v2⟩ x => (by kernel_rfl)) (fun ⟨v1, v2⟩ x => (by kernel_rfl)) (fun ⟨v1, v2⟩ x => (Nat.le_of_ble_eq_true (by kernel_rfl)))
    (fun cx' l i ⟨v1, v2⟩ x QA hcx' hx hinv hg => norm_of (T := T0) hT hm (f := 5000) (orc := []) [] [7, 8, 9, 10, 11, 12, 13, 14] [10] hcx' (obs := []) (by kernel_rfl) trivial hg)
    (fun cx' l i ⟨v1, v2⟩ x QB hcx' hx hinv hb1 hb2 => ?_) (fun cx' d ⟨v1, v2⟩ hh hv hinv => ?_) (fun cx' d r hh hv => ?_)
  · show Aw.Good _ _ _ _ _ _ _ (sA51_f53 a0 a1 a2 (v1, v2) x)
    cases h0 : (((F109_3_1 (F108 x) (F64 a1 (W (1 * 2 ^ (min (Int.toNat a2) 64))))) : Int) == 0) with
    | true =>
      have q0 := eq_of_beq h0
      have e : S51_f53_r a0 a1 a2 (v1, v2) x = (.inr ((0, 0), 10)) := by simp only [S51_f53_r, h0, cond_true, cond_false]
      exact rets_of (T := T0) hT hm (f := 5000) (orc := [.call [] (.a (k9 (F108 x))) [], .call [11, 9] (iv (F109_3_1 (F108 x) (F64 a1 (W (1 * 2 ^ (min (Int.toNat a2) 64)))))) [], .d true]) [.kill 0, .kill 3, .kill 4, .kill 5, .kill 6, .kill 7, .kill 8, .kill 9] [] [] hcx' (s' := ⟨List.replicate 69 .u, (str51_f53 a0 a1 a2 ((0, 0), 10)).bk⟩)
        (obs := [.call 108 [(.a (k9 x))] [] (.a (k9 (F108 x))) [], .call 109 [(.s 0 0 3 3), (.s 1 0 1 3)] [(.live false false (k9 (F108 x))), (.live false false (k3 (F64 a1 (W (1 * 2 ^ (min (Int.toNat a2) 64))))))] (iv (F109_3_1 (F108 x) (F64 a1 (W (1 * 2 ^ (min (Int.toNat a2) 64)))))) [], .eq (((F109_3_1 (F108 x) (F64 a1 (W (1 * 2 ^ (min (Int.toNat a2) 64))))) : Int) == 0) true]) (by kernel_rfl) ⟨(C108 x), (C109_3_1 (F108 x) (F64 a1 (W (1 * 2 ^ (min (Int.toNat a2) 64))))), h0, trivial⟩ (hb2 _ e)
    | false =>
      have q0 := ne_of_beq_false h0
      have e : S51_f53_r a0 a1 a2 (v1, v2) x = (.inl ((W (v1 + (F53 (F110_L_L ([(F108 x).1, (F108 x).2.1, (F108 x).2.2] : List (Int × Int × Int)) ([(F64 a1 (W (1 * 2 ^ (min (Int.toNat a2) 64))))] : List (Int × Int × Int))) (W (1 * 2 ^ (min (Int.toNat a2) 64)))).1.1)), (W (v2 + (F53 (F109_3_1 (F108 x) (F64 a1 (W (1 * 2 ^ (min (Int.toNat a2) 64))))) (W (1 * 2 ^ (min (Int.toNat a2) 64)))).1.2)))) := by simp only [S51_f53_r, h0, cond_true, cond_false]
      refine norm_of (T := T0) hT hm (f := 5000) (orc := [.call [] (.a (k9 (F108 x))) [], .call [11, 9] (iv (F109_3_1 (F108 x) (F64 a1 (W (1 * 2 ^ (min (Int.toNat a2) 64)))))) [], .d false, .call [11, 9] (iv (F110_L_L ([(F108 x).1, (F108 x).2.1, (F108 x).2.2] : List (Int × Int × Int)) ([(F64 a1 (W (1 * 2 ^ (min (Int.toNat a2) 64))))] : List (Int × Int × Int)))) [], .call [] (.t [(.a (k2 (F53 (F110_L_L ([(F108 x).1, (F108 x).2.1, (F108 x).2.2] : List (Int × Int × Int)) ([(F64 a1 (W (1 * 2 ^ (min (Int.toNat a2) 64))))] : List (Int × Int × Int))) (W (1 * 2 ^ (min (Int.toNat a2) 64)))).1)), (iv (F53 (F110_L_L ([(F108 x).1, (F108 x).2.1, (F108 x).2.2] : List (Int × Int × Int)) ([(F64 a1 (W (1 * 2 ^ (min (Int.toNat a2) 64))))] : List (Int × Int × Int))) (W (1 * 2 ^ (min (Int.toNat a2) 64)))).2)]) [], .call [] (.t [(.a (k2 (F53 (F109_3_1 (F108 x) (F64 a1 (W (1 * 2 ^ (min (Int.toNat a2) 64))))) (W (1 * 2 ^ (min (Int.toNat a2) 64)))).1)), (iv (F53 (F109_3_1 (F108 x) (F64 a1 (W (1 * 2 ^ (min (Int.toNat a2) 64))))) (W (1 * 2 ^ (min (Int.toNat a2) 64)))).2)]) []]) [] [] [] hcx' (s' := ⟨List.replicate 69 .u, [(.live true false [(.v (.func (.func 53) #[] #[]))]), (.live true false [(iv 0), (iv 0)]), (.live true false [(iv 0)]), (.live true false [(iv (W (1 * 2 ^ (min (Int.toNat a2) 64))))]), (.live true false [(.s 9 0 1 3)]), (.live true false [(iv (W (v1 + (F53 (F110_L_L ([(F108 x).1, (F108 x).2.1, (F108 x).2.2] : List (Int × Int × Int)) ([(F64 a1 (W (1 * 2 ^ (min (Int.toNat a2) 64))))] : List (Int × Int × Int))) (W (1 * 2 ^ (min (Int.toNat a2) 64)))).1.1)))]), (.live true false [(iv (W (v2 + (F53 (F109_3_1 (F108 x) (F64 a1 (W (1 * 2 ^ (min (Int.toNat a2) 64))))) (W (1 * 2 ^ (min (Int.toNat a2) 64)))).1.2)))]), (.live true false (k9 a0)), (.live true false [(iv a2)]), (.live true false (k3 (F64 a1 (W (1 * 2 ^ (min (Int.toNat a2) 64))))))]⟩)
        (obs := [.call 108 [(.a (k9 x))] [] (.a (k9 (F108 x))) [], .call 109 [(.s 0 0 3 3), (.s 1 0 1 3)] [(.live false false (k9 (F108 x))), (.live false false (k3 (F64 a1 (W (1 * 2 ^ (min (Int.toNat a2) 64))))))] (iv (F109_3_1 (F108 x) (F64 a1 (W (1 * 2 ^ (min (Int.toNat a2) 64)))))) [], .eq (((F109_3_1 (F108 x) (F64 a1 (W (1 * 2 ^ (min (Int.toNat a2) 64))))) : Int) == 0) false, .call 110 [(.s 0 0 3 3), (.s 1 0 1 3)] [(.live false false (k9 (F108 x))), (.live false false (k3 (F64 a1 (W (1 * 2 ^ (min (Int.toNat a2) 64))))))] (iv (F110_L_L ([(F108 x).1, (F108 x).2.1, (F108 x).2.2] : List (Int × Int × Int)) ([(F64 a1 (W (1 * 2 ^ (min (Int.toNat a2) 64))))] : List (Int × Int × Int)))) [], .call 53 [(iv (F110_L_L ([(F108 x).1, (F108 x).2.1, (F108 x).2.2] : List (Int × Int × Int)) ([(F64 a1 (W (1 * 2 ^ (min (Int.toNat a2) 64))))] : List (Int × Int × Int)))), (iv (W (1 * 2 ^ (min (Int.toNat a2) 64))))] [] (.t [(.a (k2 (F53 (F110_L_L ([(F108 x).1, (F108 x).2.1, (F108 x).2.2] : List (Int × Int × Int)) ([(F64 a1 (W (1 * 2 ^ (min (Int.toNat a2) 64))))] : List (Int × Int × Int))) (W (1 * 2 ^ (min (Int.toNat a2) 64)))).1)), (iv (F53 (F110_L_L ([(F108 x).1, (F108 x).2.1, (F108 x).2.2] : List (Int × Int × Int)) ([(F64 a1 (W (1 * 2 ^ (min (Int.toNat a2) 64))))] : List (Int × Int × Int))) (W (1 * 2 ^ (min (Int.toNat a2) 64)))).2)]) [], .call 53 [(iv (F109_3_1 (F108 x) (F64 a1 (W (1 * 2 ^ (min (Int.toNat a2) 64)))))), (iv (W (1 * 2 ^ (min (Int.toNat a2) 64))))] [] (.t [(.a (k2 (F53 (F109_3_1 (F108 x) (F64 a1 (W (1 * 2 ^ (min (Int.toNat a2) 64))))) (W (1 * 2 ^ (min (Int.toNat a2) 64)))).1)), (iv (F53 (F109_3_1 (F108 x) (F64 a1 (W (1 * 2 ^ (min (Int.toNat a2) 64))))) (W (1 * 2 ^ (min (Int.toNat a2) 64)))).2)]) []]) (by kernel_rfl) ⟨(C108 x), (C109_3_1 (F108 x) (F64 a1 (W (1 * 2 ^ (min (Int.toNat a2) 64))))), h0, (Con.flags (C110_L_L ([(F108 x).1, (F108 x).2.1, (F108 x).2.2] : List (Int × Int × Int)) ([(F64 a1 (W (1 * 2 ^ (min (Int.toNat a2) 64))))] : List (Int × Int × Int)) (by (try simp only [List.length_append, List.length_cons, List.length_nil, Int.toNat_zero]); omega) (by (try simp only [List.length_append, List.length_cons, List.length_nil, Int.toNat_zero]); omega)) rfl ⟨flat_plain (fun _ => rfl), flat_plain (fun _ => rfl), trivial⟩), (C53 (F110_L_L ([(F108 x).1, (F108 x).2.1, (F108 x).2.2] : List (Int × Int × Int)) ([(F64 a1 (W (1 * 2 ^ (min (Int.toNat a2) 64))))] : List (Int × Int × Int))) (W (1 * 2 ^ (min (Int.toNat a2) 64)))), (C53 (F109_3_1 (F108 x) (F64 a1 (W (1 * 2 ^ (min (Int.toNat a2) 64))))) (W (1 * 2 ^ (min (Int.toNat a2) 64)))), trivial⟩ ?_
      exact hb1 _ e trivial
  · rw [hv]
    show Aw.Good _ _ _ _ _ _ _ (st51_f53 a0 a1 a2 (v1, v2))
    have e : thenL (G51_f53 a0 a1 a2) (Sum.inl (v1, v2)) = ((F111 v1 v2 (W (1 * 2 ^ (min (Int.toNat (W (2 * a2))) 64)))), 0) := by simp only [thenL, G51_f53]
    rw [e]
    exact retH_of (T := T0) hT hm (f := 5000) (orc := [.call [] (.a (k2 (F111 v1 v2 (W (1 * 2 ^ (min (Int.toNat (W (2 * a2))) 64)))))) []]) [] [] [] hh hcx
      (obs := [.pr (0 ≤ ((W (2 * a2)) : Int)), .call 111 [(iv v1), (iv v2), (iv (W (1 * 2 ^ (min (Int.toNat (W (2 * a2))) 64))))] [] (.a (k2 (F111 v1 v2 (W (1 * 2 ^ (min (Int.toNat (W (2 * a2))) 64)))))) []]) (by kernel_rfl) ⟨(show 0 ≤ ((W (2 * a2)) : Int) from by first | omega | (rw [W_eq] <;> omega) | exact u64_nn _), (C111 v1 v2 (W (1 * 2 ^ (min (Int.toNat (W (2 * a2))) 64)))), trivial⟩
  · rw [hv]
    exact finH_of (T := T0) hT [] [] [] (s' := ⟨[.u, .u, (iv a2), .u, .u, .u, .u, (.p 0 0), (.p 1 0), (.p 2 0), (.p 3 0), (.p 4 0), (.p 5 0), (.p 6 0), .u, .u, .u, .u, .u, .u, .u, .u, .u, .u, .u, .u, .u, .u, .u, (.f 102 [(.p 7 0), (.p 8 0)]), .u, .u, .u, .u, .u, .u, .u, .u, .u, .u, .u, .u, .u, .u, .u, .u, .u, .u, .u, .u, .u, .u, .u, .u, .u, .u, .u, .u, .u, .u, .u, .u, .u, .u, .u, .u, .u, .u, .u], (str51_f53 a0 a1 a2 r).bk⟩) rfl hh hcx (by kernel_rfl)

/-- facet/field.rim -/
def F54 (a0 : (Int × Int × Int) × (Int × Int × Int) × Int × Int × Int) (a1 : Int) : Int :=
  (bif (decide (((W ((W ((F113 (W (Int.tdiv (W (3537128906555392 * 2 ^ (min (Int.toNat (W (2 * a1))) 64))) (W (128 * (F113 (F58 (F60 (F59 a0.2.1 a0.1) (F59 a0.2.2 a0.1)) (F60 (F59 a0.2.1 a0.1) (F59 a0.2.2 a0.1))))))))) * (F113 (W (Int.tdiv (W (3537128906555392 * 2 ^ (min (Int.toNat (W (2 * a1))) 64))) (W (128 * (F113 (F58 (F60 (F59 a0.2.1 a0.1) (F59 a0.2.2 a0.1)) (F60 (F59 a0.2.1 a0.1) (F59 a0.2.2 a0.1))))))))))) * (W (128 * (F113 (F58 (F60 (F59 a0.2.1 a0.1) (F59 a0.2.2 a0.1)) (F60 (F59 a0.2.1 a0.1) (F59 a0.2.2 a0.1)))))))) : Int) < (W (3537128906555392 * 2 ^ (min (Int.toNat (W (2 * a1))) 64))))) then
   (W ((F113 (W (Int.tdiv (W (3537128906555392 * 2 ^ (min (Int.toNat (W (2 * a1))) 64))) (W (128 * (F113 (F58 (F60 (F59 a0.2.1 a0.1) (F59 a0.2.2 a0.1)) (F60 (F59 a0.2.1 a0.1) (F59 a0.2.2 a0.1))))))))) + 1))
  else
   (F113 (W (Int.tdiv (W (3537128906555392 * 2 ^ (min (Int.toNat (W (2 * a1))) 64))) (W (128 * (F113 (F58 (F60 (F59 a0.2.1 a0.1) (F59 a0.2.2 a0.1)) (F60 (F59 a0.2.1 a0.1) (F59 a0.2.2 a0.1))))))))))

noncomputable def oC54_0 (a0 : (Int × Int × Int) × (Int × Int × Int) × Int × Int × Int) (a1 : Int) : Or := .call [] (iv (F113 (W (Int.tdiv (W (3537128906555392 * 2 ^ (min (Int.toNat (W (2 * a1))) 64))) (W (128 * (F113 (F58 (F60 (F59 a0.2.1 a0.1) (F59 a0.2.2 a0.1)) (F60 (F59 a0.2.1 a0.1) (F59 a0.2.2 a0.1)))))))))) []
noncomputable def oC54_1 (a0 : (Int × Int × Int) × (Int × Int × Int) × Int × Int × Int) : Ob := .call 58 [(.a (k3 (F60 (F59 a0.2.1 a0.1) (F59 a0.2.2 a0.1)))), (.a (k3 (F60 (F59 a0.2.1 a0.1) (F59 a0.2.2 a0.1))))] [] (iv (F58 (F60 (F59 a0.2.1 a0.1) (F59 a0.2.2 a0.1)) (F60 (F59 a0.2.1 a0.1) (F59 a0.2.2 a0.1)))) []
noncomputable def oC54_2 (a0 : (Int × Int × Int) × (Int × Int × Int) × Int × Int × Int) : Ob := .call 113 [(iv (F58 (F60 (F59 a0.2.1 a0.1) (F59 a0.2.2 a0.1)) (F60 (F59 a0.2.1 a0.1) (F59 a0.2.2 a0.1))))] [] (iv (F113 (F58 (F60 (F59 a0.2.1 a0.1) (F59 a0.2.2 a0.1)) (F60 (F59 a0.2.1 a0.1) (F59 a0.2.2 a0.1))))) []
noncomputable def oC54_3 (a0 : (Int × Int × Int) × (Int × Int × Int) × Int × Int × Int) (a1 : Int) : Ob := .call 113 [(iv (W (Int.tdiv (W (3537128906555392 * 2 ^ (min (Int.toNat (W (2 * a1))) 64))) (W (128 * (F113 (F58 (F60 (F59 a0.2.1 a0.1) (F59 a0.2.2 a0.1)) (F60 (F59 a0.2.1 a0.1) (F59 a0.2.2 a0.1)))))))))] [] (iv (F113 (W (Int.tdiv (W (3537128906555392 * 2 ^ (min (Int.toNat (W (2 * a1))) 64))) (W (128 * (F113 (F58 (F60 (F59 a0.2.1 a0.1) (F59 a0.2.2 a0.1)) (F60 (F59 a0.2.1 a0.1) (F59 a0.2.2 a0.1)))))))))) []
theorem C54 (a0 : (Int × Int × Int) × (Int × Int × Int) × Int × Int × Int) (a1 : Int) (hp : F93 a0 = 0) (ha : 0 ≤ a1 ∧ a1 ≤ 3) : Con Try.prog 54 [(.a (k9 a0)), (iv a1)] [] (iv (F54 a0 a1)) [] := by
  cases h0 : (decide (((W ((W ((F113 (W (Int.tdiv (W (3537128906555392 * 2 ^ (min (Int.toNat (W (2 * a1))) 64))) (W (128 * (F113 (F58 (F60 (F59 a0.2.1 a0.1) (F59 a0.2.2 a0.1)) (F60 (F59 a0.2.1 a0.1) (F59 a0.2.2 a0.1))))))))) * (F113 (W (Int.tdiv (W (3537128906555392 * 2 ^ (min (Int.toNat (W (2 * a1))) 64))) (W (128 * (F113 (F58 (F60 (F59 a0.2.1 a0.1) (F59 a0.2.2 a0.1)) (F60 (F59 a0.2.1 a0.1) (F59 a0.2.2 a0.1))))))))))) * (W (128 * (F113 (F58 (F60 (F59 a0.2.1 a0.1) (F59 a0.2.2 a0.1)) (F60 (F59 a0.2.1 a0.1) (F59 a0.2.2 a0.1)))))))) : Int) < (W (3537128906555392 * 2 ^ (min (Int.toNat (W (2 * a1))) 64))))) with
  | true =>
    have q0 := of_decide_eq_true h0
    have e : (F54 a0 a1) = (W ((F113 (W (Int.tdiv (W (3537128906555392 * 2 ^ (min (Int.toNat (W (2 * a1))) 64))) (W (128 * (F113 (F58 (F60 (F59 a0.2.1 a0.1) (F59 a0.2.2 a0.1)) (F60 (F59 a0.2.1 a0.1) (F59 a0.2.2 a0.1))))))))) + 1)) := by simp only [F54, h0, cond_true, cond_false]
    rw [e]
    refine con_of (n := 9) Try.func54 rfl (ent Try.func54 (by kernel_rfl) rfl) (by show 2 ≤ Try.f54.ntmps; decide) (by kernel_rfl) trivial (fun cx hcx => ?_)
    exact ret_of (T := T0) hT hm (f := 5000) (orc := [.call [] (.a (k3 (F59 a0.2.1 a0.1))) [], .call [] (.a (k3 (F59 a0.2.2 a0.1))) [], .call [] (.a (k3 (F60 (F59 a0.2.1 a0.1) (F59 a0.2.2 a0.1)))) [], .call [] (iv (F58 (F60 (F59 a0.2.1 a0.1) (F59 a0.2.2 a0.1)) (F60 (F59 a0.2.1 a0.1) (F59 a0.2.2 a0.1)))) [], .call [] (iv (F113 (F58 (F60 (F59 a0.2.1 a0.1) (F59 a0.2.2 a0.1)) (F60 (F59 a0.2.1 a0.1) (F59 a0.2.2 a0.1))))) [], (oC54_0 a0 a1), .d true]) [] [] [] hcx
      (obs := [.call 59 [(.a (k3 a0.2.1)), (.a (k3 a0.1))] [] (.a (k3 (F59 a0.2.1 a0.1))) [], .call 59 [(.a (k3 a0.2.2)), (.a (k3 a0.1))] [] (.a (k3 (F59 a0.2.2 a0.1))) [], .call 60 [(.a (k3 (F59 a0.2.1 a0.1))), (.a (k3 (F59 a0.2.2 a0.1)))] [] (.a (k3 (F60 (F59 a0.2.1 a0.1) (F59 a0.2.2 a0.1)))) [], (oC54_1 a0), (oC54_2 a0), .pr (0 ≤ ((W (2 * a1)) : Int)), .pr (((W (128 * (F113 (F58 (F60 (F59 a0.2.1 a0.1) (F59 a0.2.2 a0.1)) (F60 (F59 a0.2.1 a0.1) (F59 a0.2.2 a0.1)))))) : Int) ≠ 0), (oC54_3 a0 a1), .eq (decide (((W ((W ((F113 (W (Int.tdiv (W (3537128906555392 * 2 ^ (min (Int.toNat (W (2 * a1))) 64))) (W (128 * (F113 (F58 (F60 (F59 a0.2.1 a0.1) (F59 a0.2.2 a0.1)) (F60 (F59 a0.2.1 a0.1) (F59 a0.2.2 a0.1))))))))) * (F113 (W (Int.tdiv (W (3537128906555392 * 2 ^ (min (Int.toNat (W (2 * a1))) 64))) (W (128 * (F113 (F58 (F60 (F59 a0.2.1 a0.1) (F59 a0.2.2 a0.1)) (F60 (F59 a0.2.1 a0.1) (F59 a0.2.2 a0.1))))))))))) * (W (128 * (F113 (F58 (F60 (F59 a0.2.1 a0.1) (F59 a0.2.2 a0.1)) (F60 (F59 a0.2.1 a0.1) (F59 a0.2.2 a0.1)))))))) : Int) < (W (3537128906555392 * 2 ^ (min (Int.toNat (W (2 * a1))) 64))))) true]) (by kernel_rfl) ⟨(C59 a0.2.1 a0.1), (C59 a0.2.2 a0.1), (C60 (F59 a0.2.1 a0.1) (F59 a0.2.2 a0.1)), (C58 (F60 (F59 a0.2.1 a0.1) (F59 a0.2.2 a0.1)) (F60 (F59 a0.2.1 a0.1) (F59 a0.2.2 a0.1))), (C113 (F58 (F60 (F59 a0.2.1 a0.1) (F59 a0.2.2 a0.1)) (F60 (F59 a0.2.1 a0.1) (F59 a0.2.2 a0.1)))), (show 0 ≤ ((W (2 * a1)) : Int) from by first | (rw [W_eq] <;> omega) | exact rim_ne hp), (show ((W (128 * (F113 (F58 (F60 (F59 a0.2.1 a0.1) (F59 a0.2.2 a0.1)) (F60 (F59 a0.2.1 a0.1) (F59 a0.2.2 a0.1)))))) : Int) ≠ 0 from by first | (rw [W_eq] <;> omega) | exact rim_ne hp), (C113 (W (Int.tdiv (W (3537128906555392 * 2 ^ (min (Int.toNat (W (2 * a1))) 64))) (W (128 * (F113 (F58 (F60 (F59 a0.2.1 a0.1) (F59 a0.2.2 a0.1)) (F60 (F59 a0.2.1 a0.1) (F59 a0.2.2 a0.1))))))))), h0, trivial⟩
  | false =>
    have q0 := of_decide_eq_false h0
    have e : (F54 a0 a1) = (F113 (W (Int.tdiv (W (3537128906555392 * 2 ^ (min (Int.toNat (W (2 * a1))) 64))) (W (128 * (F113 (F58 (F60 (F59 a0.2.1 a0.1) (F59 a0.2.2 a0.1)) (F60 (F59 a0.2.1 a0.1) (F59 a0.2.2 a0.1))))))))) := by simp only [F54, h0, cond_true, cond_false]
    rw [e]
    refine con_of (n := 9) Try.func54 rfl (ent Try.func54 (by kernel_rfl) rfl) (by show 2 ≤ Try.f54.ntmps; decide) (by kernel_rfl) trivial (fun cx hcx => ?_)
    exact ret_of (T := T0) hT hm (f := 5000) (orc := [.call [] (.a (k3 (F59 a0.2.1 a0.1))) [], .call [] (.a (k3 (F59 a0.2.2 a0.1))) [], .call [] (.a (k3 (F60 (F59 a0.2.1 a0.1) (F59 a0.2.2 a0.1)))) [], .call [] (iv (F58 (F60 (F59 a0.2.1 a0.1) (F59 a0.2.2 a0.1)) (F60 (F59 a0.2.1 a0.1) (F59 a0.2.2 a0.1)))) [], .call [] (iv (F113 (F58 (F60 (F59 a0.2.1 a0.1) (F59 a0.2.2 a0.1)) (F60 (F59 a0.2.1 a0.1) (F59 a0.2.2 a0.1))))) [], (oC54_0 a0 a1), .d false]) [] [] [] hcx
      (obs := [.call 59 [(.a (k3 a0.2.1)), (.a (k3 a0.1))] [] (.a (k3 (F59 a0.2.1 a0.1))) [], .call 59 [(.a (k3 a0.2.2)), (.a (k3 a0.1))] [] (.a (k3 (F59 a0.2.2 a0.1))) [], .call 60 [(.a (k3 (F59 a0.2.1 a0.1))), (.a (k3 (F59 a0.2.2 a0.1)))] [] (.a (k3 (F60 (F59 a0.2.1 a0.1) (F59 a0.2.2 a0.1)))) [], (oC54_1 a0), (oC54_2 a0), .pr (0 ≤ ((W (2 * a1)) : Int)), .pr (((W (128 * (F113 (F58 (F60 (F59 a0.2.1 a0.1) (F59 a0.2.2 a0.1)) (F60 (F59 a0.2.1 a0.1) (F59 a0.2.2 a0.1)))))) : Int) ≠ 0), (oC54_3 a0 a1), .eq (decide (((W ((W ((F113 (W (Int.tdiv (W (3537128906555392 * 2 ^ (min (Int.toNat (W (2 * a1))) 64))) (W (128 * (F113 (F58 (F60 (F59 a0.2.1 a0.1) (F59 a0.2.2 a0.1)) (F60 (F59 a0.2.1 a0.1) (F59 a0.2.2 a0.1))))))))) * (F113 (W (Int.tdiv (W (3537128906555392 * 2 ^ (min (Int.toNat (W (2 * a1))) 64))) (W (128 * (F113 (F58 (F60 (F59 a0.2.1 a0.1) (F59 a0.2.2 a0.1)) (F60 (F59 a0.2.1 a0.1) (F59 a0.2.2 a0.1))))))))))) * (W (128 * (F113 (F58 (F60 (F59 a0.2.1 a0.1) (F59 a0.2.2 a0.1)) (F60 (F59 a0.2.1 a0.1) (F59 a0.2.2 a0.1)))))))) : Int) < (W (3537128906555392 * 2 ^ (min (Int.toNat (W (2 * a1))) 64))))) false]) (by kernel_rfl) ⟨(C59 a0.2.1 a0.1), (C59 a0.2.2 a0.1), (C60 (F59 a0.2.1 a0.1) (F59 a0.2.2 a0.1)), (C58 (F60 (F59 a0.2.1 a0.1) (F59 a0.2.2 a0.1)) (F60 (F59 a0.2.1 a0.1) (F59 a0.2.2 a0.1))), (C113 (F58 (F60 (F59 a0.2.1 a0.1) (F59 a0.2.2 a0.1)) (F60 (F59 a0.2.1 a0.1) (F59 a0.2.2 a0.1)))), (show 0 ≤ ((W (2 * a1)) : Int) from by first | (rw [W_eq] <;> omega) | exact rim_ne hp), (show ((W (128 * (F113 (F58 (F60 (F59 a0.2.1 a0.1) (F59 a0.2.2 a0.1)) (F60 (F59 a0.2.1 a0.1) (F59 a0.2.2 a0.1)))))) : Int) ≠ 0 from by first | (rw [W_eq] <;> omega) | exact rim_ne hp), (C113 (W (Int.tdiv (W (3537128906555392 * 2 ^ (min (Int.toNat (W (2 * a1))) 64))) (W (128 * (F113 (F58 (F60 (F59 a0.2.1 a0.1) (F59 a0.2.2 a0.1)) (F60 (F59 a0.2.1 a0.1) (F59 a0.2.2 a0.1))))))))), h0, trivial⟩

noncomputable def RA63 : Code := match (codeAtD [1, 1, 1, 1, 0, 1, 0] [] (Try.f63.body.getD .skip)).1 with
  | .rangeFunc _ _ a b => a
  | _ => .skip

noncomputable def RB63 : Code := match (codeAtD [1, 1, 1, 1, 0, 1, 0] [] (Try.f63.body.getD .skip)).1 with
  | .rangeFunc _ _ a b => b
  | _ => .skip

noncomputable def RK63 : List K := (codeAtD [1, 1, 1, 1, 0, 1, 0] [] (Try.f63.body.getD .skip)).2

/-- between two rounds of the range of facet/field.between; the variables: v1 = h4_0, v2 = h5_0 -/
def st63 (a0 : (Int × Int × Int) × (Int × Int × Int) × Int × Int × Int) (a1 : (Int × Int × Int) × (Int × Int × Int) × Int × Int × Int) (a2 : Int) : Int × Int → LS
  | (v1, v2) => ⟨[.u, .u, (iv a2), .u, .u, .u, (.p 0 0), (.p 1 0), (.p 2 0), (.p 3 0), (.p 4 0), (.p 5 0), .u, .u, .u, .u, .u, .u, .u, .u, .u, .u, .u, .u, .u, .u, .u, .u, .u, (.f 102 [(.p 6 0), (.p 7 0)]), .u, .u, .u, .u, .u, .u, .u, .u, .u, .u, .u, .u, .u, .u, .u, .u, .u, .u, .u, .u, .u, .u, .u, .u, .u, .u, .u, .u, .u, .u, .u, .u, .u, .u, .u, .u, .u, .u, .u, .u], [(.live true false [(iv 0), (iv 0)]), (.live true false [(iv (W (1 * 2 ^ (min (Int.toNat a2) 64))))]), (.live true false [(iv (F54 a0 a2))]), (.live true false (k9 (F108 a1))), (.live true false [(iv v1)]), (.live true false [(iv v2)]), (.live true false (k9 a0)), (.live true false [(iv a2)])]⟩

def sA63 (a0 : (Int × Int × Int) × (Int × Int × Int) × Int × Int × Int) (a1 : (Int × Int × Int) × (Int × Int × Int) × Int × Int × Int) (a2 : Int) : Int × Int → (Int × Int × Int) × (Int × Int × Int) × Int × Int × Int → LS
  | (v1, v2), x => ⟨[.u, .u, .u, .u, .u, .u, .u, (.p 1 0), (.p 2 0), (.p 3 0), (.p 4 0), (.p 5 0), (.p 8 0), .u, .u, .u, .u, .u, .u, .u, .u, .u, .u, .u, .u, .u, .u, .u, .u, .u, .u, .u, .u, .u, .u, .u, .u, .u, .u, .u, .u, .u, .u, .u, .u, .u, .u, .u, .u, .u, .u, .u, .u, .u, .u, .u, .u, .u, .u, .u, .u, .u, .u, .u, .u, .u, .u, .u, .u, .u], [(.live true false [(iv 0), (iv 0)]), (.live true false [(iv (W (1 * 2 ^ (min (Int.toNat a2) 64))))]), (.live true false [(iv (F54 a0 a2))]), (.live true false (k9 (F108 a1))), (.live true false [(iv v1)]), (.live true false [(iv v2)]), (.live true false (k9 a0)), (.live true false [(iv a2)]), (.live true false (k9 x))]⟩

def S63_r (a0 : (Int × Int × Int) × (Int × Int × Int) × Int × Int × Int) (a1 : (Int × Int × Int) × (Int × Int × Int) × Int × Int × Int) (a2 : Int) : Int × Int → (Int × Int × Int) × (Int × Int × Int) × Int × Int × Int → Int × Int
  | (v1, v2), x =>
   (bif (decide (((F109_3_3 (F108 x) (F108 a1)) : Int) > 0)) then
    ((W (v1 + (F52 (F110_L_L ([(F108 x).1, (F108 x).2.1, (F108 x).2.2] : List (Int × Int × Int)) ([(F108 a1).1, (F108 a1).2.1, (F108 a1).2.2] : List (Int × Int × Int))) (W (1 * 2 ^ (min (Int.toNat a2) 64)))).1.1)), (W (v2 + (if ((F52 (F109_3_3 (F108 x) (F108 a1)) (W (1 * 2 ^ (min (Int.toNat a2) 64)))).1.2 : Int) < (F54 a0 a2) then (F52 (F109_3_3 (F108 x) (F108 a1)) (W (1 * 2 ^ (min (Int.toNat a2) 64)))).1.2 else (F54 a0 a2)))))
   else
    ((W (v1 + (F52 (F110_L_L ([(F108 x).1, (F108 x).2.1, (F108 x).2.2] : List (Int × Int × Int)) ([(F108 a1).1, (F108 a1).2.1, (F108 a1).2.2] : List (Int × Int × Int))) (W (1 * 2 ^ (min (Int.toNat a2) 64)))).1.1)), (W (v2 + (F54 a0 a2)))))

def G63 (a0 : (Int × Int × Int) × (Int × Int × Int) × Int × Int × Int) (a1 : (Int × Int × Int) × (Int × Int × Int) × Int × Int × Int) (a2 : Int) : Int × Int → Int × Int
  | (v1, v2) =>
   (F111 v1 v2 (W (1 * 2 ^ (min (Int.toNat (W (2 * a2))) 64))))

/-- facet/field.between -/
def F63 (a0 : (Int × Int × Int) × (Int × Int × Int) × Int × Int × Int) (a1 : (Int × Int × Int) × (Int × Int × Int) × Int × Int × Int) (a2 : Int) : Int × Int :=
  (G63 a0 a1 a2 ((cutL (Int.toNat a2) a0).foldl (S63_r a0 a1 a2) (0, 0)))

theorem C63 (a0 : (Int × Int × Int) × (Int × Int × Int) × Int × Int × Int) (a1 : (Int × Int × Int) × (Int × Int × Int) × Int × Int × Int) (a2 : Int) (hp : F93 a0 = 0) (ha : 0 ≤ a2 ∧ a2 ≤ 3) : Con Try.prog 63 [(.a (k9 a0)), (.a (k9 a1)), (iv a2)] [] (.a (k2 (F63 a0 a1 a2))) [] := by
  have e : (F63 a0 a1 a2) = (G63 a0 a1 a2 ((cutL (Int.toNat a2) a0).foldl (S63_r a0 a1 a2) (0, 0))) := by simp only [F63]
  rw [e]
  refine con_of_mark (n := 9) Try.func63 rfl (ent Try.func63 (by kernel_rfl) rfl) (by show 3 ≤ Try.f63.ntmps; decide) (by kernel_rfl) trivial (fun cx hcx => ?_)
  refine at_of (T := T0) hT hm (f := 5000) (orc := [.call [] (iv (F54 a0 a2)) [], .call [] (.a (k9 (F108 a1))) [], .call [] (.f 102 [(.p 0 0), (.p 1 0)]) [(.live true false (k9 a0)), (.live true false [(iv a2)])]]) [] [2, 6, 7, 8, 9, 10, 11, 29] [2, 3, 4, 5, 6, 7, 8, 9] hcx (x := .rangeFunc (.tmp 29) #[30] RA63 RB63) (k' := RK63) (s' := st63 a0 a1 a2 (0, 0))
    (obs := [.pr (0 ≤ (a2 : Int)), .call 54 [(.a (k9 a0)), (iv a2)] [] (iv (F54 a0 a2)) [], .call 108 [(.a (k9 a1))] [] (.a (k9 (F108 a1))) [], .call 48 [(.a (k9 a0)), (iv a2)] [] (.f 102 [(.p 0 0), (.p 1 0)]) [(.live true false (k9 a0)), (.live true false [(iv a2)])]]) (by kernel_rfl) ⟨(show 0 ≤ (a2 : Int) from by first | omega | (rw [W_eq] <;> omega) | exact u64_nn _), (C54 a0 a2  hp ha), (C108 a1), (C48 a0 a2), trivial⟩ ?_
  refine range_of (xs := cutL (Int.toNat a2) a0) (enc := encP) (V := Int × Int) (R' := Empty) hcx rfl [6, 7] [(.p 0 0), (.p 1 0)] [(.live false false (k9 a0)), (.live false false [(iv a2)])] rfl rfl (iter_cutI a0 a2 (by omega)) (fun x => SV.a (cP x)) encP_rel cP_has 8 (Nat.le_of_ble_eq_true rfl) (of_decide_eq_true (by kernel_rfl))
    (st63 a0 a1 a2) (0, 0) rfl (fun ⟨v1, v2⟩ => (by kernel_rfl)) (by kernel_rfl) (fun v v' => (roSub_own (roSub_own (roSub_own (roSub_own (roSub_own (roSub_own (roSub_own (roSub_own roSub_nil))))))))) (fun ⟨v1, v2⟩ => (by kernel_rfl)) (fun ⟨v1, v2⟩ => (by kernel_rfl)) (fun ⟨v1, v2⟩ => (Nat.le_of_ble_eq_true (by kernel_rfl)))
    (fun v x => .inl (S63_r a0 a1 a2 v x)) (fun r => r.elim) (fun v r => r.elim) (fun r => r.elim)
    (fun _ _ => True) trivial (sA63 a0 a1 a2) (fun ⟨v1, v2⟩ x => (by kernel_rfl)) (fun ⟨v1, v2⟩ x => (by kernel_rfl)) (fun ⟨v1, v2⟩ x => (Nat.le_of_ble_eq_true (by kernel_rfl)))
    (fun cx' l i ⟨v1, v2⟩ x QA hcx' hx hinv hg => norm_of (T := T0) hT hm (f := 5000) (orc := []) [] [7, 8, 9, 10, 11, 12] [8] hcx' (obs := []) (by kernel_rfl) trivial hg)
    (fun cx' l i ⟨v1, v2⟩ x QB hcx' hx hinv hb1 hb2 => ?_) (fun cx' d ⟨v1, v2⟩ hh hv hinv => ?_) (fun cx' d r hh hv => ?_)
  · show Aw.Good _ _ _ _ _ _ _ (sA63 a0 a1 a2 (v1, v2) x)
    cases h0 : (decide (((F109_3_3 (F108 x) (F108 a1)) : Int) > 0)) with
    | true =>
      have q0 := of_decide_eq_true h0
      have e : (Sum.inl (S63_r a0 a1 a2 (v1, v2) x) : (Int × Int) ⊕ Empty) = .inl ((W (v1 + (F52 (F110_L_L ([(F108 x).1, (F108 x).2.1, (F108 x).2.2] : List (Int × Int × Int)) ([(F108 a1).1, (F108 a1).2.1, (F108 a1).2.2] : List (Int × Int × Int))) (W (1 * 2 ^ (min (Int.toNat a2) 64)))).1.1)), (W (v2 + (if ((F52 (F109_3_3 (F108 x) (F108 a1)) (W (1 * 2 ^ (min (Int.toNat a2) 64)))).1.2 : Int) < (F54 a0 a2) then (F52 (F109_3_3 (F108 x) (F108 a1)) (W (1 * 2 ^ (min (Int.toNat a2) 64)))).1.2 else (F54 a0 a2))))) := by simp only [S63_r, h0, cond_true, cond_false]
      refine norm_of (T := T0) hT hm (f := 5000) (orc := [.call [] (.a (k9 (F108 x))) [], .call [9, 3] (iv (F110_L_L ([(F108 x).1, (F108 x).2.1, (F108 x).2.2] : List (Int × Int × Int)) ([(F108 a1).1, (F108 a1).2.1, (F108 a1).2.2] : List (Int × Int × Int)))) [], .call [] (.t [(.a (k2 (F52 (F110_L_L ([(F108 x).1, (F108 x).2.1, (F108 x).2.2] : List (Int × Int × Int)) ([(F108 a1).1, (F108 a1).2.1, (F108 a1).2.2] : List (Int × Int × Int))) (W (1 * 2 ^ (min (Int.toNat a2) 64)))).1)), (iv (F52 (F110_L_L ([(F108 x).1, (F108 x).2.1, (F108 x).2.2] : List (Int × Int × Int)) ([(F108 a1).1, (F108 a1).2.1, (F108 a1).2.2] : List (Int × Int × Int))) (W (1 * 2 ^ (min (Int.toNat a2) 64)))).2)]) [], .call [9, 3] (iv (F109_3_3 (F108 x) (F108 a1))) [], .d true, .call [] (.t [(.a (k2 (F52 (F109_3_3 (F108 x) (F108 a1)) (W (1 * 2 ^ (min (Int.toNat a2) 64)))).1)), (iv (F52 (F109_3_3 (F108 x) (F108 a1)) (W (1 * 2 ^ (min (Int.toNat a2) 64)))).2)]) []]) [] [] [] hcx' (s' := ⟨List.replicate 70 .u, [(.live true false [(iv 0), (iv 0)]), (.live true false [(iv (W (1 * 2 ^ (min (Int.toNat a2) 64))))]), (.live true false [(iv (F54 a0 a2))]), (.live true false (k9 (F108 a1))), (.live true false [(iv (W (v1 + (F52 (F110_L_L ([(F108 x).1, (F108 x).2.1, (F108 x).2.2] : List (Int × Int × Int)) ([(F108 a1).1, (F108 a1).2.1, (F108 a1).2.2] : List (Int × Int × Int))) (W (1 * 2 ^ (min (Int.toNat a2) 64)))).1.1)))]), (.live true false [(iv (W (v2 + (if ((F52 (F109_3_3 (F108 x) (F108 a1)) (W (1 * 2 ^ (min (Int.toNat a2) 64)))).1.2 : Int) < (F54 a0 a2) then (F52 (F109_3_3 (F108 x) (F108 a1)) (W (1 * 2 ^ (min (Int.toNat a2) 64)))).1.2 else (F54 a0 a2)))))]), (.live true false (k9 a0)), (.live true false [(iv a2)])]⟩)
        (obs := [.call 108 [(.a (k9 x))] [] (.a (k9 (F108 x))) [], .call 110 [(.s 0 0 3 3), (.s 1 0 3 3)] [(.live false false (k9 (F108 x))), (.live false false (k9 (F108 a1)))] (iv (F110_L_L ([(F108 x).1, (F108 x).2.1, (F108 x).2.2] : List (Int × Int × Int)) ([(F108 a1).1, (F108 a1).2.1, (F108 a1).2.2] : List (Int × Int × Int)))) [], .call 52 [(iv (F110_L_L ([(F108 x).1, (F108 x).2.1, (F108 x).2.2] : List (Int × Int × Int)) ([(F108 a1).1, (F108 a1).2.1, (F108 a1).2.2] : List (Int × Int × Int)))), (iv (W (1 * 2 ^ (min (Int.toNat a2) 64))))] [] (.t [(.a (k2 (F52 (F110_L_L ([(F108 x).1, (F108 x).2.1, (F108 x).2.2] : List (Int × Int × Int)) ([(F108 a1).1, (F108 a1).2.1, (F108 a1).2.2] : List (Int × Int × Int))) (W (1 * 2 ^ (min (Int.toNat a2) 64)))).1)), (iv (F52 (F110_L_L ([(F108 x).1, (F108 x).2.1, (F108 x).2.2] : List (Int × Int × Int)) ([(F108 a1).1, (F108 a1).2.1, (F108 a1).2.2] : List (Int × Int × Int))) (W (1 * 2 ^ (min (Int.toNat a2) 64)))).2)]) [], .call 109 [(.s 0 0 3 3), (.s 1 0 3 3)] [(.live false false (k9 (F108 x))), (.live false false (k9 (F108 a1)))] (iv (F109_3_3 (F108 x) (F108 a1))) [], .eq (decide (((F109_3_3 (F108 x) (F108 a1)) : Int) > 0)) true, .call 52 [(iv (F109_3_3 (F108 x) (F108 a1))), (iv (W (1 * 2 ^ (min (Int.toNat a2) 64))))] [] (.t [(.a (k2 (F52 (F109_3_3 (F108 x) (F108 a1)) (W (1 * 2 ^ (min (Int.toNat a2) 64)))).1)), (iv (F52 (F109_3_3 (F108 x) (F108 a1)) (W (1 * 2 ^ (min (Int.toNat a2) 64)))).2)]) []]) (by kernel_rfl) ⟨(C108 x), (Con.flags (C110_L_L ([(F108 x).1, (F108 x).2.1, (F108 x).2.2] : List (Int × Int × Int)) ([(F108 a1).1, (F108 a1).2.1, (F108 a1).2.2] : List (Int × Int × Int)) (by (try simp only [List.length_append, List.length_cons, List.length_nil, Int.toNat_zero]); omega) (by (try simp only [List.length_append, List.length_cons, List.length_nil, Int.toNat_zero]); omega)) rfl ⟨flat_plain (fun _ => rfl), flat_plain (fun _ => rfl), trivial⟩), (C52 (F110_L_L ([(F108 x).1, (F108 x).2.1, (F108 x).2.2] : List (Int × Int × Int)) ([(F108 a1).1, (F108 a1).2.1, (F108 a1).2.2] : List (Int × Int × Int))) (W (1 * 2 ^ (min (Int.toNat a2) 64)))), (C109_3_3 (F108 x) (F108 a1)), h0, (C52 (F109_3_3 (F108 x) (F108 a1)) (W (1 * 2 ^ (min (Int.toNat a2) 64)))), trivial⟩ ?_
      exact hb1 _ e trivial
    | false =>
      have q0 := of_decide_eq_false h0
      have e : (Sum.inl (S63_r a0 a1 a2 (v1, v2) x) : (Int × Int) ⊕ Empty) = .inl ((W (v1 + (F52 (F110_L_L ([(F108 x).1, (F108 x).2.1, (F108 x).2.2] : List (Int × Int × Int)) ([(F108 a1).1, (F108 a1).2.1, (F108 a1).2.2] : List (Int × Int × Int))) (W (1 * 2 ^ (min (Int.toNat a2) 64)))).1.1)), (W (v2 + (F54 a0 a2)))) := by simp only [S63_r, h0, cond_true, cond_false]
      refine norm_of (T := T0) hT hm (f := 5000) (orc := [.call [] (.a (k9 (F108 x))) [], .call [9, 3] (iv (F110_L_L ([(F108 x).1, (F108 x).2.1, (F108 x).2.2] : List (Int × Int × Int)) ([(F108 a1).1, (F108 a1).2.1, (F108 a1).2.2] : List (Int × Int × Int)))) [], .call [] (.t [(.a (k2 (F52 (F110_L_L ([(F108 x).1, (F108 x).2.1, (F108 x).2.2] : List (Int × Int × Int)) ([(F108 a1).1, (F108 a1).2.1, (F108 a1).2.2] : List (Int × Int × Int))) (W (1 * 2 ^ (min (Int.toNat a2) 64)))).1)), (iv (F52 (F110_L_L ([(F108 x).1, (F108 x).2.1, (F108 x).2.2] : List (Int × Int × Int)) ([(F108 a1).1, (F108 a1).2.1, (F108 a1).2.2] : List (Int × Int × Int))) (W (1 * 2 ^ (min (Int.toNat a2) 64)))).2)]) [], .call [9, 3] (iv (F109_3_3 (F108 x) (F108 a1))) [], .d false]) [] [] [] hcx' (s' := ⟨List.replicate 70 .u, [(.live true false [(iv 0), (iv 0)]), (.live true false [(iv (W (1 * 2 ^ (min (Int.toNat a2) 64))))]), (.live true false [(iv (F54 a0 a2))]), (.live true false (k9 (F108 a1))), (.live true false [(iv (W (v1 + (F52 (F110_L_L ([(F108 x).1, (F108 x).2.1, (F108 x).2.2] : List (Int × Int × Int)) ([(F108 a1).1, (F108 a1).2.1, (F108 a1).2.2] : List (Int × Int × Int))) (W (1 * 2 ^ (min (Int.toNat a2) 64)))).1.1)))]), (.live true false [(iv (W (v2 + (F54 a0 a2))))]), (.live true false (k9 a0)), (.live true false [(iv a2)])]⟩)
        (obs := [.call 108 [(.a (k9 x))] [] (.a (k9 (F108 x))) [], .call 110 [(.s 0 0 3 3), (.s 1 0 3 3)] [(.live false false (k9 (F108 x))), (.live false false (k9 (F108 a1)))] (iv (F110_L_L ([(F108 x).1, (F108 x).2.1, (F108 x).2.2] : List (Int × Int × Int)) ([(F108 a1).1, (F108 a1).2.1, (F108 a1).2.2] : List (Int × Int × Int)))) [], .call 52 [(iv (F110_L_L ([(F108 x).1, (F108 x).2.1, (F108 x).2.2] : List (Int × Int × Int)) ([(F108 a1).1, (F108 a1).2.1, (F108 a1).2.2] : List (Int × Int × Int)))), (iv (W (1 * 2 ^ (min (Int.toNat a2) 64))))] [] (.t [(.a (k2 (F52 (F110_L_L ([(F108 x).1, (F108 x).2.1, (F108 x).2.2] : List (Int × Int × Int)) ([(F108 a1).1, (F108 a1).2.1, (F108 a1).2.2] : List (Int × Int × Int))) (W (1 * 2 ^ (min (Int.toNat a2) 64)))).1)), (iv (F52 (F110_L_L ([(F108 x).1, (F108 x).2.1, (F108 x).2.2] : List (Int × Int × Int)) ([(F108 a1).1, (F108 a1).2.1, (F108 a1).2.2] : List (Int × Int × Int))) (W (1 * 2 ^ (min (Int.toNat a2) 64)))).2)]) [], .call 109 [(.s 0 0 3 3), (.s 1 0 3 3)] [(.live false false (k9 (F108 x))), (.live false false (k9 (F108 a1)))] (iv (F109_3_3 (F108 x) (F108 a1))) [], .eq (decide (((F109_3_3 (F108 x) (F108 a1)) : Int) > 0)) false]) (by kernel_rfl) ⟨(C108 x), (Con.flags (C110_L_L ([(F108 x).1, (F108 x).2.1, (F108 x).2.2] : List (Int × Int × Int)) ([(F108 a1).1, (F108 a1).2.1, (F108 a1).2.2] : List (Int × Int × Int)) (by (try simp only [List.length_append, List.length_cons, List.length_nil, Int.toNat_zero]); omega) (by (try simp only [List.length_append, List.length_cons, List.length_nil, Int.toNat_zero]); omega)) rfl ⟨flat_plain (fun _ => rfl), flat_plain (fun _ => rfl), trivial⟩), (C52 (F110_L_L ([(F108 x).1, (F108 x).2.1, (F108 x).2.2] : List (Int × Int × Int)) ([(F108 a1).1, (F108 a1).2.1, (F108 a1).2.2] : List (Int × Int × Int))) (W (1 * 2 ^ (min (Int.toNat a2) 64)))), (C109_3_3 (F108 x) (F108 a1)), h0, trivial⟩ ?_
      exact hb1 _ e trivial
  · rw [runL_foldl, Sum.inl.injEq] at hv; rw [hv]
    show Aw.Good _ _ _ _ _ _ _ (st63 a0 a1 a2 (v1, v2))
    have e : G63 a0 a1 a2 (v1, v2) = (F111 v1 v2 (W (1 * 2 ^ (min (Int.toNat (W (2 * a2))) 64)))) := by simp only [G63]
    rw [e]
    exact retH_of (T := T0) hT hm (f := 5000) (orc := [.call [] (.a (k2 (F111 v1 v2 (W (1 * 2 ^ (min (Int.toNat (W (2 * a2))) 64)))))) []]) [] [] [] hh hcx
      (obs := [.pr (0 ≤ ((W (2 * a2)) : Int)), .call 111 [(iv v1), (iv v2), (iv (W (1 * 2 ^ (min (Int.toNat (W (2 * a2))) 64))))] [] (.a (k2 (F111 v1 v2 (W (1 * 2 ^ (min (Int.toNat (W (2 * a2))) 64)))))) []]) (by kernel_rfl) ⟨(show 0 ≤ ((W (2 * a2)) : Int) from by first | omega | (rw [W_eq] <;> omega) | exact u64_nn _), (C111 v1 v2 (W (1 * 2 ^ (min (Int.toNat (W (2 * a2))) 64)))), trivial⟩
  · exact r.elim

end Go.Proofs.Ytjlekmjnkpcnoaa
