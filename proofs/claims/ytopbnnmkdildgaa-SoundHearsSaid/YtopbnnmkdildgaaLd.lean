/-
  A part of the proofs of the Field laws: what functions of the program compute, and that it is what the statements ask. No premise.
-/
import Derived.Test.YtopbnnmkdildgaaMb
namespace Go.Proofs.Ytopbnnmkdildgaa
open Go.Proofs Go.Aw Go.RowKit
set_option maxRecDepth 100000
set_option linter.unusedVariables false
set_option linter.unusedSimpArgs false

/-- facet/field.cut -/
theorem C104 (a0 : (Int × Int × Int) × (Int × Int × Int) × Int × Int × Int) (a1 : Int) : Con Try.prog 104 [(.a (k9 a0)), (iv a1)] [] (.f 141 [(.p 0 0), (.p 1 0)]) [(.live true false (k9 a0)), (.live true false [(iv a1)])] := by
  refine con_of (n := 9) Try.func104 rfl (ent Try.func104 (by kernel_rfl) rfl) (by show 2 ≤ Try.f104.ntmps; decide) (by kernel_rfl) trivial (fun cx hcx => ?_)
  exact ret_of (T := T0) hT hm (f := 5000) (orc := []) [] [] [0, 1] hcx
    (obs := []) (by kernel_rfl) trivial

/-- api.Panel, as cells -/
def c26 (x : (Int × Int × Int) × (Int × Int × Int) × Int × Int × Int) : List SV := [(iv x.1.1), (iv x.1.2.1), (iv x.1.2.2), (iv x.2.1.1), (iv x.2.1.2.1), (iv x.2.1.2.2), (iv x.2.2.1), (iv x.2.2.2.1), (iv x.2.2.2.2)]
theorem c26_len (x : (Int × Int × Int) × (Int × Int × Int) × Int × Int × Int) : (c26 x).length = 9 := rfl

noncomputable def RA153_n_c141 : Code := match (codeAtD [1, 0, 1, 0] [] (Try.f153.body.getD .skip)).1 with
  | .rangeFunc _ _ a b => a
  | _ => .skip

noncomputable def RB153_n_c141 : Code := match (codeAtD [1, 0, 1, 0] [] (Try.f153.body.getD .skip)).1 with
  | .rangeFunc _ _ a b => b
  | _ => .skip

noncomputable def RK153_n_c141 : List K := (codeAtD [1, 0, 1, 0] [] (Try.f153.body.getD .skip)).2

/-- between two rounds of the range of slices.AppendSeq[[]facet/api.Panel,facet/api.Panel]; the variables: v1 = h2_0 -/
def st153_n_c141 (a1_0 : (Int × Int × Int) × (Int × Int × Int) × Int × Int × Int) (a1_1 : Int) : List ((Int × Int × Int) × (Int × Int × Int) × Int × Int × Int) → LS
  | v1 => ⟨[.u, .u, (.p 2 0), .u, .u, .u, (.f 141 [(.p 0 0), (.p 1 0)]), .u, .u, .u, .u, .u, .u], [(.live false false (k9 a1_0)), (.live false false [(iv a1_1)]), (.live true false [(.s 3 0 v1.length 9)]), (.live true true (flat c26 v1))]⟩

def sA153_n_c141 (a1_0 : (Int × Int × Int) × (Int × Int × Int) × Int × Int × Int) (a1_1 : Int) : List ((Int × Int × Int) × (Int × Int × Int) × Int × Int × Int) → (Int × Int × Int) × (Int × Int × Int) × Int × Int × Int → LS
  | v1, x => ⟨[.u, .u, (.p 2 0), .u, .u, (.p 3 0), .u, .u, .u, .u, .u, .u, .u], [(.live false false (k9 a1_0)), (.live false false [(iv a1_1)]), (.live true false [(.s 4 0 v1.length 9)]), (.live true false (k9 x)), (.live true true (flat c26 v1))]⟩

def S153_n_c141_r (a1_0 : (Int × Int × Int) × (Int × Int × Int) × Int × Int × Int) (a1_1 : Int) : List ((Int × Int × Int) × (Int × Int × Int) × Int × Int × Int) → (Int × Int × Int) × (Int × Int × Int) × Int × Int × Int → List ((Int × Int × Int) × (Int × Int × Int) × Int × Int × Int)
  | v1, x =>
   (v1 ++ [x])

def G153_n_c141 (a1_0 : (Int × Int × Int) × (Int × Int × Int) × Int × Int × Int) (a1_1 : Int) : List ((Int × Int × Int) × (Int × Int × Int) × Int × Int × Int) → List ((Int × Int × Int) × (Int × Int × Int) × Int × Int × Int)
  | v1 =>
   v1

def inv153_n_c141 (a1_0 : (Int × Int × Int) × (Int × Int × Int) × Int × Int × Int) (a1_1 : Int) : Nat → List ((Int × Int × Int) × (Int × Int × Int) × Int × Int × Int) → Prop
  | i, v1 => (v1.length = i)

/-- slices.AppendSeq[[]facet/api.Panel,facet/api.Panel] at ('n', 'c141') -/
def F153_n_c141 (a1_0 : (Int × Int × Int) × (Int × Int × Int) × Int × Int × Int) (a1_1 : Int) : List ((Int × Int × Int) × (Int × Int × Int) × Int × Int × Int) :=
  (G153_n_c141 a1_0 a1_1 ((cutL (Int.toNat a1_1) a1_0).foldl (S153_n_c141_r a1_0 a1_1) ([] : List ((Int × Int × Int) × (Int × Int × Int) × Int × Int × Int))))

theorem C153_n_c141 (a1_0 : (Int × Int × Int) × (Int × Int × Int) × Int × Int × Int) (a1_1 : Int) (ha : 0 ≤ a1_1 ∧ a1_1 ≤ 3) : Con Try.prog 153 [(.v (.slice none 0 0)), (.f 141 [(.p 0 0), (.p 1 0)])] [(.live false false (k9 a1_0)), (.live false false [(iv a1_1)])] (.s 2 0 (F153_n_c141 a1_0 a1_1).length 9) [(.live true true (flat c26 (F153_n_c141 a1_0 a1_1)))] := by
  have e : (F153_n_c141 a1_0 a1_1) = (G153_n_c141 a1_0 a1_1 ((cutL (Int.toNat a1_1) a1_0).foldl (S153_n_c141_r a1_0 a1_1) ([] : List ((Int × Int × Int) × (Int × Int × Int) × Int × Int × Int)))) := by simp only [F153_n_c141]
  rw [e]
  refine con_of_mark (n := 9) Try.func153 rfl (ent Try.func153 (by kernel_rfl) rfl) (by show 2 ≤ Try.f153.ntmps; decide) (by kernel_rfl) ⟨rfl, rfl, trivial⟩ (fun cx hcx => ?_)
  refine at_of (T := T0) hT hm (f := 5000) (orc := []) [.cell 2 0 9] [2, 6] [2, 3] hcx (x := .rangeFunc (.tmp 6) #[7] RA153_n_c141 RB153_n_c141) (k' := RK153_n_c141) (s' := st153_n_c141 a1_0 a1_1 ([] : List ((Int × Int × Int) × (Int × Int × Int) × Int × Int × Int)))
    (obs := []) (by kernel_rfl) trivial ?_
  refine range_of (xs := cutL (Int.toNat a1_1) a1_0) (enc := encP) (V := List ((Int × Int × Int) × (Int × Int × Int) × Int × Int × Int)) (R' := Empty) hcx rfl [0, 1] [(.p 0 0), (.p 1 0)] [(.live false false (k9 a1_0)), (.live false false [(iv a1_1)])] rfl rfl (iter_cutI a1_0 a1_1 (by first | omega | exact pair_le h0)) (fun x => SV.a (cP x)) encP_rel cP_has 3 (Nat.le_of_ble_eq_true rfl) (of_decide_eq_true (by kernel_rfl))
    (st153_n_c141 a1_0 a1_1) ([] : List ((Int × Int × Int) × (Int × Int × Int) × Int × Int × Int)) rfl (fun v1 => (by kernel_rfl)) (by kernel_rfl) (fun v v' => (roSub_ro (roSub_ro (roSub_own (roSub_own roSub_nil))))) (fun v1 => (by kernel_rfl)) (fun v1 => (by kernel_rfl)) (fun v1 => (Nat.le_of_ble_eq_true (by kernel_rfl)))
    (fun v x => .inl (S153_n_c141_r a1_0 a1_1 v x)) (fun r => r.elim) (fun v r => r.elim) (fun r => r.elim)
    (inv153_n_c141 a1_0 a1_1) (by simp [inv153_n_c141]) (sA153_n_c141 a1_0 a1_1) (fun v1 x => (by kernel_rfl)) (fun v1 x => (by kernel_rfl)) (fun v1 x => (Nat.le_of_ble_eq_true (by kernel_rfl)))
    (fun cx' l i v1 x QA hcx' hx hinv hg => norm_of (T := T0) hT hm (f := 5000) (orc := []) [] [2, 5] [4, 3] hcx' (obs := []) (by kernel_rfl) trivial hg)
    (fun cx' l i v1 x QB hcx' hx hinv hb1 hb2 => ?_) (fun cx' d v1 hh hv hinv => ?_) (fun cx' d r hh hv => ?_)
  · show Aw.Good _ _ _ _ _ _ _ (sA153_n_c141 a1_0 a1_1 v1 x)
    simp only [inv153_n_c141] at hinv
    have hlt := cut_lt ha hx
    have e : (Sum.inl (S153_n_c141_r a1_0 a1_1 v1 x) : (List ((Int × Int × Int) × (Int × Int × Int) × Int × Int × Int)) ⊕ Empty) = .inl (v1 ++ [x]) := by simp only [S153_n_c141_r]
    refine norm_of (T := T0) hT hm (f := 5000) (orc := []) [] [] [6] hcx' (s' := ⟨List.replicate 13 .u, [(.live false false (k9 a1_0)), (.live false false [(iv a1_1)]), (.live true false [(.s 3 0 (v1.length + 1) 9)]), (.live true true (flat c26 v1 ++ (k9 x)))]⟩)
      (obs := [.pr ((flat c26 v1).length = v1.length * 9 ∧ v1.length + 1 ≤ 2 ^ 40 ∧ (v1.length + 1) * 72 ≤ 2 ^ 47)]) (by kernel_rfl) ⟨(app_ok c26_len (by omega) (by omega)), trivial⟩ ?_
    have z0 : (flat c26 v1 ++ (k9 x)) = (flat c26 (v1 ++ [x])) := (flat_append (c := c26) (l := v1) (m := [x])).symm
    have z1 : (v1.length + 1) = (v1 ++ [x]).length := len_app v1 [x] rfl
    rw [z0, z1]
    exact hb1 _ e (by simp only [inv153_n_c141, List.length_append, List.length_cons, List.length_nil]; omega)
  · rw [runL_foldl, Sum.inl.injEq] at hv; rw [hv]
    show Aw.Good _ _ _ _ _ _ _ (st153_n_c141 a1_0 a1_1 v1)
    simp only [inv153_n_c141] at hinv
    have e : G153_n_c141 a1_0 a1_1 v1 = v1 := by simp only [G153_n_c141]
    rw [e]
    exact retH_of (T := T0) hT hm (f := 5000) (orc := []) [] [] [3] hh hcx
      (obs := []) (by kernel_rfl) trivial
  · exact r.elim

/-- slices.Collect[facet/api.Panel] at ('c141',) -/
def F114_c141 (a0_0 : (Int × Int × Int) × (Int × Int × Int) × Int × Int × Int) (a0_1 : Int) : List ((Int × Int × Int) × (Int × Int × Int) × Int × Int × Int) :=
  (F153_n_c141 a0_0 a0_1)

theorem C114_c141 (a0_0 : (Int × Int × Int) × (Int × Int × Int) × Int × Int × Int) (a0_1 : Int) (ha : 0 ≤ a0_1 ∧ a0_1 ≤ 3) : Con Try.prog 114 [(.f 141 [(.p 0 0), (.p 1 0)])] [(.live false false (k9 a0_0)), (.live false false [(iv a0_1)])] (.s 2 0 (F114_c141 a0_0 a0_1).length 9) [(.live true true (flat c26 (F114_c141 a0_0 a0_1)))] := by
  have e : (F114_c141 a0_0 a0_1) = (F153_n_c141 a0_0 a0_1) := by simp only [F114_c141]
  rw [e]
  refine con_of (n := 9) Try.func114 rfl (ent Try.func114 (by kernel_rfl) rfl) (by show 1 ≤ Try.f114.ntmps; decide) (by kernel_rfl) ⟨rfl, rfl, trivial⟩ (fun cx hcx => ?_)
  exact ret_of (T := T0) hT hm (f := 5000) (orc := [.call [0, 1] (.s 2 0 (F153_n_c141 a0_0 a0_1).length 9) [(.live true true (flat c26 (F153_n_c141 a0_0 a0_1)))]]) [] [] [2] hcx
    (obs := [.call 153 [(.v (.slice none 0 0)), (.f 141 [(.p 0 0), (.p 1 0)])] [(.live false false (k9 a0_0)), (.live false false [(iv a0_1)])] (.s 2 0 (F153_n_c141 a0_0 a0_1).length 9) [(.live true true (flat c26 (F153_n_c141 a0_0 a0_1)))]]) (by kernel_rfl) ⟨(C153_n_c141 a0_0 a0_1  (by (try simp only [List.length_append, List.length_cons, List.length_nil, Int.toNat_zero]); omega)), trivial⟩

/-- facet/field.corners -/
def F105 (a0 : (Int × Int × Int) × (Int × Int × Int) × Int × Int × Int) : (Int × Int × Int) × (Int × Int × Int) × Int × Int × Int :=
  a0

theorem C105 (a0 : (Int × Int × Int) × (Int × Int × Int) × Int × Int × Int) : Con Try.prog 105 [(.a (k9 a0))] [] (.a (k9 (F105 a0))) [] := by
  have e : (F105 a0) = a0 := by simp only [F105]
  rw [e]
  refine con_of (n := 9) Try.func105 rfl (ent Try.func105 (by kernel_rfl) rfl) (by show 1 ≤ Try.f105.ntmps; decide) (by kernel_rfl) trivial (fun cx hcx => ?_)
  exact ret_of (T := T0) hT hm (f := 5000) (orc := []) [] [] [] hcx
    (obs := []) (by kernel_rfl) trivial

/-- facet/field.average -/
def F108 (a0 : Int) (a1 : Int) (a2 : Int) : Int × Int :=
  (F148 (a0, a1) a2).1

theorem C108 (a0 : Int) (a1 : Int) (a2 : Int) : Con Try.prog 108 [(iv a0), (iv a1), (iv a2)] [] (.a (k2 (F108 a0 a1 a2))) [] := by
  have e : (F108 a0 a1 a2) = (F148 (a0, a1) a2).1 := by simp only [F108]
  rw [e]
  refine con_of (n := 9) Try.func108 rfl (ent Try.func108 (by kernel_rfl) rfl) (by show 3 ≤ Try.f108.ntmps; decide) (by kernel_rfl) trivial (fun cx hcx => ?_)
  exact ret_of (T := T0) hT hm (f := 5000) (orc := [.call [] (.t [(.a (k2 (F148 (a0, a1) a2).1)), (iv (F148 (a0, a1) a2).2)]) []]) [] [] [] hcx
    (obs := [.call 148 [(.a [(iv a0), (iv a1)]), (iv a2)] [] (.t [(.a (k2 (F148 (a0, a1) a2).1)), (iv (F148 (a0, a1) a2).2)]) []]) (by kernel_rfl) ⟨(C148 (a0, a1) a2), trivial⟩

noncomputable def RA80_f81 : Code := match (codeAtD [1, 1, 1, 1, 0, 1, 0] [] (Try.f80.body.getD .skip)).1 with
  | .rangeFunc _ _ a b => a
  | _ => .skip

noncomputable def RB80_f81 : Code := match (codeAtD [1, 1, 1, 1, 0, 1, 0] [] (Try.f80.body.getD .skip)).1 with
  | .rangeFunc _ _ a b => b
  | _ => .skip

noncomputable def RK80_f81 : List K := (codeAtD [1, 1, 1, 1, 0, 1, 0] [] (Try.f80.body.getD .skip)).2

/-- between two rounds of the range of facet/field.mean; the variables: v1 = h5_0, v2 = h6_0 -/
def st80_f81 (a0 : (Int × Int × Int) × (Int × Int × Int) × Int × Int × Int) (a1 : Int × Int × Int) (a2 : Int) : Int × Int → LS
  | (v1, v2) => ⟨[.u, .u, (iv a2), .u, .u, .u, .u, (.p 0 0), (.p 1 0), (.p 2 0), (.p 3 0), (.p 4 0), (.p 5 0), (.p 6 0), .u, .u, .u, .u, .u, .u, .u, .u, .u, .u, .u, .u, .u, .u, .u, (.f 141 [(.p 7 0), (.p 8 0)]), .u, .u, .u, .u, .u, .u, .u, .u, .u, .u, .u, .u, .u, .u, .u, .u, .u, .u, .u, .u, .u, .u, .u, .u, .u, .u, .u, .u, .u, .u, .u, .u, .u, .u, .u, .u, .u, .u, .u], [(.live true false [(.v (.func (.func 81) #[] #[]))]), (.live true false [(iv 0), (iv 0)]), (.live true false [(iv 0)]), (.live true false [(iv (W (1 * 2 ^ (min (Int.toNat a2) 64))))]), (.live true false [(.s 9 0 1 3)]), (.live true false [(iv v1)]), (.live true false [(iv v2)]), (.live true false (k9 a0)), (.live true false [(iv a2)]), (.live true false (k3 (F103 a1 (W (1 * 2 ^ (min (Int.toNat a2) 64))))))]⟩

def sA80_f81 (a0 : (Int × Int × Int) × (Int × Int × Int) × Int × Int × Int) (a1 : Int × Int × Int) (a2 : Int) : Int × Int → (Int × Int × Int) × (Int × Int × Int) × Int × Int × Int → LS
  | (v1, v2), x => ⟨[.u, .u, .u, .u, .u, .u, .u, (.p 0 0), (.p 1 0), (.p 2 0), (.p 3 0), (.p 4 0), (.p 5 0), (.p 6 0), (.p 10 0), .u, .u, .u, .u, .u, .u, .u, .u, .u, .u, .u, .u, .u, .u, .u, .u, .u, .u, .u, .u, .u, .u, .u, .u, .u, .u, .u, .u, .u, .u, .u, .u, .u, .u, .u, .u, .u, .u, .u, .u, .u, .u, .u, .u, .u, .u, .u, .u, .u, .u, .u, .u, .u, .u], [(.live true false [(.v (.func (.func 81) #[] #[]))]), (.live true false [(iv 0), (iv 0)]), (.live true false [(iv 0)]), (.live true false [(iv (W (1 * 2 ^ (min (Int.toNat a2) 64))))]), (.live true false [(.s 9 0 1 3)]), (.live true false [(iv v1)]), (.live true false [(iv v2)]), (.live true false (k9 a0)), (.live true false [(iv a2)]), (.live true false (k3 (F103 a1 (W (1 * 2 ^ (min (Int.toNat a2) 64)))))), (.live true false (k9 x))]⟩

def str80_f81 (a0 : (Int × Int × Int) × (Int × Int × Int) × Int × Int × Int) (a1 : Int × Int × Int) (a2 : Int) (r : (Int × Int) × Int) : LS := ⟨[], [.dead, (.live true false [(iv r.1.1), (iv r.1.2)]), (.live true false [(iv r.2)]), .dead, .dead, .dead, .dead, .dead, .dead, .dead]⟩

def S80_f81_r (a0 : (Int × Int × Int) × (Int × Int × Int) × Int × Int × Int) (a1 : Int × Int × Int) (a2 : Int) : Int × Int → (Int × Int × Int) × (Int × Int × Int) × Int × Int × Int → (Int × Int) ⊕ ((Int × Int) × Int)
  | (v1, v2), x =>
   (bif (((F106_3_1 (F105 x) (F103 a1 (W (1 * 2 ^ (min (Int.toNat a2) 64))))) : Int) == 0) then
    (.inr ((0, 0), 10))
   else
    (.inl ((W (v1 + (F81 (F107_L_L ([(F105 x).1, (F105 x).2.1, (F105 x).2.2] : List (Int × Int × Int)) ([(F103 a1 (W (1 * 2 ^ (min (Int.toNat a2) 64))))] : List (Int × Int × Int))) (W (1 * 2 ^ (min (Int.toNat a2) 64)))).1.1)), (W (v2 + (F81 (F106_3_1 (F105 x) (F103 a1 (W (1 * 2 ^ (min (Int.toNat a2) 64))))) (W (1 * 2 ^ (min (Int.toNat a2) 64)))).1.2)))))

def G80_f81 (a0 : (Int × Int × Int) × (Int × Int × Int) × Int × Int × Int) (a1 : Int × Int × Int) (a2 : Int) : Int × Int → (Int × Int) × Int
  | (v1, v2) =>
   ((F108 v1 v2 (W (1 * 2 ^ (min (Int.toNat (W (2 * a2))) 64)))), 0)

/-- facet/field.mean at ('f81',) -/
def F80_f81 (a0 : (Int × Int × Int) × (Int × Int × Int) × Int × Int × Int) (a1 : Int × Int × Int) (a2 : Int) : (Int × Int) × Int :=
  (thenL (G80_f81 a0 a1 a2) (runL (S80_f81_r a0 a1 a2) (cutL (Int.toNat a2) a0) (0, 0)))

theorem C80_f81 (a0 : (Int × Int × Int) × (Int × Int × Int) × Int × Int × Int) (a1 : Int × Int × Int) (a2 : Int) (ha : 0 ≤ a2 ∧ a2 ≤ 3) : Con Try.prog 80 [(.a (k9 a0)), (.a (k3 a1)), (iv a2), (.v (.func (.func 81) #[] #[]))] [] (.t [(.a (k2 (F80_f81 a0 a1 a2).1)), (iv (F80_f81 a0 a1 a2).2)]) [] := by
  have e : (F80_f81 a0 a1 a2) = (thenL (G80_f81 a0 a1 a2) (runL (S80_f81_r a0 a1 a2) (cutL (Int.toNat a2) a0) (0, 0))) := by simp only [F80_f81]
  rw [e]
  refine con_of_mark (n := 9) Try.func80 rfl (ent Try.func80 (by kernel_rfl) rfl) (by show 4 ≤ Try.f80.ntmps; decide) (by kernel_rfl) trivial (fun cx hcx => ?_)
  refine at_of (T := T0) hT hm (f := 5000) (orc := [.call [] (.a (k3 (F103 a1 (W (1 * 2 ^ (min (Int.toNat a2) 64)))))) [], .call [] (.f 141 [(.p 0 0), (.p 1 0)]) [(.live true false (k9 a0)), (.live true false [(iv a2)])]]) [] [2, 7, 8, 9, 10, 11, 12, 13, 29] [2, 3, 4, 5, 7, 8, 9, 10, 11, 6] hcx (x := .rangeFunc (.tmp 29) #[30] RA80_f81 RB80_f81) (k' := RK80_f81) (s' := st80_f81 a0 a1 a2 (0, 0))
    (obs := [.pr (0 ≤ (a2 : Int)), .call 103 [(.a (k3 a1)), (iv (W (1 * 2 ^ (min (Int.toNat a2) 64))))] [] (.a (k3 (F103 a1 (W (1 * 2 ^ (min (Int.toNat a2) 64)))))) [], .call 104 [(.a (k9 a0)), (iv a2)] [] (.f 141 [(.p 0 0), (.p 1 0)]) [(.live true false (k9 a0)), (.live true false [(iv a2)])]]) (by kernel_rfl) ⟨(show 0 ≤ (a2 : Int) from by first | omega | (rw [W_eq] <;> omega) | exact u64_nn _), (C103 a1 (W (1 * 2 ^ (min (Int.toNat a2) 64)))), (C104 a0 a2), trivial⟩ ?_
  refine range_of (xs := cutL (Int.toNat a2) a0) (enc := encP) (V := Int × Int) (R' := ((Int × Int) × Int)) hcx rfl [7, 8] [(.p 0 0), (.p 1 0)] [(.live false false (k9 a0)), (.live false false [(iv a2)])] rfl rfl (iter_cutI a0 a2 (by first | omega | exact pair_le h0)) (fun x => SV.a (cP x)) encP_rel cP_has 10 (Nat.le_of_ble_eq_true rfl) (of_decide_eq_true (by kernel_rfl))
    (st80_f81 a0 a1 a2) (0, 0) rfl (fun ⟨v1, v2⟩ => (by kernel_rfl)) (by kernel_rfl) (fun v v' => (roSub_own (roSub_own (roSub_own (roSub_own (roSub_own (roSub_own (roSub_own (roSub_own (roSub_own (roSub_own roSub_nil))))))))))) (fun ⟨v1, v2⟩ => (by kernel_rfl)) (fun ⟨v1, v2⟩ => (by kernel_rfl)) (fun ⟨v1, v2⟩ => (Nat.le_of_ble_eq_true (by kernel_rfl)))
    (S80_f81_r a0 a1 a2) (str80_f81 a0 a1 a2) (fun v r => (roSub_dead (roSub_own (roSub_own (roSub_dead (roSub_dead (roSub_dead (roSub_dead (roSub_dead (roSub_dead (roSub_dead roSub_nil))))))))))) (fun r => (by kernel_rfl))
    (fun _ _ => True) trivial (sA80_f81 a0 a1 a2) (fun ⟨v1, v2⟩ x => (by kernel_rfl)) (fun ⟨v1, v2⟩ x => (by kernel_rfl)) (fun ⟨v1, v2⟩ x => (Nat.le_of_ble_eq_true (by kernel_rfl)))
    (fun cx' l i ⟨v1, v2⟩ x QA hcx' hx hinv hg => norm_of (T := T0) hT hm (f := 5000) (orc := []) [] [7, 8, 9, 10, 11, 12, 13, 14] [10] hcx' (obs := []) (by kernel_rfl) trivial hg)
    (fun cx' l i ⟨v1, v2⟩ x QB hcx' hx hinv hb1 hb2 => ?_) (fun cx' d ⟨v1, v2⟩ hh hv hinv => ?_) (fun cx' d r hh hv => ?_)
  · show Aw.Good _ _ _ _ _ _ _ (sA80_f81 a0 a1 a2 (v1, v2) x)
    cases h0 : (((F106_3_1 (F105 x) (F103 a1 (W (1 * 2 ^ (min (Int.toNat a2) 64))))) : Int) == 0) with
    | true =>
      have q0 := eq_of_beq h0
      have e : S80_f81_r a0 a1 a2 (v1, v2) x = (.inr ((0, 0), 10)) := by simp only [S80_f81_r, h0, cond_true, cond_false]
      exact rets_of (T := T0) hT hm (f := 5000) (orc := [.call [] (.a (k9 (F105 x))) [], .call [11, 9] (iv (F106_3_1 (F105 x) (F103 a1 (W (1 * 2 ^ (min (Int.toNat a2) 64)))))) [], .d true]) [.kill 0, .kill 3, .kill 4, .kill 5, .kill 6, .kill 7, .kill 8, .kill 9] [] [] hcx' (s' := ⟨List.replicate 69 .u, (str80_f81 a0 a1 a2 ((0, 0), 10)).bk⟩)
        (obs := [.call 105 [(.a (k9 x))] [] (.a (k9 (F105 x))) [], .call 106 [(.s 0 0 3 3), (.s 1 0 1 3)] [(.live false false (k9 (F105 x))), (.live false false (k3 (F103 a1 (W (1 * 2 ^ (min (Int.toNat a2) 64))))))] (iv (F106_3_1 (F105 x) (F103 a1 (W (1 * 2 ^ (min (Int.toNat a2) 64)))))) [], .eq (((F106_3_1 (F105 x) (F103 a1 (W (1 * 2 ^ (min (Int.toNat a2) 64))))) : Int) == 0) true]) (by kernel_rfl) ⟨(C105 x), (C106_3_1 (F105 x) (F103 a1 (W (1 * 2 ^ (min (Int.toNat a2) 64))))), h0, trivial⟩ (hb2 _ e)
    | false =>
      have q0 := ne_of_beq_false h0
      have e : S80_f81_r a0 a1 a2 (v1, v2) x = (.inl ((W (v1 + (F81 (F107_L_L ([(F105 x).1, (F105 x).2.1, (F105 x).2.2] : List (Int × Int × Int)) ([(F103 a1 (W (1 * 2 ^ (min (Int.toNat a2) 64))))] : List (Int × Int × Int))) (W (1 * 2 ^ (min (Int.toNat a2) 64)))).1.1)), (W (v2 + (F81 (F106_3_1 (F105 x) (F103 a1 (W (1 * 2 ^ (min (Int.toNat a2) 64))))) (W (1 * 2 ^ (min (Int.toNat a2) 64)))).1.2)))) := by simp only [S80_f81_r, h0, cond_true, cond_false]
      refine norm_of (T := T0) hT hm (f := 5000) (orc := [.call [] (.a (k9 (F105 x))) [], .call [11, 9] (iv (F106_3_1 (F105 x) (F103 a1 (W (1 * 2 ^ (min (Int.toNat a2) 64)))))) [], .d false, .call [11, 9] (iv (F107_L_L ([(F105 x).1, (F105 x).2.1, (F105 x).2.2] : List (Int × Int × Int)) ([(F103 a1 (W (1 * 2 ^ (min (Int.toNat a2) 64))))] : List (Int × Int × Int)))) [], .call [] (.t [(.a (k2 (F81 (F107_L_L ([(F105 x).1, (F105 x).2.1, (F105 x).2.2] : List (Int × Int × Int)) ([(F103 a1 (W (1 * 2 ^ (min (Int.toNat a2) 64))))] : List (Int × Int × Int))) (W (1 * 2 ^ (min (Int.toNat a2) 64)))).1)), (iv (F81 (F107_L_L ([(F105 x).1, (F105 x).2.1, (F105 x).2.2] : List (Int × Int × Int)) ([(F103 a1 (W (1 * 2 ^ (min (Int.toNat a2) 64))))] : List (Int × Int × Int))) (W (1 * 2 ^ (min (Int.toNat a2) 64)))).2)]) [], .call [] (.t [(.a (k2 (F81 (F106_3_1 (F105 x) (F103 a1 (W (1 * 2 ^ (min (Int.toNat a2) 64))))) (W (1 * 2 ^ (min (Int.toNat a2) 64)))).1)), (iv (F81 (F106_3_1 (F105 x) (F103 a1 (W (1 * 2 ^ (min (Int.toNat a2) 64))))) (W (1 * 2 ^ (min (Int.toNat a2) 64)))).2)]) []]) [] [] [] hcx' (s' := ⟨List.replicate 69 .u, [(.live true false [(.v (.func (.func 81) #[] #[]))]), (.live true false [(iv 0), (iv 0)]), (.live true false [(iv 0)]), (.live true false [(iv (W (1 * 2 ^ (min (Int.toNat a2) 64))))]), (.live true false [(.s 9 0 1 3)]), (.live true false [(iv (W (v1 + (F81 (F107_L_L ([(F105 x).1, (F105 x).2.1, (F105 x).2.2] : List (Int × Int × Int)) ([(F103 a1 (W (1 * 2 ^ (min (Int.toNat a2) 64))))] : List (Int × Int × Int))) (W (1 * 2 ^ (min (Int.toNat a2) 64)))).1.1)))]), (.live true false [(iv (W (v2 + (F81 (F106_3_1 (F105 x) (F103 a1 (W (1 * 2 ^ (min (Int.toNat a2) 64))))) (W (1 * 2 ^ (min (Int.toNat a2) 64)))).1.2)))]), (.live true false (k9 a0)), (.live true false [(iv a2)]), (.live true false (k3 (F103 a1 (W (1 * 2 ^ (min (Int.toNat a2) 64))))))]⟩)
        (obs := [.call 105 [(.a (k9 x))] [] (.a (k9 (F105 x))) [], .call 106 [(.s 0 0 3 3), (.s 1 0 1 3)] [(.live false false (k9 (F105 x))), (.live false false (k3 (F103 a1 (W (1 * 2 ^ (min (Int.toNat a2) 64))))))] (iv (F106_3_1 (F105 x) (F103 a1 (W (1 * 2 ^ (min (Int.toNat a2) 64)))))) [], .eq (((F106_3_1 (F105 x) (F103 a1 (W (1 * 2 ^ (min (Int.toNat a2) 64))))) : Int) == 0) false, .call 107 [(.s 0 0 3 3), (.s 1 0 1 3)] [(.live false false (k9 (F105 x))), (.live false false (k3 (F103 a1 (W (1 * 2 ^ (min (Int.toNat a2) 64))))))] (iv (F107_L_L ([(F105 x).1, (F105 x).2.1, (F105 x).2.2] : List (Int × Int × Int)) ([(F103 a1 (W (1 * 2 ^ (min (Int.toNat a2) 64))))] : List (Int × Int × Int)))) [], .call 81 [(iv (F107_L_L ([(F105 x).1, (F105 x).2.1, (F105 x).2.2] : List (Int × Int × Int)) ([(F103 a1 (W (1 * 2 ^ (min (Int.toNat a2) 64))))] : List (Int × Int × Int)))), (iv (W (1 * 2 ^ (min (Int.toNat a2) 64))))] [] (.t [(.a (k2 (F81 (F107_L_L ([(F105 x).1, (F105 x).2.1, (F105 x).2.2] : List (Int × Int × Int)) ([(F103 a1 (W (1 * 2 ^ (min (Int.toNat a2) 64))))] : List (Int × Int × Int))) (W (1 * 2 ^ (min (Int.toNat a2) 64)))).1)), (iv (F81 (F107_L_L ([(F105 x).1, (F105 x).2.1, (F105 x).2.2] : List (Int × Int × Int)) ([(F103 a1 (W (1 * 2 ^ (min (Int.toNat a2) 64))))] : List (Int × Int × Int))) (W (1 * 2 ^ (min (Int.toNat a2) 64)))).2)]) [], .call 81 [(iv (F106_3_1 (F105 x) (F103 a1 (W (1 * 2 ^ (min (Int.toNat a2) 64)))))), (iv (W (1 * 2 ^ (min (Int.toNat a2) 64))))] [] (.t [(.a (k2 (F81 (F106_3_1 (F105 x) (F103 a1 (W (1 * 2 ^ (min (Int.toNat a2) 64))))) (W (1 * 2 ^ (min (Int.toNat a2) 64)))).1)), (iv (F81 (F106_3_1 (F105 x) (F103 a1 (W (1 * 2 ^ (min (Int.toNat a2) 64))))) (W (1 * 2 ^ (min (Int.toNat a2) 64)))).2)]) []]) (by kernel_rfl) ⟨(C105 x), (C106_3_1 (F105 x) (F103 a1 (W (1 * 2 ^ (min (Int.toNat a2) 64))))), h0, (Con.flags (C107_L_L ([(F105 x).1, (F105 x).2.1, (F105 x).2.2] : List (Int × Int × Int)) ([(F103 a1 (W (1 * 2 ^ (min (Int.toNat a2) 64))))] : List (Int × Int × Int)) (by (try simp only [List.length_append, List.length_cons, List.length_nil, Int.toNat_zero]); omega) (by (try simp only [List.length_append, List.length_cons, List.length_nil, Int.toNat_zero]); omega)) rfl ⟨flat_plain (fun _ => rfl), flat_plain (fun _ => rfl), trivial⟩), (C81 (F107_L_L ([(F105 x).1, (F105 x).2.1, (F105 x).2.2] : List (Int × Int × Int)) ([(F103 a1 (W (1 * 2 ^ (min (Int.toNat a2) 64))))] : List (Int × Int × Int))) (W (1 * 2 ^ (min (Int.toNat a2) 64)))), (C81 (F106_3_1 (F105 x) (F103 a1 (W (1 * 2 ^ (min (Int.toNat a2) 64))))) (W (1 * 2 ^ (min (Int.toNat a2) 64)))), trivial⟩ ?_
      exact hb1 _ e trivial
  · rw [hv]
    show Aw.Good _ _ _ _ _ _ _ (st80_f81 a0 a1 a2 (v1, v2))
    have e : thenL (G80_f81 a0 a1 a2) (Sum.inl (v1, v2)) = ((F108 v1 v2 (W (1 * 2 ^ (min (Int.toNat (W (2 * a2))) 64)))), 0) := by simp only [thenL, G80_f81]
    rw [e]
    exact retH_of (T := T0) hT hm (f := 5000) (orc := [.call [] (.a (k2 (F108 v1 v2 (W (1 * 2 ^ (min (Int.toNat (W (2 * a2))) 64)))))) []]) [] [] [] hh hcx
      (obs := [.pr (0 ≤ ((W (2 * a2)) : Int)), .call 108 [(iv v1), (iv v2), (iv (W (1 * 2 ^ (min (Int.toNat (W (2 * a2))) 64))))] [] (.a (k2 (F108 v1 v2 (W (1 * 2 ^ (min (Int.toNat (W (2 * a2))) 64)))))) []]) (by kernel_rfl) ⟨(show 0 ≤ ((W (2 * a2)) : Int) from by first | omega | (rw [W_eq] <;> omega) | exact u64_nn _), (C108 v1 v2 (W (1 * 2 ^ (min (Int.toNat (W (2 * a2))) 64)))), trivial⟩
  · rw [hv]
    exact finH_of (T := T0) hT [] [] [] (s' := ⟨[.u, .u, (iv a2), .u, .u, .u, .u, (.p 0 0), (.p 1 0), (.p 2 0), (.p 3 0), (.p 4 0), (.p 5 0), (.p 6 0), .u, .u, .u, .u, .u, .u, .u, .u, .u, .u, .u, .u, .u, .u, .u, (.f 141 [(.p 7 0), (.p 8 0)]), .u, .u, .u, .u, .u, .u, .u, .u, .u, .u, .u, .u, .u, .u, .u, .u, .u, .u, .u, .u, .u, .u, .u, .u, .u, .u, .u, .u, .u, .u, .u, .u, .u, .u, .u, .u, .u, .u, .u], (str80_f81 a0 a1 a2 r).bk⟩) rfl hh hcx (by kernel_rfl)

end Go.Proofs.Ytopbnnmkdildgaa
