/-
  A part of the proofs of the Field laws: what functions of the program compute, and that it is what the statements ask. No premise.
-/
import Derived.Test.YtjlekmjnkpcnoaaMc
namespace Go.Proofs.Ytjlekmjnkpcnoaa
open Go.Proofs Go.Aw Go.RowKit
set_option maxRecDepth 100000
set_option linter.unusedVariables false
set_option linter.unusedSimpArgs false

/-! ### What is asked -/
theorem win_in3 {a b c : Int} (h : (!(F45 a b c)) = false) : b ≤ a ∧ a ≤ c := by
  rw [within_eq3] at h; simpa using h
open Classical in
theorem seen_f (x : P3) : F72 x = decide (bd 256 x) := by
  unfold F72
  rw [within_eq, within_eq, within_eq]
  exact and3 (by unfold bd; omega)
open Classical in
theorem seen_r (x : P3) : F94 x = decide (bd 256 x) := by
  unfold F94
  rw [within_eq3, within_eq3, within_eq3]
  exact and3 (by unfold bd; omega)
open Classical in
noncomputable def ck (p : PN) (x : P3) (d : Int) : Int := if vp p = 0 then (if bd 256 x ∧ (0 ≤ d ∧ d ≤ 3) then 0 else 1) else vp p
open Classical in
theorem ck_aux (v : Int) (a b : Prop) [Decidable a] [Decidable b] : (bif (v != 0) then v else (bif (!(decide a)) then 1 else (bif (!(decide b)) then (1 : Int) else 0))) = if v = 0 then (if a ∧ b then 0 else 1) else v := by
  by_cases hv : v = 0
  · subst hv
    by_cases ha : a <;> by_cases hb : b <;> simp [ha, hb]
  · rw [bne_iff_ne.2 hv, cond_true, if_neg hv]
open Classical in
theorem chk_eq (p : PN) (x : P3) (d : Int) : F42 p x d = ck p x d := by
  unfold F42 ck
  rw [vp_s, seen_f, within_eq]
  exact ck_aux _ _ _
open Classical in
theorem ask_eq (p : PN) (x : P3) (d : Int) : F44 p x d = ck p x d := by
  unfold F44 ck
  rw [vp_r, seen_r, within_eq3]
  exact ck_aux _ _ _
theorem ck_ok {p : PN} {x : P3} {d : Int} (h : ck p x d = 0) : vp p = 0 ∧ bd 256 x ∧ 0 ≤ d ∧ d ≤ 3 := by
  unfold ck at h
  split at h
  · rename_i h0
    split at h
    · rename_i h1; exact ⟨h0, h1⟩
    · cases h
  · rename_i h0; exact absurd h h0
theorem chk_ok {p : PN} {x : P3} {d : Int} (h : ((F42 p x d : Int) != 0) = false) : vp p = 0 ∧ bd 256 x ∧ 0 ≤ d ∧ d ≤ 3 :=
  ck_ok (by rw [← chk_eq]; simpa using h)
theorem chk_le {p : PN} {x : P3} {d : Int} (h : ((F42 p x d : Int) != 0) = false) : 0 ≤ d ∧ d ≤ 3 := (chk_ok h).2.2
theorem chk_vp {p : PN} {x : P3} {d : Int} (h : ((F42 p x d : Int) != 0) = false) : F93 p = 0 := by
  rw [vp_s]; exact (chk_ok h).1
theorem ask_le {p : PN} {x : P3} {d : Int} (h : ((F44 p x d : Int) != 0) = false) : 0 ≤ d ∧ d ≤ 3 :=
  (ck_ok (p := p) (x := x) (by rw [← ask_eq]; simpa using h)).2.2
open Classical in
noncomputable def pk (p q : PN) (d : Int) : Int := if vp p = 0 then (if vp q = 0 then (if 0 ≤ d ∧ d ≤ 2 then 0 else 1) else vp q) else vp p
theorem pk_aux (v w : Int) (b : Prop) [Decidable b] : (bif (v != 0) then v else (bif (w != 0) then w else (bif (!(decide b)) then (1 : Int) else 0))) = if v = 0 then (if w = 0 then (if b then 0 else 1) else w) else v := by
  by_cases hv : v = 0
  · subst hv
    by_cases hw : w = 0
    · subst hw; by_cases hb : b <;> simp [hb]
    · rw [bne_iff_ne.2 hw, cond_true, if_neg hw]; simp
  · rw [bne_iff_ne.2 hv, cond_true, if_neg hv]
theorem pair_eq (p q : PN) (d : Int) : F62 p q d = pk p q d := by
  unfold F62 pk
  rw [vp_s, vp_s, within_eq, pk_aux]
theorem paired_eq (p q : PN) (d : Int) : F65 p q d = pk p q d := by
  unfold F65 pk
  rw [vp_r, vp_r, within_eq3, pk_aux]
theorem pk_ok {p q : PN} {d : Int} (h : pk p q d = 0) : vp p = 0 ∧ vp q = 0 ∧ 0 ≤ d ∧ d ≤ 2 := by
  unfold pk at h
  split at h
  · rename_i h0
    split at h
    · rename_i h1
      split at h
      · rename_i h2; exact ⟨h0, h1, h2⟩
      · cases h
    · rename_i h1; exact absurd h h1
  · rename_i h0; exact absurd h h0
theorem pair_ok {p q : PN} {d : Int} (h : ((F62 p q d : Int) != 0) = false) : vp p = 0 ∧ vp q = 0 ∧ 0 ≤ d ∧ d ≤ 2 :=
  pk_ok (by rw [← pair_eq]; simpa using h)
theorem pair_vp {p q : PN} {d : Int} (h : ((F62 p q d : Int) != 0) = false) : F93 p = 0 := by
  rw [vp_s]; exact (pair_ok h).1
theorem pair_vq {p q : PN} {d : Int} (h : ((F62 p q d : Int) != 0) = false) : F93 q = 0 := by
  rw [vp_s]; exact (pair_ok h).2.1
theorem pair_le {p q : PN} {d : Int} (h : ((F62 p q d : Int) != 0) = false) : 0 ≤ d ∧ d ≤ 3 := by have := pair_ok h; omega
theorem paired_le {p q : PN} {d : Int} (h : ((F65 p q d : Int) != 0) = false) : 0 ≤ d ∧ d ≤ 3 := by
  have := pk_ok (p := p) (q := q) (d := d) (by rw [← paired_eq]; simpa using h); omega
theorem paired_hr {p q : PN} {d : Int} (h : ((F65 p q d : Int) != 0) = false) : W (128 * F114 (F115 (F106 p) (F106 p))) ≠ 0 :=
  rim_neR (by rw [vp_r]; exact (pk_ok (p := p) (q := q) (d := d) (by rw [← paired_eq]; simpa using h)).1)
theorem vpr_hr {p : PN} (h : ((F49 p : Int) != 0) = false) : W (128 * F114 (F115 (F106 p) (F106 p))) ≠ 0 :=
  rim_neR (by simpa using h)

/-- facet/field.Parts -/
def F17 (a0 : (Int × Int × Int) × (Int × Int × Int) × Int × Int × Int) (a1 : Int) : (List ((Int × Int × Int) × (Int × Int × Int) × Int × Int × Int)) × Int :=
  (bif (((F42 a0 (0, 0, 0) a1) : Int) != 0) then
   (([] : List ((Int × Int × Int) × (Int × Int × Int) × Int × Int × Int)), (F42 a0 (0, 0, 0) a1))
  else
   ((F47_c102 a0 a1), 0))

theorem C17 (a0 : (Int × Int × Int) × (Int × Int × Int) × Int × Int × Int) (a1 : Int) : Con Try.prog 17 [(.a (k9 a0)), (iv a1)] [] (.t [(.s 0 0 (F17 a0 a1).1.length 9), (iv (F17 a0 a1).2)]) [(.live true true (flat c25 (F17 a0 a1).1))] := by
  cases h0 : (((F42 a0 (0, 0, 0) a1) : Int) != 0) with
  | true =>
    have q0 := bne_iff_ne.1 h0
    have e : (F17 a0 a1) = (([] : List ((Int × Int × Int) × (Int × Int × Int) × Int × Int × Int)), (F42 a0 (0, 0, 0) a1)) := by simp only [F17, h0, cond_true, cond_false]
    rw [e]
    refine con_of (n := 9) Try.func17 rfl (ent Try.func17 (by kernel_rfl) rfl) (by show 2 ≤ Try.f17.ntmps; decide) (by kernel_rfl) trivial (fun cx hcx => ?_)
    exact ret_of (T := T0) hT hm (f := 5000) (orc := [.call [] (iv (F42 a0 (0, 0, 0) a1)) [], .d true]) [.slot 4 9] [] [1] hcx
      (obs := [.call 42 [(.a (k9 a0)), (.a [(iv 0), (iv 0), (iv 0)]), (iv a1)] [] (iv (F42 a0 (0, 0, 0) a1)) [], .eq (((F42 a0 (0, 0, 0) a1) : Int) != 0) true]) (by kernel_rfl) ⟨(C42 a0 (0, 0, 0) a1), h0, trivial⟩
  | false =>
    have q0 := bne_eq_false_iff_eq.1 h0
    have e : (F17 a0 a1) = ((F47_c102 a0 a1), 0) := by simp only [F17, h0, cond_true, cond_false]
    rw [e]
    refine con_of (n := 9) Try.func17 rfl (ent Try.func17 (by kernel_rfl) rfl) (by show 2 ≤ Try.f17.ntmps; decide) (by kernel_rfl) trivial (fun cx hcx => ?_)
    exact ret_of (T := T0) hT hm (f := 5000) (orc := [.call [] (iv (F42 a0 (0, 0, 0) a1)) [], .d false, .call [] (.f 102 [(.p 0 0), (.p 1 0)]) [(.live true false (k9 a0)), (.live true false [(iv a1)])], .call [1, 2] (.s 2 0 (F47_c102 a0 a1).length 9) [(.live true true (flat c25 (F47_c102 a0 a1)))]]) [] [] [3] hcx
      (obs := [.call 42 [(.a (k9 a0)), (.a [(iv 0), (iv 0), (iv 0)]), (iv a1)] [] (iv (F42 a0 (0, 0, 0) a1)) [], .eq (((F42 a0 (0, 0, 0) a1) : Int) != 0) false, .call 48 [(.a (k9 a0)), (iv a1)] [] (.f 102 [(.p 0 0), (.p 1 0)]) [(.live true false (k9 a0)), (.live true false [(iv a1)])], .call 47 [(.f 102 [(.p 0 0), (.p 1 0)])] [(.live false false (k9 a0)), (.live false false [(iv a1)])] (.s 2 0 (F47_c102 a0 a1).length 9) [(.live true true (flat c25 (F47_c102 a0 a1)))]]) (by kernel_rfl) ⟨(C42 a0 (0, 0, 0) a1), h0, (C48 a0 a1), (C47_c102 a0 a1  (chk_le h0)), trivial⟩

/-- facet/field.Mean -/
def F19 (a0 : (Int × Int × Int) × (Int × Int × Int) × Int × Int × Int) (a1 : Int × Int × Int) (a2 : Int) : (Int × Int) × Int :=
  (bif (((F42 a0 a1 a2) : Int) != 0) then
   ((0, 0), (F42 a0 a1 a2))
  else
   ((F51_f52 a0 a1 a2).1, (F51_f52 a0 a1 a2).2))

theorem C19 (a0 : (Int × Int × Int) × (Int × Int × Int) × Int × Int × Int) (a1 : Int × Int × Int) (a2 : Int) : Con Try.prog 19 [(.a (k9 a0)), (.a (k3 a1)), (iv a2)] [] (.t [(.a (k2 (F19 a0 a1 a2).1)), (iv (F19 a0 a1 a2).2)]) [] := by
  cases h0 : (((F42 a0 a1 a2) : Int) != 0) with
  | true =>
    have q0 := bne_iff_ne.1 h0
    have e : (F19 a0 a1 a2) = ((0, 0), (F42 a0 a1 a2)) := by simp only [F19, h0, cond_true, cond_false]
    rw [e]
    refine con_of (n := 9) Try.func19 rfl (ent Try.func19 (by kernel_rfl) rfl) (by show 3 ≤ Try.f19.ntmps; decide) (by kernel_rfl) trivial (fun cx hcx => ?_)
    exact ret_of (T := T0) hT hm (f := 5000) (orc := [.call [] (iv (F42 a0 a1 a2)) [], .d true]) [] [] [] hcx
      (obs := [.call 42 [(.a (k9 a0)), (.a (k3 a1)), (iv a2)] [] (iv (F42 a0 a1 a2)) [], .eq (((F42 a0 a1 a2) : Int) != 0) true]) (by kernel_rfl) ⟨(C42 a0 a1 a2), h0, trivial⟩
  | false =>
    have q0 := bne_eq_false_iff_eq.1 h0
    have e : (F19 a0 a1 a2) = ((F51_f52 a0 a1 a2).1, (F51_f52 a0 a1 a2).2) := by simp only [F19, h0, cond_true, cond_false]
    rw [e]
    refine con_of (n := 9) Try.func19 rfl (ent Try.func19 (by kernel_rfl) rfl) (by show 3 ≤ Try.f19.ntmps; decide) (by kernel_rfl) trivial (fun cx hcx => ?_)
    exact ret_of (T := T0) hT hm (f := 5000) (orc := [.call [] (iv (F42 a0 a1 a2)) [], .d false, .call [] (.t [(.a (k2 (F51_f52 a0 a1 a2).1)), (iv (F51_f52 a0 a1 a2).2)]) []]) [] [] [] hcx
      (obs := [.call 42 [(.a (k9 a0)), (.a (k3 a1)), (iv a2)] [] (iv (F42 a0 a1 a2)) [], .eq (((F42 a0 a1 a2) : Int) != 0) false, .call 51 [(.a (k9 a0)), (.a (k3 a1)), (iv a2), (.v (.func (.func 52) #[] #[]))] [] (.t [(.a (k2 (F51_f52 a0 a1 a2).1)), (iv (F51_f52 a0 a1 a2).2)]) []]) (by kernel_rfl) ⟨(C42 a0 a1 a2), h0, (C51_f52 a0 a1 a2  (chk_le h0)), trivial⟩

/-- facet/field.MeanCube -/
def F21 (a0 : (Int × Int × Int) × (Int × Int × Int) × Int × Int × Int) (a1 : Int × Int × Int) (a2 : Int) : (Int × Int) × Int :=
  (bif (((F42 a0 a1 a2) : Int) != 0) then
   ((0, 0), (F42 a0 a1 a2))
  else
   ((F51_f53 a0 a1 a2).1, (F51_f53 a0 a1 a2).2))

theorem C21 (a0 : (Int × Int × Int) × (Int × Int × Int) × Int × Int × Int) (a1 : Int × Int × Int) (a2 : Int) : Con Try.prog 21 [(.a (k9 a0)), (.a (k3 a1)), (iv a2)] [] (.t [(.a (k2 (F21 a0 a1 a2).1)), (iv (F21 a0 a1 a2).2)]) [] := by
  cases h0 : (((F42 a0 a1 a2) : Int) != 0) with
  | true =>
    have q0 := bne_iff_ne.1 h0
    have e : (F21 a0 a1 a2) = ((0, 0), (F42 a0 a1 a2)) := by simp only [F21, h0, cond_true, cond_false]
    rw [e]
    refine con_of (n := 9) Try.func21 rfl (ent Try.func21 (by kernel_rfl) rfl) (by show 3 ≤ Try.f21.ntmps; decide) (by kernel_rfl) trivial (fun cx hcx => ?_)
    exact ret_of (T := T0) hT hm (f := 5000) (orc := [.call [] (iv (F42 a0 a1 a2)) [], .d true]) [] [] [] hcx
      (obs := [.call 42 [(.a (k9 a0)), (.a (k3 a1)), (iv a2)] [] (iv (F42 a0 a1 a2)) [], .eq (((F42 a0 a1 a2) : Int) != 0) true]) (by kernel_rfl) ⟨(C42 a0 a1 a2), h0, trivial⟩
  | false =>
    have q0 := bne_eq_false_iff_eq.1 h0
    have e : (F21 a0 a1 a2) = ((F51_f53 a0 a1 a2).1, (F51_f53 a0 a1 a2).2) := by simp only [F21, h0, cond_true, cond_false]
    rw [e]
    refine con_of (n := 9) Try.func21 rfl (ent Try.func21 (by kernel_rfl) rfl) (by show 3 ≤ Try.f21.ntmps; decide) (by kernel_rfl) trivial (fun cx hcx => ?_)
    exact ret_of (T := T0) hT hm (f := 5000) (orc := [.call [] (iv (F42 a0 a1 a2)) [], .d false, .call [] (.t [(.a (k2 (F51_f53 a0 a1 a2).1)), (iv (F51_f53 a0 a1 a2).2)]) []]) [] [] [] hcx
      (obs := [.call 42 [(.a (k9 a0)), (.a (k3 a1)), (iv a2)] [] (iv (F42 a0 a1 a2)) [], .eq (((F42 a0 a1 a2) : Int) != 0) false, .call 51 [(.a (k9 a0)), (.a (k3 a1)), (iv a2), (.v (.func (.func 53) #[] #[]))] [] (.t [(.a (k2 (F51_f53 a0 a1 a2).1)), (iv (F51_f53 a0 a1 a2).2)]) []]) (by kernel_rfl) ⟨(C42 a0 a1 a2), h0, (C51_f53 a0 a1 a2  (chk_le h0)), trivial⟩

/-- facet/field.Between -/
def F27 (a0 : (Int × Int × Int) × (Int × Int × Int) × Int × Int × Int) (a1 : (Int × Int × Int) × (Int × Int × Int) × Int × Int × Int) (a2 : Int) : (Int × Int) × Int :=
  (bif (((F62 a0 a1 a2) : Int) != 0) then
   ((0, 0), (F62 a0 a1 a2))
  else
   ((F63 a0 ((F64 a1.1 (W (1 * 2 ^ (min (Int.toNat a2) 64)))), (F64 a1.2.1 (W (1 * 2 ^ (min (Int.toNat a2) 64)))), (F64 a1.2.2 (W (1 * 2 ^ (min (Int.toNat a2) 64))))) a2), 0))

theorem C27 (a0 : (Int × Int × Int) × (Int × Int × Int) × Int × Int × Int) (a1 : (Int × Int × Int) × (Int × Int × Int) × Int × Int × Int) (a2 : Int) : Con Try.prog 27 [(.a (k9 a0)), (.a (k9 a1)), (iv a2)] [] (.t [(.a (k2 (F27 a0 a1 a2).1)), (iv (F27 a0 a1 a2).2)]) [] := by
  cases h0 : (((F62 a0 a1 a2) : Int) != 0) with
  | true =>
    have q0 := bne_iff_ne.1 h0
    have e : (F27 a0 a1 a2) = ((0, 0), (F62 a0 a1 a2)) := by simp only [F27, h0, cond_true, cond_false]
    rw [e]
    refine con_of (n := 9) Try.func27 rfl (ent Try.func27 (by kernel_rfl) rfl) (by show 3 ≤ Try.f27.ntmps; decide) (by kernel_rfl) trivial (fun cx hcx => ?_)
    exact ret_of (T := T0) hT hm (f := 5000) (orc := [.call [] (iv (F62 a0 a1 a2)) [], .d true]) [] [] [] hcx
      (obs := [.call 62 [(.a (k9 a0)), (.a (k9 a1)), (iv a2)] [] (iv (F62 a0 a1 a2)) [], .eq (((F62 a0 a1 a2) : Int) != 0) true]) (by kernel_rfl) ⟨(C62 a0 a1 a2), h0, trivial⟩
  | false =>
    have q0 := bne_eq_false_iff_eq.1 h0
    have e : (F27 a0 a1 a2) = ((F63 a0 ((F64 a1.1 (W (1 * 2 ^ (min (Int.toNat a2) 64)))), (F64 a1.2.1 (W (1 * 2 ^ (min (Int.toNat a2) 64)))), (F64 a1.2.2 (W (1 * 2 ^ (min (Int.toNat a2) 64))))) a2), 0) := by simp only [F27, h0, cond_true, cond_false]
    rw [e]
    refine con_of (n := 9) Try.func27 rfl (ent Try.func27 (by kernel_rfl) rfl) (by show 3 ≤ Try.f27.ntmps; decide) (by kernel_rfl) trivial (fun cx hcx => ?_)
    exact ret_of (T := T0) hT hm (f := 5000) (orc := [.call [] (iv (F62 a0 a1 a2)) [], .d false, .call [] (.a (k3 (F64 a1.1 (W (1 * 2 ^ (min (Int.toNat a2) 64)))))) [], .call [] (.a (k3 (F64 a1.2.1 (W (1 * 2 ^ (min (Int.toNat a2) 64)))))) [], .call [] (.a (k3 (F64 a1.2.2 (W (1 * 2 ^ (min (Int.toNat a2) 64)))))) [], .call [] (.a (k2 (F63 a0 ((F64 a1.1 (W (1 * 2 ^ (min (Int.toNat a2) 64)))), (F64 a1.2.1 (W (1 * 2 ^ (min (Int.toNat a2) 64)))), (F64 a1.2.2 (W (1 * 2 ^ (min (Int.toNat a2) 64))))) a2))) []]) [] [] [] hcx
      (obs := [.call 62 [(.a (k9 a0)), (.a (k9 a1)), (iv a2)] [] (iv (F62 a0 a1 a2)) [], .eq (((F62 a0 a1 a2) : Int) != 0) false, .pr (0 ≤ (a2 : Int)), .call 64 [(.a (k3 a1.1)), (iv (W (1 * 2 ^ (min (Int.toNat a2) 64))))] [] (.a (k3 (F64 a1.1 (W (1 * 2 ^ (min (Int.toNat a2) 64)))))) [], .call 64 [(.a (k3 a1.2.1)), (iv (W (1 * 2 ^ (min (Int.toNat a2) 64))))] [] (.a (k3 (F64 a1.2.1 (W (1 * 2 ^ (min (Int.toNat a2) 64)))))) [], .call 64 [(.a (k3 a1.2.2)), (iv (W (1 * 2 ^ (min (Int.toNat a2) 64))))] [] (.a (k3 (F64 a1.2.2 (W (1 * 2 ^ (min (Int.toNat a2) 64)))))) [], .call 63 [(.a (k9 a0)), (.a [(iv (F64 a1.1 (W (1 * 2 ^ (min (Int.toNat a2) 64)))).1), (iv (F64 a1.1 (W (1 * 2 ^ (min (Int.toNat a2) 64)))).2.1), (iv (F64 a1.1 (W (1 * 2 ^ (min (Int.toNat a2) 64)))).2.2), (iv (F64 a1.2.1 (W (1 * 2 ^ (min (Int.toNat a2) 64)))).1), (iv (F64 a1.2.1 (W (1 * 2 ^ (min (Int.toNat a2) 64)))).2.1), (iv (F64 a1.2.1 (W (1 * 2 ^ (min (Int.toNat a2) 64)))).2.2), (iv (F64 a1.2.2 (W (1 * 2 ^ (min (Int.toNat a2) 64)))).1), (iv (F64 a1.2.2 (W (1 * 2 ^ (min (Int.toNat a2) 64)))).2.1), (iv (F64 a1.2.2 (W (1 * 2 ^ (min (Int.toNat a2) 64)))).2.2)]), (iv a2)] [] (.a (k2 (F63 a0 ((F64 a1.1 (W (1 * 2 ^ (min (Int.toNat a2) 64)))), (F64 a1.2.1 (W (1 * 2 ^ (min (Int.toNat a2) 64)))), (F64 a1.2.2 (W (1 * 2 ^ (min (Int.toNat a2) 64))))) a2))) []]) (by kernel_rfl) ⟨(C62 a0 a1 a2), h0, (show 0 ≤ (a2 : Int) from by exact (pair_le h0).1), (C64 a1.1 (W (1 * 2 ^ (min (Int.toNat a2) 64)))), (C64 a1.2.1 (W (1 * 2 ^ (min (Int.toNat a2) 64)))), (C64 a1.2.2 (W (1 * 2 ^ (min (Int.toNat a2) 64)))), (C63 a0 ((F64 a1.1 (W (1 * 2 ^ (min (Int.toNat a2) 64)))), (F64 a1.2.1 (W (1 * 2 ^ (min (Int.toNat a2) 64)))), (F64 a1.2.2 (W (1 * 2 ^ (min (Int.toNat a2) 64))))) a2  (pair_vp h0) (pair_le h0)), trivial⟩

/-- facet/field.Rim -/
def F23 (a0 : (Int × Int × Int) × (Int × Int × Int) × Int × Int × Int) (a1 : Int) : Int × Int :=
  (bif (((F42 a0 (0, 0, 0) a1) : Int) != 0) then
   (0, (F42 a0 (0, 0, 0) a1))
  else
   ((F54 a0 a1), 0))

theorem C23 (a0 : (Int × Int × Int) × (Int × Int × Int) × Int × Int × Int) (a1 : Int) : Con Try.prog 23 [(.a (k9 a0)), (iv a1)] [] (.t (k2 (F23 a0 a1))) [] := by
  cases h0 : (((F42 a0 (0, 0, 0) a1) : Int) != 0) with
  | true =>
    have q0 := bne_iff_ne.1 h0
    have e : (F23 a0 a1) = (0, (F42 a0 (0, 0, 0) a1)) := by simp only [F23, h0, cond_true, cond_false]
    rw [e]
    refine con_of (n := 9) Try.func23 rfl (ent Try.func23 (by kernel_rfl) rfl) (by show 2 ≤ Try.f23.ntmps; decide) (by kernel_rfl) trivial (fun cx hcx => ?_)
    exact ret_of (T := T0) hT hm (f := 5000) (orc := [.call [] (iv (F42 a0 (0, 0, 0) a1)) [], .d true]) [] [] [] hcx
      (obs := [.call 42 [(.a (k9 a0)), (.a [(iv 0), (iv 0), (iv 0)]), (iv a1)] [] (iv (F42 a0 (0, 0, 0) a1)) [], .eq (((F42 a0 (0, 0, 0) a1) : Int) != 0) true]) (by kernel_rfl) ⟨(C42 a0 (0, 0, 0) a1), h0, trivial⟩
  | false =>
    have q0 := bne_eq_false_iff_eq.1 h0
    have e : (F23 a0 a1) = ((F54 a0 a1), 0) := by simp only [F23, h0, cond_true, cond_false]
    rw [e]
    refine con_of (n := 9) Try.func23 rfl (ent Try.func23 (by kernel_rfl) rfl) (by show 2 ≤ Try.f23.ntmps; decide) (by kernel_rfl) trivial (fun cx hcx => ?_)
    exact ret_of (T := T0) hT hm (f := 5000) (orc := [.call [] (iv (F42 a0 (0, 0, 0) a1)) [], .d false, .call [] (iv (F54 a0 a1)) []]) [] [] [] hcx
      (obs := [.call 42 [(.a (k9 a0)), (.a [(iv 0), (iv 0), (iv 0)]), (iv a1)] [] (iv (F42 a0 (0, 0, 0) a1)) [], .eq (((F42 a0 (0, 0, 0) a1) : Int) != 0) false, .call 54 [(.a (k9 a0)), (iv a1)] [] (iv (F54 a0 a1)) []]) (by kernel_rfl) ⟨(C42 a0 (0, 0, 0) a1), h0, (C54 a0 a1  (chk_vp h0) (chk_le h0)), trivial⟩

/-- facet/facetref03.Parts -/
def F18 (a0 : (Int × Int × Int) × (Int × Int × Int) × Int × Int × Int) (a1 : Int) : (List ((Int × Int × Int) × (Int × Int × Int) × Int × Int × Int)) × Int :=
  (bif (((F49 a0) : Int) != 0) then
   (([] : List ((Int × Int × Int) × (Int × Int × Int) × Int × Int × Int)), (F49 a0))
  else
   (bif (!(F45 a1 0 3)) then
    (([] : List ((Int × Int × Int) × (Int × Int × Int) × Int × Int × Int)), 1)
   else
    ((F50 a0 a1), 0)))

theorem C18 (a0 : (Int × Int × Int) × (Int × Int × Int) × Int × Int × Int) (a1 : Int) : Con Try.prog 18 [(.a (k9 a0)), (iv a1)] [] (.t [(.s 0 0 (F18 a0 a1).1.length 9), (iv (F18 a0 a1).2)]) [(.live true true (flat c25 (F18 a0 a1).1))] := by
  cases h0 : (((F49 a0) : Int) != 0) with
  | true =>
    have q0 := bne_iff_ne.1 h0
    have e : (F18 a0 a1) = (([] : List ((Int × Int × Int) × (Int × Int × Int) × Int × Int × Int)), (F49 a0)) := by simp only [F18, h0, cond_true, cond_false]
    rw [e]
    refine con_of (n := 9) Try.func18 rfl (ent Try.func18 (by kernel_rfl) rfl) (by show 2 ≤ Try.f18.ntmps; decide) (by kernel_rfl) trivial (fun cx hcx => ?_)
    exact ret_of (T := T0) hT hm (f := 5000) (orc := [.call [] (iv (F49 a0)) [], .d true]) [.slot 4 9] [] [1] hcx
      (obs := [.call 49 [(.a (k9 a0))] [] (iv (F49 a0)) [], .eq (((F49 a0) : Int) != 0) true]) (by kernel_rfl) ⟨(C49 a0), h0, trivial⟩
  | false =>
    cases h1 : (!(F45 a1 0 3)) with
    | true =>
      have q0 := bne_eq_false_iff_eq.1 h0
      have e : (F18 a0 a1) = (([] : List ((Int × Int × Int) × (Int × Int × Int) × Int × Int × Int)), 1) := by simp only [F18, h0, h1, cond_true, cond_false]
      rw [e]
      refine con_of (n := 9) Try.func18 rfl (ent Try.func18 (by kernel_rfl) rfl) (by show 2 ≤ Try.f18.ntmps; decide) (by kernel_rfl) trivial (fun cx hcx => ?_)
      exact ret_of (T := T0) hT hm (f := 5000) (orc := [.call [] (iv (F49 a0)) [], .d false, .call [] (.v (.bool (F45 a1 0 3))) [], .d true]) [.slot 4 9] [] [1] hcx
        (obs := [.call 49 [(.a (k9 a0))] [] (iv (F49 a0)) [], .eq (((F49 a0) : Int) != 0) false, .call 45 [(iv a1), (iv 0), (iv 3)] [] (.v (.bool (F45 a1 0 3))) [], .eq (!(F45 a1 0 3)) true]) (by kernel_rfl) ⟨(C49 a0), h0, (C45 a1 0 3), h1, trivial⟩
    | false =>
      have q0 := bne_eq_false_iff_eq.1 h0
      have e : (F18 a0 a1) = ((F50 a0 a1), 0) := by simp only [F18, h0, h1, cond_true, cond_false]
      rw [e]
      refine con_of (n := 9) Try.func18 rfl (ent Try.func18 (by kernel_rfl) rfl) (by show 2 ≤ Try.f18.ntmps; decide) (by kernel_rfl) trivial (fun cx hcx => ?_)
      exact ret_of (T := T0) hT hm (f := 5000) (orc := [.call [] (iv (F49 a0)) [], .d false, .call [] (.v (.bool (F45 a1 0 3))) [], .d false, .call [] (.s 0 0 (F50 a0 a1).length 9) [(.live true true (flat c25 (F50 a0 a1)))]]) [] [] [1] hcx
        (obs := [.call 49 [(.a (k9 a0))] [] (iv (F49 a0)) [], .eq (((F49 a0) : Int) != 0) false, .call 45 [(iv a1), (iv 0), (iv 3)] [] (.v (.bool (F45 a1 0 3))) [], .eq (!(F45 a1 0 3)) false, .call 50 [(.a (k9 a0)), (iv a1)] [] (.s 0 0 (F50 a0 a1).length 9) [(.live true true (flat c25 (F50 a0 a1)))]]) (by kernel_rfl) ⟨(C49 a0), h0, (C45 a1 0 3), h1, (C50 a0 a1  (win_in3 h1)), trivial⟩

/-- facet/facetref03.Mean -/
def F20 (a0 : (Int × Int × Int) × (Int × Int × Int) × Int × Int × Int) (a1 : Int × Int × Int) (a2 : Int) : (Int × Int) × Int :=
  (bif (((F44 a0 a1 a2) : Int) != 0) then
   ((0, 0), (F44 a0 a1 a2))
  else
   ((F46 a0 a1 a2 false).1, (F46 a0 a1 a2 false).2))

theorem C20 (a0 : (Int × Int × Int) × (Int × Int × Int) × Int × Int × Int) (a1 : Int × Int × Int) (a2 : Int) : Con Try.prog 20 [(.a (k9 a0)), (.a (k3 a1)), (iv a2)] [] (.t [(.a (k2 (F20 a0 a1 a2).1)), (iv (F20 a0 a1 a2).2)]) [] := by
  cases h0 : (((F44 a0 a1 a2) : Int) != 0) with
  | true =>
    have q0 := bne_iff_ne.1 h0
    have e : (F20 a0 a1 a2) = ((0, 0), (F44 a0 a1 a2)) := by simp only [F20, h0, cond_true, cond_false]
    rw [e]
    refine con_of (n := 9) Try.func20 rfl (ent Try.func20 (by kernel_rfl) rfl) (by show 3 ≤ Try.f20.ntmps; decide) (by kernel_rfl) trivial (fun cx hcx => ?_)
    exact ret_of (T := T0) hT hm (f := 5000) (orc := [.call [] (iv (F44 a0 a1 a2)) [], .d true]) [] [] [] hcx
      (obs := [.call 44 [(.a (k9 a0)), (.a (k3 a1)), (iv a2)] [] (iv (F44 a0 a1 a2)) [], .eq (((F44 a0 a1 a2) : Int) != 0) true]) (by kernel_rfl) ⟨(C44 a0 a1 a2), h0, trivial⟩
  | false =>
    have q0 := bne_eq_false_iff_eq.1 h0
    have e : (F20 a0 a1 a2) = ((F46 a0 a1 a2 false).1, (F46 a0 a1 a2 false).2) := by simp only [F20, h0, cond_true, cond_false]
    rw [e]
    refine con_of (n := 9) Try.func20 rfl (ent Try.func20 (by kernel_rfl) rfl) (by show 3 ≤ Try.f20.ntmps; decide) (by kernel_rfl) trivial (fun cx hcx => ?_)
    exact ret_of (T := T0) hT hm (f := 5000) (orc := [.call [] (iv (F44 a0 a1 a2)) [], .d false, .call [] (.t [(.a (k2 (F46 a0 a1 a2 false).1)), (iv (F46 a0 a1 a2 false).2)]) []]) [] [] [] hcx
      (obs := [.call 44 [(.a (k9 a0)), (.a (k3 a1)), (iv a2)] [] (iv (F44 a0 a1 a2)) [], .eq (((F44 a0 a1 a2) : Int) != 0) false, .call 46 [(.a (k9 a0)), (.a (k3 a1)), (iv a2), (.v (.bool false))] [] (.t [(.a (k2 (F46 a0 a1 a2 false).1)), (iv (F46 a0 a1 a2 false).2)]) []]) (by kernel_rfl) ⟨(C44 a0 a1 a2), h0, (C46 a0 a1 a2 false  (ask_le h0)), trivial⟩

/-- facet/facetref03.MeanCube -/
def F22 (a0 : (Int × Int × Int) × (Int × Int × Int) × Int × Int × Int) (a1 : Int × Int × Int) (a2 : Int) : (Int × Int) × Int :=
  (bif (((F44 a0 a1 a2) : Int) != 0) then
   ((0, 0), (F44 a0 a1 a2))
  else
   ((F46 a0 a1 a2 true).1, (F46 a0 a1 a2 true).2))

theorem C22 (a0 : (Int × Int × Int) × (Int × Int × Int) × Int × Int × Int) (a1 : Int × Int × Int) (a2 : Int) : Con Try.prog 22 [(.a (k9 a0)), (.a (k3 a1)), (iv a2)] [] (.t [(.a (k2 (F22 a0 a1 a2).1)), (iv (F22 a0 a1 a2).2)]) [] := by
  cases h0 : (((F44 a0 a1 a2) : Int) != 0) with
  | true =>
    have q0 := bne_iff_ne.1 h0
    have e : (F22 a0 a1 a2) = ((0, 0), (F44 a0 a1 a2)) := by simp only [F22, h0, cond_true, cond_false]
    rw [e]
    refine con_of (n := 9) Try.func22 rfl (ent Try.func22 (by kernel_rfl) rfl) (by show 3 ≤ Try.f22.ntmps; decide) (by kernel_rfl) trivial (fun cx hcx => ?_)
    exact ret_of (T := T0) hT hm (f := 5000) (orc := [.call [] (iv (F44 a0 a1 a2)) [], .d true]) [] [] [] hcx
      (obs := [.call 44 [(.a (k9 a0)), (.a (k3 a1)), (iv a2)] [] (iv (F44 a0 a1 a2)) [], .eq (((F44 a0 a1 a2) : Int) != 0) true]) (by kernel_rfl) ⟨(C44 a0 a1 a2), h0, trivial⟩
  | false =>
    have q0 := bne_eq_false_iff_eq.1 h0
    have e : (F22 a0 a1 a2) = ((F46 a0 a1 a2 true).1, (F46 a0 a1 a2 true).2) := by simp only [F22, h0, cond_true, cond_false]
    rw [e]
    refine con_of (n := 9) Try.func22 rfl (ent Try.func22 (by kernel_rfl) rfl) (by show 3 ≤ Try.f22.ntmps; decide) (by kernel_rfl) trivial (fun cx hcx => ?_)
    exact ret_of (T := T0) hT hm (f := 5000) (orc := [.call [] (iv (F44 a0 a1 a2)) [], .d false, .call [] (.t [(.a (k2 (F46 a0 a1 a2 true).1)), (iv (F46 a0 a1 a2 true).2)]) []]) [] [] [] hcx
      (obs := [.call 44 [(.a (k9 a0)), (.a (k3 a1)), (iv a2)] [] (iv (F44 a0 a1 a2)) [], .eq (((F44 a0 a1 a2) : Int) != 0) false, .call 46 [(.a (k9 a0)), (.a (k3 a1)), (iv a2), (.v (.bool true))] [] (.t [(.a (k2 (F46 a0 a1 a2 true).1)), (iv (F46 a0 a1 a2 true).2)]) []]) (by kernel_rfl) ⟨(C44 a0 a1 a2), h0, (C46 a0 a1 a2 true  (ask_le h0)), trivial⟩

/-- facet/facetref03.Between -/
def F28 (a0 : (Int × Int × Int) × (Int × Int × Int) × Int × Int × Int) (a1 : (Int × Int × Int) × (Int × Int × Int) × Int × Int × Int) (a2 : Int) : (Int × Int) × Int :=
  (bif (((F65 a0 a1 a2) : Int) != 0) then
   ((0, 0), (F65 a0 a1 a2))
  else
   ((F66 a0 a2 ((F67 a1.1 (W (1 * 2 ^ (min (Int.toNat (IntKind.wrap .u64 a2)) 64)))), (F67 a1.2.1 (W (1 * 2 ^ (min (Int.toNat (IntKind.wrap .u64 a2)) 64)))), (F67 a1.2.2 (W (1 * 2 ^ (min (Int.toNat (IntKind.wrap .u64 a2)) 64)))))), 0))

theorem C28 (a0 : (Int × Int × Int) × (Int × Int × Int) × Int × Int × Int) (a1 : (Int × Int × Int) × (Int × Int × Int) × Int × Int × Int) (a2 : Int) : Con Try.prog 28 [(.a (k9 a0)), (.a (k9 a1)), (iv a2)] [] (.t [(.a (k2 (F28 a0 a1 a2).1)), (iv (F28 a0 a1 a2).2)]) [] := by
  cases h0 : (((F65 a0 a1 a2) : Int) != 0) with
  | true =>
    have q0 := bne_iff_ne.1 h0
    have e : (F28 a0 a1 a2) = ((0, 0), (F65 a0 a1 a2)) := by simp only [F28, h0, cond_true, cond_false]
    rw [e]
    refine con_of (n := 9) Try.func28 rfl (ent Try.func28 (by kernel_rfl) rfl) (by show 3 ≤ Try.f28.ntmps; decide) (by kernel_rfl) trivial (fun cx hcx => ?_)
    exact ret_of (T := T0) hT hm (f := 5000) (orc := [.call [] (iv (F65 a0 a1 a2)) [], .d true]) [] [] [] hcx
      (obs := [.call 65 [(.a (k9 a0)), (.a (k9 a1)), (iv a2)] [] (iv (F65 a0 a1 a2)) [], .eq (((F65 a0 a1 a2) : Int) != 0) true]) (by kernel_rfl) ⟨(C65 a0 a1 a2), h0, trivial⟩
  | false =>
    have q0 := bne_eq_false_iff_eq.1 h0
    have e : (F28 a0 a1 a2) = ((F66 a0 a2 ((F67 a1.1 (W (1 * 2 ^ (min (Int.toNat (IntKind.wrap .u64 a2)) 64)))), (F67 a1.2.1 (W (1 * 2 ^ (min (Int.toNat (IntKind.wrap .u64 a2)) 64)))), (F67 a1.2.2 (W (1 * 2 ^ (min (Int.toNat (IntKind.wrap .u64 a2)) 64)))))), 0) := by simp only [F28, h0, cond_true, cond_false]
    rw [e]
    refine con_of (n := 9) Try.func28 rfl (ent Try.func28 (by kernel_rfl) rfl) (by show 3 ≤ Try.f28.ntmps; decide) (by kernel_rfl) trivial (fun cx hcx => ?_)
    exact ret_of (T := T0) hT hm (f := 5000) (orc := [.call [] (iv (F65 a0 a1 a2)) [], .d false, .call [] (.a (k3 (F67 a1.1 (W (1 * 2 ^ (min (Int.toNat (IntKind.wrap .u64 a2)) 64)))))) [], .call [] (.a (k3 (F67 a1.2.1 (W (1 * 2 ^ (min (Int.toNat (IntKind.wrap .u64 a2)) 64)))))) [], .call [] (.a (k3 (F67 a1.2.2 (W (1 * 2 ^ (min (Int.toNat (IntKind.wrap .u64 a2)) 64)))))) [], .call [] (.a (k2 (F66 a0 a2 ((F67 a1.1 (W (1 * 2 ^ (min (Int.toNat (IntKind.wrap .u64 a2)) 64)))), (F67 a1.2.1 (W (1 * 2 ^ (min (Int.toNat (IntKind.wrap .u64 a2)) 64)))), (F67 a1.2.2 (W (1 * 2 ^ (min (Int.toNat (IntKind.wrap .u64 a2)) 64)))))))) []]) [] [] [] hcx
      (obs := [.call 65 [(.a (k9 a0)), (.a (k9 a1)), (iv a2)] [] (iv (F65 a0 a1 a2)) [], .eq (((F65 a0 a1 a2) : Int) != 0) false, .pr (0 ≤ ((IntKind.wrap .u64 a2) : Int)), .call 67 [(.a (k3 a1.1)), (iv (W (1 * 2 ^ (min (Int.toNat (IntKind.wrap .u64 a2)) 64))))] [] (.a (k3 (F67 a1.1 (W (1 * 2 ^ (min (Int.toNat (IntKind.wrap .u64 a2)) 64)))))) [], .call 67 [(.a (k3 a1.2.1)), (iv (W (1 * 2 ^ (min (Int.toNat (IntKind.wrap .u64 a2)) 64))))] [] (.a (k3 (F67 a1.2.1 (W (1 * 2 ^ (min (Int.toNat (IntKind.wrap .u64 a2)) 64)))))) [], .call 67 [(.a (k3 a1.2.2)), (iv (W (1 * 2 ^ (min (Int.toNat (IntKind.wrap .u64 a2)) 64))))] [] (.a (k3 (F67 a1.2.2 (W (1 * 2 ^ (min (Int.toNat (IntKind.wrap .u64 a2)) 64)))))) [], .call 66 [(.a (k9 a0)), (iv a2), (.a [(iv (F67 a1.1 (W (1 * 2 ^ (min (Int.toNat (IntKind.wrap .u64 a2)) 64)))).1), (iv (F67 a1.1 (W (1 * 2 ^ (min (Int.toNat (IntKind.wrap .u64 a2)) 64)))).2.1), (iv (F67 a1.1 (W (1 * 2 ^ (min (Int.toNat (IntKind.wrap .u64 a2)) 64)))).2.2), (iv (F67 a1.2.1 (W (1 * 2 ^ (min (Int.toNat (IntKind.wrap .u64 a2)) 64)))).1), (iv (F67 a1.2.1 (W (1 * 2 ^ (min (Int.toNat (IntKind.wrap .u64 a2)) 64)))).2.1), (iv (F67 a1.2.1 (W (1 * 2 ^ (min (Int.toNat (IntKind.wrap .u64 a2)) 64)))).2.2), (iv (F67 a1.2.2 (W (1 * 2 ^ (min (Int.toNat (IntKind.wrap .u64 a2)) 64)))).1), (iv (F67 a1.2.2 (W (1 * 2 ^ (min (Int.toNat (IntKind.wrap .u64 a2)) 64)))).2.1), (iv (F67 a1.2.2 (W (1 * 2 ^ (min (Int.toNat (IntKind.wrap .u64 a2)) 64)))).2.2)])] [] (.a (k2 (F66 a0 a2 ((F67 a1.1 (W (1 * 2 ^ (min (Int.toNat (IntKind.wrap .u64 a2)) 64)))), (F67 a1.2.1 (W (1 * 2 ^ (min (Int.toNat (IntKind.wrap .u64 a2)) 64)))), (F67 a1.2.2 (W (1 * 2 ^ (min (Int.toNat (IntKind.wrap .u64 a2)) 64)))))))) []]) (by kernel_rfl) ⟨(C65 a0 a1 a2), h0, (show 0 ≤ ((IntKind.wrap .u64 a2) : Int) from by first | omega | (rw [W_eq] <;> omega) | exact u64_nn _), (C67 a1.1 (W (1 * 2 ^ (min (Int.toNat (IntKind.wrap .u64 a2)) 64)))), (C67 a1.2.1 (W (1 * 2 ^ (min (Int.toNat (IntKind.wrap .u64 a2)) 64)))), (C67 a1.2.2 (W (1 * 2 ^ (min (Int.toNat (IntKind.wrap .u64 a2)) 64)))), (C66 a0 a2 ((F67 a1.1 (W (1 * 2 ^ (min (Int.toNat (IntKind.wrap .u64 a2)) 64)))), (F67 a1.2.1 (W (1 * 2 ^ (min (Int.toNat (IntKind.wrap .u64 a2)) 64)))), (F67 a1.2.2 (W (1 * 2 ^ (min (Int.toNat (IntKind.wrap .u64 a2)) 64)))))  (paired_le h0) (paired_hr h0)), trivial⟩

/-- facet/facetref03.Rim -/
def F24 (a0 : (Int × Int × Int) × (Int × Int × Int) × Int × Int × Int) (a1 : Int) : Int × Int :=
  (bif (((F49 a0) : Int) != 0) then
   (0, (F49 a0))
  else
   (bif (!(F45 a1 0 3)) then
    (0, 1)
   else
    ((F55 a0 a1), 0)))

theorem C24 (a0 : (Int × Int × Int) × (Int × Int × Int) × Int × Int × Int) (a1 : Int) : Con Try.prog 24 [(.a (k9 a0)), (iv a1)] [] (.t (k2 (F24 a0 a1))) [] := by
  cases h0 : (((F49 a0) : Int) != 0) with
  | true =>
    have q0 := bne_iff_ne.1 h0
    have e : (F24 a0 a1) = (0, (F49 a0)) := by simp only [F24, h0, cond_true, cond_false]
    rw [e]
    refine con_of (n := 9) Try.func24 rfl (ent Try.func24 (by kernel_rfl) rfl) (by show 2 ≤ Try.f24.ntmps; decide) (by kernel_rfl) trivial (fun cx hcx => ?_)
    exact ret_of (T := T0) hT hm (f := 5000) (orc := [.call [] (iv (F49 a0)) [], .d true]) [] [] [] hcx
      (obs := [.call 49 [(.a (k9 a0))] [] (iv (F49 a0)) [], .eq (((F49 a0) : Int) != 0) true]) (by kernel_rfl) ⟨(C49 a0), h0, trivial⟩
  | false =>
    cases h1 : (!(F45 a1 0 3)) with
    | true =>
      have q0 := bne_eq_false_iff_eq.1 h0
      have e : (F24 a0 a1) = (0, 1) := by simp only [F24, h0, h1, cond_true, cond_false]
      rw [e]
      refine con_of (n := 9) Try.func24 rfl (ent Try.func24 (by kernel_rfl) rfl) (by show 2 ≤ Try.f24.ntmps; decide) (by kernel_rfl) trivial (fun cx hcx => ?_)
      exact ret_of (T := T0) hT hm (f := 5000) (orc := [.call [] (iv (F49 a0)) [], .d false, .call [] (.v (.bool (F45 a1 0 3))) [], .d true]) [] [] [] hcx
        (obs := [.call 49 [(.a (k9 a0))] [] (iv (F49 a0)) [], .eq (((F49 a0) : Int) != 0) false, .call 45 [(iv a1), (iv 0), (iv 3)] [] (.v (.bool (F45 a1 0 3))) [], .eq (!(F45 a1 0 3)) true]) (by kernel_rfl) ⟨(C49 a0), h0, (C45 a1 0 3), h1, trivial⟩
    | false =>
      have q0 := bne_eq_false_iff_eq.1 h0
      have e : (F24 a0 a1) = ((F55 a0 a1), 0) := by simp only [F24, h0, h1, cond_true, cond_false]
      rw [e]
      refine con_of (n := 9) Try.func24 rfl (ent Try.func24 (by kernel_rfl) rfl) (by show 2 ≤ Try.f24.ntmps; decide) (by kernel_rfl) trivial (fun cx hcx => ?_)
      exact ret_of (T := T0) hT hm (f := 5000) (orc := [.call [] (iv (F49 a0)) [], .d false, .call [] (.v (.bool (F45 a1 0 3))) [], .d false, .call [] (iv (F55 a0 a1)) []]) [] [] [] hcx
        (obs := [.call 49 [(.a (k9 a0))] [] (iv (F49 a0)) [], .eq (((F49 a0) : Int) != 0) false, .call 45 [(iv a1), (iv 0), (iv 3)] [] (.v (.bool (F45 a1 0 3))) [], .eq (!(F45 a1 0 3)) false, .call 55 [(.a (k9 a0)), (iv a1)] [] (iv (F55 a0 a1)) []]) (by kernel_rfl) ⟨(C49 a0), h0, (C45 a1 0 3), h1, (C55 a0 a1  (win_in3 h1) (vpr_hr h0)), trivial⟩

/-- facet/facetlaw03.known -/
def F16 : Bool :=
  (bif (((F19 ((0, 0, 0), (2, 0, 0), (0, 2, 0)) (1, 1, 8) 0).2 : Int) == 0) then
   ((((F19 ((0, 0, 0), (2, 0, 0), (0, 2, 0)) (1, 1, 8) 0).1.1 : Int) == 129070) && ((((F19 ((0, 0, 0), (2, 0, 0), (0, 2, 0)) (1, 1, 8) 0).1.2 : Int) == 131072) && true))
  else
   false)

noncomputable def oC16_0 : Ob := .call 19 [(.a [(iv 0), (iv 0), (iv 0), (iv 2), (iv 0), (iv 0), (iv 0), (iv 2), (iv 0)]), (.a [(iv 1), (iv 1), (iv 8)]), (iv 0)] [] (.t [(.a (k2 (F19 ((0, 0, 0), (2, 0, 0), (0, 2, 0)) (1, 1, 8) 0).1)), (iv (F19 ((0, 0, 0), (2, 0, 0), (0, 2, 0)) (1, 1, 8) 0).2)]) []
theorem C16 : Con Try.prog 16 [] [] (.v (.bool F16)) [] := by
  cases h0 : (((F19 ((0, 0, 0), (2, 0, 0), (0, 2, 0)) (1, 1, 8) 0).2 : Int) == 0) with
  | true =>
    have q0 := eq_of_beq h0
    have e : F16 = ((((F19 ((0, 0, 0), (2, 0, 0), (0, 2, 0)) (1, 1, 8) 0).1.1 : Int) == 129070) && ((((F19 ((0, 0, 0), (2, 0, 0), (0, 2, 0)) (1, 1, 8) 0).1.2 : Int) == 131072) && true)) := by simp only [F16, h0, cond_true, cond_false]
    rw [e]
    refine con_of (n := 9) Try.func16 rfl (ent Try.func16 (by kernel_rfl) rfl) (by show 0 ≤ Try.f16.ntmps; decide) (by kernel_rfl) trivial (fun cx hcx => ?_)
    exact ret_of (T := T0) hT hm (f := 5000) (orc := [.call [] (.t [(.a (k2 (F19 ((0, 0, 0), (2, 0, 0), (0, 2, 0)) (1, 1, 8) 0).1)), (iv (F19 ((0, 0, 0), (2, 0, 0), (0, 2, 0)) (1, 1, 8) 0).2)]) [], .d true]) [] [] [] hcx
      (obs := [oC16_0, .eq (((F19 ((0, 0, 0), (2, 0, 0), (0, 2, 0)) (1, 1, 8) 0).2 : Int) == 0) true]) (by kernel_rfl) ⟨(C19 ((0, 0, 0), (2, 0, 0), (0, 2, 0)) (1, 1, 8) 0), h0, trivial⟩
  | false =>
    have q0 := ne_of_beq_false h0
    have e : F16 = false := by simp only [F16, h0, cond_true, cond_false]
    rw [e]
    refine con_of (n := 9) Try.func16 rfl (ent Try.func16 (by kernel_rfl) rfl) (by show 0 ≤ Try.f16.ntmps; decide) (by kernel_rfl) trivial (fun cx hcx => ?_)
    exact ret_of (T := T0) hT hm (f := 5000) (orc := [.call [] (.t [(.a (k2 (F19 ((0, 0, 0), (2, 0, 0), (0, 2, 0)) (1, 1, 8) 0).1)), (iv (F19 ((0, 0, 0), (2, 0, 0), (0, 2, 0)) (1, 1, 8) 0).2)]) [], .d false]) [] [] [] hcx
      (obs := [oC16_0, .eq (((F19 ((0, 0, 0), (2, 0, 0), (0, 2, 0)) (1, 1, 8) 0).2 : Int) == 0) false]) (by kernel_rfl) ⟨(C19 ((0, 0, 0), (2, 0, 0), (0, 2, 0)) (1, 1, 8) 0), h0, trivial⟩

end Go.Proofs.Ytjlekmjnkpcnoaa
