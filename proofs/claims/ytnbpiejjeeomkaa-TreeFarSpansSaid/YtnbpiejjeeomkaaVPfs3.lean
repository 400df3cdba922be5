/-
  Parts of the proofs of the laws: the executor, what functions of the program compute, and that it is what the statements ask. No premise.
-/
import Derived.Test.YtnbpiejjeeomkaaVPfs2
import Derived.Deep.Slices
import Derived.ProofKit
import Derived.RowKit
import Derived.Shelf.SlSortCmp.Xorshift
namespace Go.Proofs.Ytnbpiejjeeomkaa
open Go.Proofs Go.Aw Go.RowKit
set_option maxRecDepth 100000
set_option linter.unusedVariables false
set_option linter.unusedSimpArgs false

def F63 (a0 : Int) : Int :=
  (if (a0 : Int) < (W (0 - a0)) then (W (0 - a0)) else a0)

theorem C63 (a0 : Int) : Con Try.prog 63 [(iv a0)] [] (iv (F63 a0)) [] := by
  refine con_s Try.func63 (by kernel_rfl) fun cx hcx => ?_
  have e := Eq.refl (F63 a0); conv at e => rhs; simp only [F63]
  rw [e]
  exact rt [] [] [] hcx (by kernel_rfl)

def F44 (a0 : Int × Int × Int) (a1 : Int) : Bool :=
  (bif (decide (((F63 a0.1) : Int) ≤ a1)) then
   (bif (decide (((F63 a0.2.1) : Int) ≤ a1)) then
    (bif (decide (((F63 a0.2.2) : Int) ≤ a1)) then
     (bif (decide ((a0.1 : Int) ≥ (W (0 - a1)))) then
      (bif (decide ((a0.2.1 : Int) ≥ (W (0 - a1)))) then
       (decide ((a0.2.2 : Int) ≥ (W (0 - a1))))
      else
       false)
     else
      false)
    else
     false)
   else
    false)
  else
   false)

theorem C44 (a0 : Int × Int × Int) (a1 : Int) : Con Try.prog 44 [(.a (k3 a0)), (iv a1)] [] (.v (.bool (F44 a0 a1))) [] := by
  refine con_s Try.func44 (by kernel_rfl) fun cx hcx => ?_
  let t0 : List (St Try.prog) := [.c [] (C63 a0.1)]
  cases h0 : (decide (((F63 a0.1) : Int) ≤ a1)) with
  | true =>
   have q0 := of_decide_eq_true h0
   let t1 : List (St Try.prog) := (t0 ++ [.d h0, .c [] (C63 a0.2.1)])
   cases h1 : (decide (((F63 a0.2.1) : Int) ≤ a1)) with
   | true =>
    have q1 := of_decide_eq_true h1
    let t2 : List (St Try.prog) := (t1 ++ [.d h1, .c [] (C63 a0.2.2)])
    cases h2 : (decide (((F63 a0.2.2) : Int) ≤ a1)) with
    | true =>
     have q2 := of_decide_eq_true h2
     let t3 : List (St Try.prog) := (t2 ++ [.d h2])
     cases h3 : (decide ((a0.1 : Int) ≥ (W (0 - a1)))) with
     | true =>
      have q3 := of_decide_eq_true h3
      let t4 : List (St Try.prog) := (t3 ++ [.d h3])
      cases h4 : (decide ((a0.2.1 : Int) ≥ (W (0 - a1)))) with
      | true =>
       have q4 := of_decide_eq_true h4
       have e := Eq.refl (F44 a0 a1); conv at e => rhs; simp only [F44, h0, h1, h2, h3, h4, cond_true, cond_false]
       rw [e]
       exact rt (t4 ++ [.d h4]) [] [] hcx (by kernel_rfl)
      | false =>
       have q4 := of_decide_eq_false h4
       have e := Eq.refl (F44 a0 a1); conv at e => rhs; simp only [F44, h0, h1, h2, h3, h4, cond_true, cond_false]
       rw [e]
       exact rt (t4 ++ [.d h4]) [] [] hcx (by kernel_rfl)
     | false =>
      have q3 := of_decide_eq_false h3
      have e := Eq.refl (F44 a0 a1); conv at e => rhs; simp only [F44, h0, h1, h2, h3, cond_true, cond_false]
      rw [e]
      exact rt (t3 ++ [.d h3]) [] [] hcx (by kernel_rfl)
    | false =>
     have q2 := of_decide_eq_false h2
     have e := Eq.refl (F44 a0 a1); conv at e => rhs; simp only [F44, h0, h1, h2, cond_true, cond_false]
     rw [e]
     exact rt (t2 ++ [.d h2]) [] [] hcx (by kernel_rfl)
   | false =>
    have q1 := of_decide_eq_false h1
    have e := Eq.refl (F44 a0 a1); conv at e => rhs; simp only [F44, h0, h1, cond_true, cond_false]
    rw [e]
    exact rt (t1 ++ [.d h1]) [] [] hcx (by kernel_rfl)
  | false =>
   have q0 := of_decide_eq_false h0
   have e := Eq.refl (F44 a0 a1); conv at e => rhs; simp only [F44, h0, cond_true, cond_false]
   rw [e]
   exact rt (t0 ++ [.d h0]) [] [] hcx (by kernel_rfl)

def F64 (a0 : Int × Int × Int) : Int :=
  (W ((W ((W (a0.1 * a0.1)) + (W (a0.2.1 * a0.2.1)))) + (W (a0.2.2 * a0.2.2))))

theorem C64 (a0 : Int × Int × Int) : Con Try.prog 64 [(.a (k3 a0))] [] (iv (F64 a0)) [] := by
  refine con_s Try.func64 (by kernel_rfl) fun cx hcx => ?_
  have e := Eq.refl (F64 a0); conv at e => rhs; simp only [F64]
  rw [e]
  exact rt [] [] [] hcx (by kernel_rfl)

def F65 (a0 : Int × Int × Int) (a1 : Int × Int × Int) : Int × Int × Int :=
  ((W (a0.1 - a1.1)), (W (a0.2.1 - a1.2.1)), (W (a0.2.2 - a1.2.2)))

theorem C65 (a0 : Int × Int × Int) (a1 : Int × Int × Int) : Con Try.prog 65 [(.a (k3 a0)), (.a (k3 a1))] [] (.a (k3 (F65 a0 a1))) [] := by
  refine con_s Try.func65 (by kernel_rfl) fun cx hcx => ?_
  have e := Eq.refl (F65 a0 a1); conv at e => rhs; simp only [F65]
  rw [e]
  exact rt [] [] [] hcx (by kernel_rfl)

end Go.Proofs.Ytnbpiejjeeomkaa

namespace Go.Proofs.Ytnbpiejjeeomkaa
open Go.Proofs Go.Aw Go.RowKit
set_option maxRecDepth 100000
set_option linter.unusedVariables false
set_option linter.unusedSimpArgs false

/-! ### Sound: what the small functions say -/
/-! distances -/
theorem sqr_r {v : P3} (h : bd 10000 v) : F64 v = dt v v := by
  have h1 := mul_bd h.1 h.1; have h2 := mul_bd h.2.1 h.2.1; have h3 := mul_bd h.2.2 h.2.2
  have n1 := sq_nn v.1; have n2 := sq_nn v.2.1; have n3 := sq_nn v.2.2
  unfold F64
  rw [W_eq (n := v.1 * v.1) (by omega) (by omega), W_eq (n := v.2.1 * v.2.1) (by omega) (by omega), W_eq (n := v.2.2 * v.2.2) (by omega) (by omega), sum3 (by omega) (by omega) (by omega)]; rfl
theorem min_r {p q : P3} (hp : bd 5000 p) (hq : bd 5000 q) : F65 p q = sb p q := by
  unfold bd at hp hq
  unfold F65
  rw [W_eq (n := p.1 - q.1) (by omega) (by omega), W_eq (n := p.2.1 - q.2.1) (by omega) (by omega), W_eq (n := p.2.2 - q.2.2) (by omega) (by omega)]; rfl
theorem dist_r {p q : P3} (hp : bd 5000 p) (hq : bd 5000 q) : F64 (F65 p q) = ds p q := by
  rw [min_r hp hq, sqr_r (bd_sb hp hq)]; rfl
theorem ds_comm (p q : P3) : ds p q = ds q p := by simp only [ds, dt, sb]; grind
/-! what is asked -/
/-! how far sound goes -/
end Go.Proofs.Ytnbpiejjeeomkaa

namespace Go.Proofs.Ytnbpiejjeeomkaa
open Go.Proofs Go.Aw Go.RowKit
set_option maxRecDepth 100000
set_option linter.unusedVariables false
set_option linter.unusedSimpArgs false

end Go.Proofs.Ytnbpiejjeeomkaa

namespace Go.Proofs.Ytnbpiejjeeomkaa
open Go.Proofs Go.Aw Go.RowKit
set_option maxRecDepth 100000
set_option linter.unusedVariables false
set_option linter.unusedSimpArgs false

end Go.Proofs.Ytnbpiejjeeomkaa

namespace Go.Proofs.Ytnbpiejjeeomkaa
open Go.Proofs Go.Aw Go.RowKit
set_option maxRecDepth 100000
set_option linter.unusedVariables false
set_option linter.unusedSimpArgs false

end Go.Proofs.Ytnbpiejjeeomkaa

namespace Go.Proofs.Ytnbpiejjeeomkaa
open Go.Proofs Go.Aw Go.RowKit
set_option maxRecDepth 100000
set_option linter.unusedVariables false
set_option linter.unusedSimpArgs false

/-! ### Travels -/
section
variable {n s t : Int}
end
/-! ### From when to when -/
end Go.Proofs.Ytnbpiejjeeomkaa

namespace Go.Proofs.Ytnbpiejjeeomkaa
open Go.Proofs Go.Aw Go.RowKit
set_option maxRecDepth 100000
set_option linter.unusedVariables false
set_option linter.unusedSimpArgs false

/-! ### What is heard of a pulse -/
/-! a list that is filled, or left at the first error -/
/-! a pulse in a tick -/
end Go.Proofs.Ytnbpiejjeeomkaa

namespace Go.Proofs.Ytnbpiejjeeomkaa
open Go.Proofs Go.Aw Go.RowKit
set_option maxRecDepth 100000
set_option linter.unusedVariables false
set_option linter.unusedSimpArgs false

/-! ### Slices of flat elements as arguments -/
open Go.ChangeShapes Go.WideShapes Go.ChangeAt
section
variable {H : Type} {enc : TypeId × Value → H} {P : Program} {w : World}
end
end Go.Proofs.Ytnbpiejjeeomkaa

namespace Go.Proofs.Ytnbpiejjeeomkaa
open Go.Proofs Go.Aw Go.RowKit
set_option maxRecDepth 100000
set_option linter.unusedVariables false
set_option linter.unusedSimpArgs false

/-! ### Sums of lists of spans -/
section
variable {l : List (Int × Int)}
end
end Go.Proofs.Ytnbpiejjeeomkaa

namespace Go.Proofs.Ytnbpiejjeeomkaa
open Go.Proofs Go.Aw Go.RowKit
set_option maxRecDepth 100000
set_option linter.unusedVariables false
set_option linter.unusedSimpArgs false

theorem flat_set {α : Type} {c : α → List SV} {es : Nat} (hc : ∀ x, (c x).length = es) {L : List α} {i o : Nat} {xs : List SV} {d y : α} (hi : i < L.length) (ho : o + xs.length ≤ es) (hy : c y = splice (c (L.getD i d)) o xs) :
    splice (flat c L) (0 + i * es + o) xs = flat c (L.set i y) := by
  induction L generalizing i with
  | nil => simp at hi
  | cons x L ih =>
    cases i with
    | zero =>
      have hy' : c y = splice (c x) o xs := hy
      have hx := hc x
      simp only [flat, List.flatMap_cons, List.set_cons_zero, hy']
      unfold splice
      simp only [Nat.zero_mul, Nat.zero_add]
      rw [List.take_append_of_le_length (by omega), List.drop_append_of_le_length (by omega)]
      simp [List.append_assoc]
    | succ i =>
      have h := ih (i := i) (by simpa using hi) hy
      have hx := hc x
      simp only [flat, List.flatMap_cons, List.set_cons_succ] at h ⊢
      rw [← h]
      unfold splice
      have e1 : 0 + (i + 1) * es + o = (c x).length + (0 + i * es + o) := by rw [hx, Nat.add_mul]; omega
      rw [e1, List.take_length_add_append, show (c x).length + (0 + i * es + o) + xs.length = (c x).length + (0 + i * es + o + xs.length) by omega, List.drop_length_add_append]
      simp [List.append_assoc]
theorem flat_setl {α : Type} {c : α → List SV} {es : Nat} (hc : ∀ x, (c x).length = es) {L : List α} {i o n : Nat} (hi : i < L.length) (ho : o + n ≤ es) : 0 + i * es + o + n ≤ (flat c L).length := by
  rw [flat_length hc]
  have := Nat.mul_le_mul_right es (show i + 1 ≤ L.length by omega)
  rw [Nat.add_mul] at this
  omega

end Go.Proofs.Ytnbpiejjeeomkaa

namespace Go.Proofs.Ytnbpiejjeeomkaa
open Go.Proofs Go.Aw Go.RowKit
set_option maxRecDepth 100000
set_option linter.unusedVariables false
set_option linter.unusedSimpArgs false

/-! ### Windows: a part of a list, by where it begins -/
theorem mulw (w i es x : Nat) : 0 + w * es + i * es + x = 0 + (w + i) * es + x := by rw [Nat.add_mul]; omega
theorem flat_setw {α : Type} {c : α → List SV} {es : Nat} (hc : ∀ x, (c x).length = es) {L : List α} {w i o : Nat} {xs : List SV} {d y : α} (hi : w + i < L.length) (ho : o + xs.length ≤ es) (hy : c y = splice (c (L.getD (w + i) d)) o xs) :
    splice (flat c L) (0 + w * es + i * es + o) xs = flat c (L.set (w + i) y) := by rw [mulw]; exact flat_set hc hi ho hy
theorem flat_setwl {α : Type} {c : α → List SV} {es : Nat} (hc : ∀ x, (c x).length = es) {L : List α} {w i o n : Nat} (hi : w + i < L.length) (ho : o + n ≤ es) : 0 + w * es + i * es + o + n ≤ (flat c L).length := by rw [mulw]; exact flat_setl hc hi ho
theorem ldw {α : Type} [Inhabited α] {c : α → List SV} {es : Nat} (hc : ∀ x, (c x).length = es) (l : List α) (w : Nat) (i : Int) (o n : Nat) (h : w + i.toNat < l.length) (ho : o + n ≤ es) :
    ((flat c l).drop (0 + w * es + i.toNat * es + o)).take n = ((c (l.getD (w + i.toNat) default)).drop o).take n := by
  rw [mulw]
  have := ld_at hc l ((w + i.toNat : Nat) : Int) o n ⟨by omega, by omega⟩ ho
  rw [Int.toNat_natCast] at this
  exact this
def stLw {P : Program} {α : Type} [Inhabited α] {c : α → List SV} {es : Nat} (hc : ∀ x, (c x).length = es) (l : List α) (w : Nat) (i : Int) (o n : Nat) (h : w + i.toNat < l.length := by first | omega | (simp only [List.length_set]; omega)) (ho : o + n ≤ es := by decide) : St P :=
  St.l (l := flat c l) (o := 0 + w * es + i.toNat * es + o) (n := n) (((c (l.getD (w + i.toNat) default)).drop o).take n) (ldw hc l w i o n h ho)
def InR (n : Nat) (l : List Int) : Prop := ∀ x ∈ l, 0 ≤ x ∧ x < (n : Int)
theorem InR.at {n : Nat} {l : List Int} (h : InR n l) {i : Nat} (hi : i < l.length) : 0 ≤ l.getD i default ∧ l.getD i default < (n : Int) := by
  rw [List.getD_eq_getElem?_getD, List.getElem?_eq_getElem hi, Option.getD_some]
  exact h _ (List.getElem_mem hi)
theorem InR.set {n : Nat} {l : List Int} (h : InR n l) {i : Nat} {x : Int} (hx : 0 ≤ x ∧ x < (n : Int)) : InR n (l.set i x) := fun y hy => by
  rcases List.mem_or_eq_of_mem_set hy with hy | rfl
  · exact h y hy
  · exact hx
theorem InR.swap {n : Nat} {l : List Int} (h : InR n l) {i j p q : Nat} (hp : p < l.length) (hq : q < l.length) : InR n ((l.set i (l.getD p default)).set j (l.getD q default)) := (h.set (h.at hp)).set (h.at hq)

def c3 (x : Int) : List SV := [(iv x)]
theorem c3_len (x : Int) : (c3 x).length = 1 := rfl

def c40 (x : Int × Int × Int × Int × (Int × Int × Int) × Int) : List SV := [(iv x.1), (iv x.2.1), (iv x.2.2.1), (iv x.2.2.2.1), (iv x.2.2.2.2.1.1), (iv x.2.2.2.2.1.2.1), (iv x.2.2.2.2.1.2.2), (iv x.2.2.2.2.2)]
theorem c40_len (x : Int × Int × Int × Int × (Int × Int × Int) × Int) : (c40 x).length = 8 := rfl

def F95 (a0 : (List (((Int × Int × Int) × (Int × Int × Int) × Int × Int × Int) × Int)) × Int × List (Int) × List (Int × Int × Int × Int × (Int × Int × Int) × Int)) (a1 : Int) (a2 : Int) : Int :=
  (bif ((a2 : Int) == 0) then
   (W ((W ((a0.1.getD (Int.toNat a1) default).1.1.1 + (a0.1.getD (Int.toNat a1) default).1.2.1.1)) + (a0.1.getD (Int.toNat a1) default).1.2.2.1))
  else
   (bif ((a2 : Int) == 1) then
    (W ((W ((a0.1.getD (Int.toNat a1) default).1.1.2.1 + (a0.1.getD (Int.toNat a1) default).1.2.1.2.1)) + (a0.1.getD (Int.toNat a1) default).1.2.2.2.1))
   else
    (W ((W ((a0.1.getD (Int.toNat a1) default).1.1.2.2 + (a0.1.getD (Int.toNat a1) default).1.2.1.2.2)) + (a0.1.getD (Int.toNat a1) default).1.2.2.2.2))))

theorem C95 (a0 : (List (((Int × Int × Int) × (Int × Int × Int) × Int × Int × Int) × Int)) × Int × List (Int) × List (Int × Int × Int × Int × (Int × Int × Int) × Int)) (a1 : Int) (a2 : Int) (l0_1 : a0.1.length ≤ 9223372036854775807) (l0_2_2_1 : a0.2.2.1.length ≤ 9223372036854775807) (l0_2_2_2 : a0.2.2.2.length ≤ 9223372036854775807) (hi : 0 ≤ a1 ∧ a1 < (a0.1.length : Int)) : Con Try.prog 95 [(.p 0 0), (iv a1), (iv a2)] [(.live false false [(.s 1 0 a0.1.length 10), (iv a0.2.1), (.s 2 0 a0.2.2.1.length 1), (.s 3 0 a0.2.2.2.length 8)]), (.live false true (flat c81 a0.1)), (.live false true (flat c3 a0.2.2.1)), (.live false true (flat c40 a0.2.2.2))] (iv (F95 a0 a1 a2)) [] := by
  refine con_s Try.func95 (by kernel_rfl) fun cx hcx => ?_
  let t0 : List (St Try.prog) := [.i a1 (a0.1.length), .L c81_len a0.1 a1 0 9]
  cases h0 : ((a2 : Int) == 0) with
  | true =>
   have q0 := eq_of_beq h0
   have e := Eq.refl (F95 a0 a1 a2); conv at e => rhs; simp only [F95, h0, cond_true, cond_false]
   rw [e]
   exact rt (t0 ++ [.d h0]) [] [] hcx (by kernel_rfl)
  | false =>
   have q0 := ne_of_beq_false h0
   let t1 : List (St Try.prog) := (t0 ++ [.d h0])
   cases h1 : ((a2 : Int) == 1) with
   | true =>
    have q1 := eq_of_beq h1
    have e := Eq.refl (F95 a0 a1 a2); conv at e => rhs; simp only [F95, h0, h1, cond_true, cond_false]
    rw [e]
    exact rt (t1 ++ [.d h1]) [] [] hcx (by kernel_rfl)
   | false =>
    have q1 := ne_of_beq_false h1
    have e := Eq.refl (F95 a0 a1 a2); conv at e => rhs; simp only [F95, h0, h1, cond_true, cond_false]
    rw [e]
    exact rt (t1 ++ [.d h1]) [] [] hcx (by kernel_rfl)

def F117 (a0 : Int) : Bool :=
  ((a0 : Int) != a0)

theorem C117 (a0 : Int) : Con Try.prog 117 [(iv a0)] [] (.v (.bool (F117 a0))) [] := by
  refine con_s Try.func117 (by kernel_rfl) fun cx hcx => ?_
  have e := Eq.refl (F117 a0); conv at e => rhs; simp only [F117]
  rw [e]
  exact rt [] [] [] hcx (by kernel_rfl)

def F97 (a0 : Int) (a1 : Int) : Int :=
  (bif (F117 a0) then
   (bif (F117 a1) then
    0
   else
    (-1))
  else
   (bif (F117 a1) then
    1
   else
    (bif (decide ((a0 : Int) < a1)) then
     (-1)
    else
     (bif (decide ((a0 : Int) > a1)) then
      1
     else
      0))))

theorem C97 (a0 : Int) (a1 : Int) : Con Try.prog 97 [(iv a0), (iv a1)] [] (iv (F97 a0 a1)) [] := by
  refine con_s Try.func97 (by kernel_rfl) fun cx hcx => ?_
  let t0 : List (St Try.prog) := [.c [] (C117 a0), .c [] (C117 a1)]
  cases h0 : (F117 a0) with
  | true =>
   let t1 : List (St Try.prog) := (t0 ++ [.d h0])
   cases h1 : (F117 a1) with
   | true =>
    have e := Eq.refl (F97 a0 a1); conv at e => rhs; simp only [F97, h0, h1, cond_true, cond_false]
    rw [e]
    exact rt (t1 ++ [.d h1]) [] [] hcx (by kernel_rfl)
   | false =>
    have e := Eq.refl (F97 a0 a1); conv at e => rhs; simp only [F97, h0, h1, cond_true, cond_false]
    rw [e]
    exact rt (t1 ++ [.d h1]) [] [] hcx (by kernel_rfl)
  | false =>
   let t1 : List (St Try.prog) := (t0 ++ [.d h0])
   cases h1 : (F117 a1) with
   | true =>
    have e := Eq.refl (F97 a0 a1); conv at e => rhs; simp only [F97, h0, h1, cond_true, cond_false]
    rw [e]
    exact rt (t1 ++ [.d h1]) [] [] hcx (by kernel_rfl)
   | false =>
    let t2 : List (St Try.prog) := (t1 ++ [.d h1])
    cases h2 : (decide ((a0 : Int) < a1)) with
    | true =>
     have q2 := of_decide_eq_true h2
     have e := Eq.refl (F97 a0 a1); conv at e => rhs; simp only [F97, h0, h1, h2, cond_true, cond_false]
     rw [e]
     exact rt (t2 ++ [.d h2]) [] [] hcx (by kernel_rfl)
    | false =>
     have q2 := of_decide_eq_false h2
     let t3 : List (St Try.prog) := (t2 ++ [.d h2])
     cases h3 : (decide ((a0 : Int) > a1)) with
     | true =>
      have q3 := of_decide_eq_true h3
      have e := Eq.refl (F97 a0 a1); conv at e => rhs; simp only [F97, h0, h1, h2, h3, cond_true, cond_false]
      rw [e]
      exact rt (t3 ++ [.d h3]) [] [] hcx (by kernel_rfl)
     | false =>
      have q3 := of_decide_eq_false h3
      have e := Eq.refl (F97 a0 a1); conv at e => rhs; simp only [F97, h0, h1, h2, h3, cond_true, cond_false]
      rw [e]
      exact rt (t3 ++ [.d h3]) [] [] hcx (by kernel_rfl)

def F96_2 (a0 : (Int) × (Int)) : Int :=
  (bif ((a0.1 : Int) != 0) then
   a0.1
  else
   (bif ((a0.2 : Int) != 0) then
    a0.2
   else
    0))

theorem C96_2 (a0 : (Int) × (Int)) : Con Try.prog 96 [(.s 0 0 2 1)] [(.live false false [(iv a0.1), (iv a0.2)])] (iv (F96_2 a0)) [] := by
  refine con_s Try.func96 (by kernel_rfl) fun cx hcx => ?_
  let t0 : List (St Try.prog) := [.u 200, .T, .i 0 2 (by decide)]
  cases h0 : ((a0.1 : Int) != 0) with
  | true =>
   have q0 := bne_iff_ne.1 h0
   have e := Eq.refl (F96_2 a0); conv at e => rhs; simp only [F96_2, h0, cond_true, cond_false]
   rw [e]
   exact rt (t0 ++ [.d h0]) [] [] hcx (by kernel_rfl)
  | false =>
   have q0 := bne_eq_false_iff_eq.1 h0
   let t1 : List (St Try.prog) := (t0 ++ [.d h0, .u 0, .T, .i 1 2 (by decide)])
   cases h1 : ((a0.2 : Int) != 0) with
   | true =>
    have q1 := bne_iff_ne.1 h1
    have e := Eq.refl (F96_2 a0); conv at e => rhs; simp only [F96_2, h0, h1, cond_true, cond_false]
    rw [e]
    exact rt (t1 ++ [.d h1]) [] [] hcx (by kernel_rfl)
   | false =>
    have q1 := bne_eq_false_iff_eq.1 h1
    have e := Eq.refl (F96_2 a0); conv at e => rhs; simp only [F96_2, h0, h1, cond_true, cond_false]
    rw [e]
    exact rt (t1 ++ [.d h1, .u 0, .F]) [] [] hcx (by kernel_rfl)

def F77 (a0 : ((List (((Int × Int × Int) × (Int × Int × Int) × Int × Int × Int) × Int)) × Int × List (Int) × List (Int × Int × Int × Int × (Int × Int × Int) × Int)) × Int) (a1 : Int) (a2 : Int) : Int :=
  (F96_2 ((F97 (F95 (a0.1.1, a0.1.2.1, (a0.1.2.2.1, a0.1.2.2.2)) a1 a0.2) (F95 (a0.1.1, a0.1.2.1, (a0.1.2.2.1, a0.1.2.2.2)) a2 a0.2)), (F97 a1 a2)))

theorem C77 (a0 : ((List (((Int × Int × Int) × (Int × Int × Int) × Int × Int × Int) × Int)) × Int × List (Int) × List (Int × Int × Int × Int × (Int × Int × Int) × Int)) × Int) (a1 : Int) (a2 : Int) (l0_1_1 : a0.1.1.length ≤ 9223372036854775807) (l0_1_2_2_1 : a0.1.2.2.1.length ≤ 9223372036854775807) (l0_1_2_2_2 : a0.1.2.2.2.length ≤ 9223372036854775807) (hi : 0 ≤ a1 ∧ a1 < (a0.1.1.length : Int)) (hk : 0 ≤ a2 ∧ a2 < (a0.1.1.length : Int)) : Con Try.prog 77 [(.a [(.p 0 0), (iv a0.2)]), (iv a1), (iv a2)] [(.live false false [(.s 1 0 a0.1.1.length 10), (iv a0.1.2.1), (.s 2 0 a0.1.2.2.1.length 1), (.s 3 0 a0.1.2.2.2.length 8)]), (.live false true (flat c81 a0.1.1)), (.live false true (flat c3 a0.1.2.2.1)), (.live false true (flat c40 a0.1.2.2.2))] (iv (F77 a0 a1 a2)) [] := by
  refine con_s Try.func77 (by kernel_rfl) fun cx hcx => ?_
  have e := Eq.refl (F77 a0 a1 a2); conv at e => rhs; simp only [F77]
  rw [e]
  exact rt [.c [0, 1, 2, 3] (C95 (a0.1.1, a0.1.2.1, (a0.1.2.2.1, a0.1.2.2.2)) a1 a0.2 (by (try simp only [List.length_append, List.length_cons, List.length_nil, Int.toNat_zero]); omega) (by (try simp only [List.length_append, List.length_cons, List.length_nil, Int.toNat_zero]); omega) (by (try simp only [List.length_append, List.length_cons, List.length_nil, Int.toNat_zero]); omega) (by first | exact hi | exact hk)), .c [0, 1, 2, 3] (C95 (a0.1.1, a0.1.2.1, (a0.1.2.2.1, a0.1.2.2.2)) a2 a0.2 (by (try simp only [List.length_append, List.length_cons, List.length_nil, Int.toNat_zero]); omega) (by (try simp only [List.length_append, List.length_cons, List.length_nil, Int.toNat_zero]); omega) (by (try simp only [List.length_append, List.length_cons, List.length_nil, Int.toNat_zero]); omega) (by first | exact hi | exact hk)), .c [] (C97 (F95 (a0.1.1, a0.1.2.1, (a0.1.2.2.1, a0.1.2.2.2)) a1 a0.2) (F95 (a0.1.1, a0.1.2.1, (a0.1.2.2.1, a0.1.2.2.2)) a2 a0.2)), .c [] (C97 a1 a2), .c [5] (C96_2 ((F97 (F95 (a0.1.1, a0.1.2.1, (a0.1.2.2.1, a0.1.2.2.2)) a1 a0.2) (F95 (a0.1.1, a0.1.2.1, (a0.1.2.2.1, a0.1.2.2.2)) a2 a0.2)), (F97 a1 a2)))] [] [] hcx (by kernel_rfl)

end Go.Proofs.Ytnbpiejjeeomkaa

namespace Go.Proofs.Ytnbpiejjeeomkaa
open Go.Proofs Go.Aw Go.RowKit
set_option maxRecDepth 100000
set_option linter.unusedVariables false
set_option linter.unusedSimpArgs false

noncomputable def B107_W_b77_1 : Code := (loopAtD [1, 0, 1, 0, 1] [0] (bodyOf Try.f107) []).1
noncomputable def K107_W_b77_1 (m0 : Nat) : List K := (loopAtD [1, 0, 1, 0, 1] [m0] (bodyOf Try.f107) []).2

def st107_W_b77_1 (a0 : List (Int)) (a0_o : Nat) (a0_n : Nat) (a1 : Int) (a2 : Int) (a3 : ((List (((Int × Int × Int) × (Int × Int × Int) × Int × Int × Int) × Int)) × Int × List (Int) × List (Int × Int × Int × Int × (Int × Int × Int) × Int)) × Int) (v5c : List SV) (v5n : Nat) (v6 : Int) (v7 : Int) : LS := ⟨slN 53 [(0, (.s 0 (0 + a0_o * 1) a0_n 1)), (1, (iv a1)), (2, (iv a2)), (3, (.f 1000077 [(.a [(.p 1 0), (iv a3.2)])])), (8, (iv v6)), (9, (iv v7))], [(.live true true v5c), (.live false false [(.s 2 0 a3.1.1.length 10), (iv a3.1.2.1), (.s 0 0 v5n 1), (.s 3 0 a3.1.2.2.2.length 8)]), (.live false true (flat c81 a3.1.1)), (.live false true (flat c40 a3.1.2.2.2))]⟩

def S107_W_b77_1 (a0 : List (Int)) (a0_o : Nat) (a0_n : Nat) (a1 : Int) (a2 : Int) (a3 : ((List (((Int × Int × Int) × (Int × Int × Int) × Int × Int × Int) × Int)) × Int × List (Int) × List (Int × Int × Int × Int × (Int × Int × Int) × Int)) × Int) : List (Int) × Int × Int → (List (Int) × Int × Int) ⊕ ((List (Int) × Int) ⊕ (List (Int)))
  | (v5, v6, v7) =>
   (bif (decide ((v7 : Int) > a1)) then
    (bif (decide (((F77 ((a3.1.1, a3.1.2.1, (v5, a3.1.2.2.2)), a3.2) (v5.getD (a0_o + Int.toNat v7) default) (v5.getD (a0_o + Int.toNat (W (v7 - 1))) default)) : Int) < 0)) then
     (.inl (((v5.set (a0_o + Int.toNat v7) (v5.getD (a0_o + Int.toNat (W (v7 - 1))) default)).set (a0_o + Int.toNat (W (v7 - 1))) (v5.getD (a0_o + Int.toNat v7) default)), v6, (W (v7 - 1))))
    else
     (.inr (.inl (v5, (v6 + 1)))))
   else
    (.inr (.inl (v5, (v6 + 1)))))

noncomputable def B107_W_b77_0 : Code := (loopAtD [1] [] (bodyOf Try.f107) []).1
noncomputable def K107_W_b77_0 : List K := (loopAtD [1] [] (bodyOf Try.f107) []).2

def st107_W_b77_0 (a0 : List (Int)) (a0_o : Nat) (a0_n : Nat) (a1 : Int) (a2 : Int) (a3 : ((List (((Int × Int × Int) × (Int × Int × Int) × Int × Int × Int) × Int)) × Int × List (Int) × List (Int × Int × Int × Int × (Int × Int × Int) × Int)) × Int) (v3c : List SV) (v3n : Nat) (v4 : Int) : LS := ⟨slN 53 [(0, (.s 0 (0 + a0_o * 1) a0_n 1)), (1, (iv a1)), (2, (iv a2)), (3, (.f 1000077 [(.a [(.p 1 0), (iv a3.2)])])), (8, (iv v4))], [(.live true true v3c), (.live false false [(.s 2 0 a3.1.1.length 10), (iv a3.1.2.1), (.s 0 0 v3n 1), (.s 3 0 a3.1.2.2.2.length 8)]), (.live false true (flat c81 a3.1.1)), (.live false true (flat c40 a3.1.2.2.2))]⟩

def S107_W_b77_0 (a0 : List (Int)) (a0_o : Nat) (a0_n : Nat) (a1 : Int) (a2 : Int) (a3 : ((List (((Int × Int × Int) × (Int × Int × Int) × Int × Int × Int) × Int)) × Int × List (Int) × List (Int × Int × Int × Int × (Int × Int × Int) × Int)) × Int) : List (Int) × Int → (List (Int) × Int) ⊕ (List (Int))
  | (v3, v4) =>
   (bif (decide ((v4 : Int) < a2)) then
    (loopF (S107_W_b77_1 a0 a0_o a0_n a1 a2 a3) (Int.toNat (v4 - a1) + 1) (v3, v4, v4))
   else
    (.inr v3))

set_option maxHeartbeats 4000000 in
theorem L107_W_b77_1 (a0 : List (Int)) (a0_o : Nat) (a0_n : Nat) (a1 : Int) (a2 : Int) (a3 : ((List (((Int × Int × Int) × (Int × Int × Int) × Int × Int × Int) × Int)) × Int × List (Int) × List (Int × Int × Int × Int × (Int × Int × Int) × Int)) × Int) (l0 : a0.length ≤ 9223372036854775807) (l3_1_1 : a3.1.1.length ≤ 9223372036854775807) (l3_1_2_2_1 : a3.1.2.2.1.length ≤ 9223372036854775807) (l3_1_2_2_2 : a3.1.2.2.2.length ≤ 9223372036854775807) (hw : a0_o + a0_n ≤ a0.length ∧ a0.length ≤ 1048576) (hr : InR a3.1.1.length a0) (hab : 0 ≤ a1 ∧ a1 ≤ a2 ∧ a2 ≤ ↑a0_n) {cx : Cx} (hcx : cx.base = 4)
    (n0 : Nat) (g0 : ∀ (v3 : List (Int)) (v4 : Int), (0 ≤ v4) ∧ (v3.length = a0.length) ∧ (InR a3.1.1.length v3) ∧ (a1 < v4) ∧ (v4 ≤ a2 + 1) → Int.toNat (a2 - v4) < n0 → Aw.Good Try.prog none 9 (bodyPost Try.prog Try.f107 (RR cx (.t []) [] [(.live true true (flat c3 (loopF (S107_W_b77_0 a0 a0_o a0_n a1 a2 a3) n0 (v3, v4)))), .un, .un, .un])) cx [] (.l B107_W_b77_0 n0 :: K107_W_b77_0) (st107_W_b77_0 a0 a0_o a0_n a1 a2 a3 (flat c3 v3) v3.length v4)) : ∀ (n : Nat) (v5 : List (Int)) (v6 : Int) (v7 : Int), (v5.length = a0.length) ∧ (InR a3.1.1.length v5) ∧ (a1 ≤ v7) ∧ (v7 ≤ v6) ∧ (a1 < v6) ∧ (v6 < a2) ∧ ((0 ≤ v6)) ∧ ((v5.length = a0.length)) ∧ ((InR a3.1.1.length v5)) ∧ ((a1 < v6)) ∧ ((v6 ≤ a2 + 1)) ∧ (v6 < a2) ∧ (Int.toNat (a2 - v6) < n0 + 1) → Int.toNat (v7 - a1) < n → Aw.Good Try.prog none 9 (bodyPost Try.prog Try.f107 (RR cx (.t []) [] [(.live true true (flat c3 (thenF (S107_W_b77_0 a0 a0_o a0_n a1 a2 a3) n0 (loopF (S107_W_b77_1 a0 a0_o a0_n a1 a2 a3) n (v5, v6, v7))))), .un, .un, .un])) cx [] (.l B107_W_b77_1 n :: K107_W_b77_1 n0) (st107_W_b77_1 a0 a0_o a0_n a1 a2 a3 (flat c3 v5) v5.length v6 v7) := by
  intro n
  induction n with
  | zero => intro v5 v6 v7 hi hn; exact absurd hn (Nat.not_lt_zero _)
  | succ n ih =>
    intro v5 v6 v7 hi hn
    refine good_round ?_
    have hw_s9m1 := W_eq (n := v7 - 1) (by omega) (by omega)
    cases h0 : (decide ((v7 : Int) > a1)) with
    | true =>
     have q0 := of_decide_eq_true h0
     let t1 : List (St Try.prog) := [.d h0, .i v7 a0_n, stLw c3_len v5 a0_o v7 0 1, .i (W (v7 - 1)) a0_n, stLw c3_len v5 a0_o (W (v7 - 1)) 0 1, .c [1, 2, 0, 3] (C77 ((a3.1.1, a3.1.2.1, (v5, a3.1.2.2.2)), a3.2) (v5.getD (a0_o + Int.toNat v7) default) (v5.getD (a0_o + Int.toNat (W (v7 - 1))) default) (by (try simp only [List.length_append, List.length_cons, List.length_nil, Int.toNat_zero]); omega) (by (try simp only [List.length_append, List.length_cons, List.length_nil, Int.toNat_zero]); omega) (by (try simp only [List.length_append, List.length_cons, List.length_nil, Int.toNat_zero]); omega) (hi.2.1.at (by omega)) (hi.2.1.at (by omega)))]
     cases h1 : (decide (((F77 ((a3.1.1, a3.1.2.1, (v5, a3.1.2.2.2)), a3.2) (v5.getD (a0_o + Int.toNat v7) default) (v5.getD (a0_o + Int.toNat (W (v7 - 1))) default)) : Int) < 0)) with
     | true =>
      have q1 := of_decide_eq_true h1
      have e := Eq.refl (S107_W_b77_1 a0 a0_o a0_n a1 a2 a3 (v5, v6, v7)); conv at e => rhs; simp only [S107_W_b77_1, h0, h1, cond_true, cond_false]
      rw [loopF_inl e]
      refine ba (t1 ++ [.d h1, .i (W (v7 - 1)) a0_n, stLw c3_len v5 a0_o (W (v7 - 1)) 0 1, .i v7 a0_n, stLw c3_len v5 a0_o v7 0 1, .i v7 a0_n, .p (show ((0 + a0_o * 1 + Int.toNat v7 * 1) + 1 ≤ (flat c3 v5).length) from (flat_setwl c3_len (by first | omega | (simp only [List.length_set]; omega)) (w := a0_o) (i := Int.toNat v7) (o := 0) (n := 1) (Nat.le_of_ble_eq_true rfl))), .i (W (v7 - 1)) a0_n, .p (show ((0 + a0_o * 1 + Int.toNat (W (v7 - 1)) * 1) + 1 ≤ (splice (flat c3 v5) (0 + a0_o * 1 + Int.toNat v7 * 1) [(iv (v5.getD (a0_o + Int.toNat (W (v7 - 1))) default))]).length) from (by rw [show (splice (flat c3 v5) (0 + a0_o * 1 + Int.toNat v7 * 1) [(iv (v5.getD (a0_o + Int.toNat (W (v7 - 1))) default))]) = flat c3 (v5.set (a0_o + Int.toNat v7) (v5.getD (a0_o + Int.toNat (W (v7 - 1))) default)) from (flat_setw c3_len (by first | omega | (simp only [List.length_set]; omega)) (w := a0_o) (i := Int.toNat v7) (o := 0) (d := default) (y := (v5.getD (a0_o + Int.toNat (W (v7 - 1))) default)) (Nat.le_of_ble_eq_true rfl) rfl)]; exact flat_setwl c3_len (by first | omega | (simp only [List.length_set]; omega)) (w := a0_o) (i := Int.toNat (W (v7 - 1))) (o := 0) (n := 1) (Nat.le_of_ble_eq_true rfl)))]) [] [0, 1, 2, 3, 8, 9] [] hcx (m := n) B107_W_b77_1 (K107_W_b77_1 n0) (st107_W_b77_1 a0 a0_o a0_n a1 a2 a3 (splice (splice (flat c3 v5) (0 + a0_o * 1 + Int.toNat v7 * 1) [(iv (v5.getD (a0_o + Int.toNat (W (v7 - 1))) default))]) (0 + a0_o * 1 + Int.toNat (W (v7 - 1)) * 1) [(iv (v5.getD (a0_o + Int.toNat v7) default))]) (v5.length) v6 (W (v7 - 1))) (by kernel_rfl) ?_
      have z0 : (splice (splice (flat c3 v5) (0 + a0_o * 1 + Int.toNat v7 * 1) [(iv (v5.getD (a0_o + Int.toNat (W (v7 - 1))) default))]) (0 + a0_o * 1 + Int.toNat (W (v7 - 1)) * 1) [(iv (v5.getD (a0_o + Int.toNat v7) default))]) = flat c3 ((v5.set (a0_o + Int.toNat v7) (v5.getD (a0_o + Int.toNat (W (v7 - 1))) default)).set (a0_o + Int.toNat (W (v7 - 1))) (v5.getD (a0_o + Int.toNat v7) default)) := (by rw [show (splice (flat c3 v5) (0 + a0_o * 1 + Int.toNat v7 * 1) [(iv (v5.getD (a0_o + Int.toNat (W (v7 - 1))) default))]) = flat c3 (v5.set (a0_o + Int.toNat v7) (v5.getD (a0_o + Int.toNat (W (v7 - 1))) default)) from (flat_setw c3_len (by first | omega | (simp only [List.length_set]; omega)) (w := a0_o) (i := Int.toNat v7) (o := 0) (d := default) (y := (v5.getD (a0_o + Int.toNat (W (v7 - 1))) default)) (Nat.le_of_ble_eq_true rfl) rfl)]; exact flat_setw c3_len (by first | omega | (simp only [List.length_set]; omega)) (w := a0_o) (i := Int.toNat (W (v7 - 1))) (o := 0) (d := default) (y := (v5.getD (a0_o + Int.toNat v7) default)) (Nat.le_of_ble_eq_true rfl) rfl)
      have z1 : v5.length = ((v5.set (a0_o + Int.toNat v7) (v5.getD (a0_o + Int.toNat (W (v7 - 1))) default)).set (a0_o + Int.toNat (W (v7 - 1))) (v5.getD (a0_o + Int.toNat v7) default)).length := by simp
      rw [z0, z1]
      exact ih ((v5.set (a0_o + Int.toNat v7) (v5.getD (a0_o + Int.toNat (W (v7 - 1))) default)).set (a0_o + Int.toNat (W (v7 - 1))) (v5.getD (a0_o + Int.toNat v7) default)) v6 (W (v7 - 1)) (by refine ⟨?_, ?_, ?_, ?_, ?_, ?_, ?_, ?_, ?_, ?_, ?_, ?_, ?_⟩ <;> first | omega | assumption | exact hi.2.1 | exact hi.2.2.1 | (simp only [List.length_set]; omega) | exact InR.swap hi.2.1 (by omega) (by omega)) (by (try simp only [List.length_append, List.length_cons, List.length_nil, Int.toNat_zero]); omega)
     | false =>
      have q1 := of_decide_eq_false h1
      have e := Eq.refl (S107_W_b77_1 a0 a0_o a0_n a1 a2 a3 (v5, v6, v7)); conv at e => rhs; simp only [S107_W_b77_1, h0, h1, cond_true, cond_false]
      rw [loopF_s, e]
      refine ba (t1 ++ [.d h1]) [] [0, 1, 2, 3, 8] [] hcx (m := n0) B107_W_b77_0 (K107_W_b77_0) (st107_W_b77_0 a0 a0_o a0_n a1 a2 a3 (flat c3 v5) (v5.length) (W (v6 + 1))) (by kernel_rfl) ?_
      have z0 : (W (v6 + 1)) = (v6 + 1) := W_eq (by omega) (by omega)
      rw [z0]
      exact g0 v5 (v6 + 1) (by refine ⟨?_, ?_, ?_, ?_⟩ <;> first | omega | assumption | exact hi.2.1 | exact hi.2.2.1 | (simp only [List.length_set]; omega) | exact InR.swap hi.2.1 (by omega) (by omega)) (by (try simp only [List.length_append, List.length_cons, List.length_nil, Int.toNat_zero]); omega)
    | false =>
     have q0 := of_decide_eq_false h0
     have e := Eq.refl (S107_W_b77_1 a0 a0_o a0_n a1 a2 a3 (v5, v6, v7)); conv at e => rhs; simp only [S107_W_b77_1, h0, cond_true, cond_false]
     rw [loopF_s, e]
     refine ba [.d h0] [] [0, 1, 2, 3, 8] [] hcx (m := n0) B107_W_b77_0 (K107_W_b77_0) (st107_W_b77_0 a0 a0_o a0_n a1 a2 a3 (flat c3 v5) (v5.length) (W (v6 + 1))) (by kernel_rfl) ?_
     have z0 : (W (v6 + 1)) = (v6 + 1) := W_eq (by omega) (by omega)
     rw [z0]
     exact g0 v5 (v6 + 1) (by refine ⟨?_, ?_, ?_, ?_⟩ <;> first | omega | assumption | exact hi.2.1 | exact hi.2.2.1 | (simp only [List.length_set]; omega) | exact InR.swap hi.2.1 (by omega) (by omega)) (by (try simp only [List.length_append, List.length_cons, List.length_nil, Int.toNat_zero]); omega)

set_option maxHeartbeats 4000000 in
theorem L107_W_b77_0 (a0 : List (Int)) (a0_o : Nat) (a0_n : Nat) (a1 : Int) (a2 : Int) (a3 : ((List (((Int × Int × Int) × (Int × Int × Int) × Int × Int × Int) × Int)) × Int × List (Int) × List (Int × Int × Int × Int × (Int × Int × Int) × Int)) × Int) (l0 : a0.length ≤ 9223372036854775807) (l3_1_1 : a3.1.1.length ≤ 9223372036854775807) (l3_1_2_2_1 : a3.1.2.2.1.length ≤ 9223372036854775807) (l3_1_2_2_2 : a3.1.2.2.2.length ≤ 9223372036854775807) (hw : a0_o + a0_n ≤ a0.length ∧ a0.length ≤ 1048576) (hr : InR a3.1.1.length a0) (hab : 0 ≤ a1 ∧ a1 ≤ a2 ∧ a2 ≤ ↑a0_n) {cx : Cx} (hcx : cx.base = 4) : ∀ (n : Nat) (v3 : List (Int)) (v4 : Int), (0 ≤ v4) ∧ (v3.length = a0.length) ∧ (InR a3.1.1.length v3) ∧ (a1 < v4) ∧ (v4 ≤ a2 + 1) → Int.toNat (a2 - v4) < n → Aw.Good Try.prog none 9 (bodyPost Try.prog Try.f107 (RR cx (.t []) [] [(.live true true (flat c3 (loopF (S107_W_b77_0 a0 a0_o a0_n a1 a2 a3) n (v3, v4)))), .un, .un, .un])) cx [] (.l B107_W_b77_0 n :: K107_W_b77_0) (st107_W_b77_0 a0 a0_o a0_n a1 a2 a3 (flat c3 v3) v3.length v4) := by
  intro n
  induction n with
  | zero => intro v3 v4 hi hn; exact absurd hn (Nat.not_lt_zero _)
  | succ n ih =>
    intro v3 v4 hi hn
    refine good_round ?_
    have hw_s8p1 := W_eq (n := v4 + 1) (by omega) (by omega)
    cases h0 : (decide ((v4 : Int) < a2)) with
    | true =>
     have q0 := of_decide_eq_true h0
     have e := Eq.refl (S107_W_b77_0 a0 a0_o a0_n a1 a2 a3 (v3, v4)); conv at e => rhs; simp only [S107_W_b77_0, h0, cond_true, cond_false]
     rw [loopF_s, e]
     refine en [.d h0] [] [0, 1, 2, 3, 8, 9] [] hcx B107_W_b77_1 (K107_W_b77_1 n) (st107_W_b77_1 a0 a0_o a0_n a1 a2 a3 (flat c3 v3) (v3.length) v4 v4) (Int.toNat (v4 - a1) + 1) (by kernel_rfl) ?_
     exact L107_W_b77_1 a0 a0_o a0_n a1 a2 a3 l0 l3_1_1 l3_1_2_2_1 l3_1_2_2_2 hw hr hab hcx n ih (Int.toNat (v4 - a1) + 1) v3 v4 v4 (by refine ⟨?_, ?_, ?_, ?_, ?_, ?_, ?_, ?_, ?_, ?_, ?_, ?_, ?_⟩ <;> first | omega | assumption | exact hi.2.1 | exact hi.2.2.1 | (simp only [List.length_set]; omega) | exact InR.swap hi.2.1 (by omega) (by omega)) (by (try simp only [List.length_append, List.length_cons, List.length_nil, Int.toNat_zero]); omega)
    | false =>
     have q0 := of_decide_eq_false h0
     have e := Eq.refl (S107_W_b77_0 a0 a0_o a0_n a1 a2 a3 (v3, v4)); conv at e => rhs; simp only [S107_W_b77_0, h0, cond_true, cond_false]
     rw [loopF_s, e]
     try dsimp only
     exact rtn [.d h0] [] [0] [] hcx (by kernel_rfl)

def F107_W_b77 (a0 : List (Int)) (a0_o : Nat) (a0_n : Nat) (a1 : Int) (a2 : Int) (a3 : ((List (((Int × Int × Int) × (Int × Int × Int) × Int × Int × Int) × Int)) × Int × List (Int) × List (Int × Int × Int × Int × (Int × Int × Int) × Int)) × Int) : List (Int) :=
  (loopF (S107_W_b77_0 a0 a0_o a0_n a1 a2 a3) (Int.toNat (a2 - (W (a1 + 1))) + 1) (a0, (W (a1 + 1))))

theorem C107_W_b77 (a0 : List (Int)) (a0_o : Nat) (a0_n : Nat) (a1 : Int) (a2 : Int) (a3 : ((List (((Int × Int × Int) × (Int × Int × Int) × Int × Int × Int) × Int)) × Int × List (Int) × List (Int × Int × Int × Int × (Int × Int × Int) × Int)) × Int) (l0 : a0.length ≤ 9223372036854775807) (l3_1_1 : a3.1.1.length ≤ 9223372036854775807) (l3_1_2_2_1 : a3.1.2.2.1.length ≤ 9223372036854775807) (l3_1_2_2_2 : a3.1.2.2.2.length ≤ 9223372036854775807) (hw : a0_o + a0_n ≤ a0.length ∧ a0.length ≤ 1048576) (hr : InR a3.1.1.length a0) (hab : 0 ≤ a1 ∧ a1 ≤ a2 ∧ a2 ≤ ↑a0_n) : Con Try.prog 107 [(.s 0 (0 + a0_o * 1) a0_n 1), (iv a1), (iv a2), (.f 1000077 [(.a [(.p 1 0), (iv a3.2)])])] [(.live true true (flat c3 a0)), (.live false false [(.s 2 0 a3.1.1.length 10), (iv a3.1.2.1), (.s 0 0 a0.length 1), (.s 3 0 a3.1.2.2.2.length 8)]), (.live false true (flat c81 a3.1.1)), (.live false true (flat c40 a3.1.2.2.2))] (.t []) [] [(.live true true (flat c3 (F107_W_b77 a0 a0_o a0_n a1 a2 a3))), .un, .un, .un] := by
  refine con_s Try.func107 (by kernel_rfl) fun cx hcx => ?_
  have hw_a := W_eq (n := a1 + 1) (by omega) (by omega)
  have e := Eq.refl (F107_W_b77 a0 a0_o a0_n a1 a2 a3); conv at e => rhs; simp only [F107_W_b77]
  rw [e]
  refine en [] [] [0, 1, 2, 3, 8] [] hcx B107_W_b77_0 (K107_W_b77_0) (st107_W_b77_0 a0 a0_o a0_n a1 a2 a3 (flat c3 a0) (a0.length) (W (a1 + 1))) (Int.toNat (a2 - (W (a1 + 1))) + 1) (by kernel_rfl) ?_
  exact L107_W_b77_0 a0 a0_o a0_n a1 a2 a3 l0 l3_1_1 l3_1_2_2_1 l3_1_2_2_2 hw hr hab hcx (Int.toNat (a2 - (W (a1 + 1))) + 1) a0 (W (a1 + 1)) (by refine ⟨?_, ?_, ?_, ?_⟩ <;> first | omega | assumption | exact hi.2.1 | exact hi.2.2.1 | (simp only [List.length_set]; omega) | exact InR.swap hi.2.1 (by omega) (by omega)) (by (try simp only [List.length_append, List.length_cons, List.length_nil, Int.toNat_zero]); omega)

end Go.Proofs.Ytnbpiejjeeomkaa

namespace Go.Proofs.Ytnbpiejjeeomkaa
open Go.Proofs Go.Aw Go.RowKit
set_option maxRecDepth 100000
set_option linter.unusedVariables false
set_option linter.unusedSimpArgs false

def bitslay_ren : Go.Shelf.Ren := ⟨fun | 15 => 94 | 28 => 115 | 29 => 116 | n => n, fun | 39 => 89 | 3 => 3 | 53 => 125 | 55 => 127 | 4 => 4 | 5 => 5 | 9 => 9 | n => n, fun | n => n⟩
theorem bitslay : Go.Proofs.SlLaysF0.n15 Try.prog bitslay_ren := {
  mixed := by kernel_rfl
  f15 := Try.func94.trans (congrArg some (by kernel_rfl))
  f28 := Try.func115.trans (congrArg some (by kernel_rfl))
  f29 := Try.func116.trans (congrArg some (by kernel_rfl))
  t3 := Try.underlying3
  a3 := Try.isAgg3
  z3 := Try.sizeOf3
  v3 := Try.zeroValue3
  t4 := Try.underlying4
  a4 := Try.isAgg4
  z4 := Try.sizeOf4
  v4 := Try.zeroValue4
  t5 := Try.underlying5
  a5 := Try.isAgg5
  z5 := Try.sizeOf5
  v5 := Try.zeroValue5
  t9 := Try.underlying9
  a9 := Try.isAgg9
  z9 := Try.sizeOf9
  v9 := Try.zeroValue9
  t39 := Try.underlying89
  a39 := Try.isAgg89
  z39 := Try.sizeOf89
  v39 := Try.zeroValue89
  t53 := Try.underlying125
  a53 := Try.isAgg125
  z53 := Try.sizeOf125
  v53 := Try.zeroValue125
  t55 := Try.underlying127
  a55 := Try.isAgg127
  z55 := Try.sizeOf127
  v55 := Try.zeroValue127 }

/-! ### math/bits.Len -/
def F94 (n : Int) : Int := (Lib.bitLen n.toNat : Nat)
theorem C94 (a0 : Int) (hn : 0 ≤ a0 ∧ a0 ≤ 18446744073709551615) : Con Try.prog 94 [.v (.int .u64 a0)] [] (iv (F94 a0)) [] := by
  refine ⟨ent Try.func94 (by kernel_rfl) rfl, fun ρ W vs hr hb hpl hap hfz => ?_⟩
  match vs, hr with
  | [], hr => simp [Rels] at hr
  | _ :: _ :: _, hr => simp [Rels] at hr
  | [v1], hr =>
  simp only [Rels, and_true, Rel] at hr
  subst hr
  have h := Any.bits_Len (SlLaysF0.n15.bits (ρ := bitslay_ren) bitslay) a0 W hn.1 hn.2
  refine h.mono fun e w' ⟨he, hw⟩ => ?_
  subst hw
  have un1 : ∀ m j, postB m ([] : List BK) [] j = .un := fun m j => by unfold postB; simp
  exact ⟨ρ, _, he, fun _ _ => rfl, by simp only [iv, Rel]; rfl, Kept.refl _ _, fun j => by rw [un1]; trivial, fun j => by rw [un1]; trivial, fun i j b n b' n' _ o1 => by rw [un1] at o1; exact o1.elim, ρ.le_refl, fun b o hb => ⟨(hfz b o hb).1, fun j m o1 => by rw [un1] at o1; exact o1.elim, .inl hb⟩⟩

noncomputable def B93_W_b77_0 : Code := (loopAtD [1, 1] [] (bodyOf Try.f93) []).1
noncomputable def K93_W_b77_0 : List K := (loopAtD [1, 1] [] (bodyOf Try.f93) []).2

def st93_W_b77_0 (a0 : List (Int)) (a0_o : Nat) (a0_n : Nat) (a1 : Int) (a2 : Int) (a3 : Int) (a4 : ((List (((Int × Int × Int) × (Int × Int × Int) × Int × Int × Int) × Int)) × Int × List (Int) × List (Int × Int × Int × Int × (Int × Int × Int) × Int)) × Int) : LS := ⟨slN 148 [(0, (.s 0 (0 + a0_o * 1) a0_n 1)), (1, (iv a1)), (2, (iv a2)), (3, (iv a3)), (4, (.f 1000077 [(.a [(.p 1 0), (iv a4.2)])])), (10, (.v (.bool true))), (11, (.v (.bool true)))], [(.live true true (flat c3 a0)), (.live false false [(.s 2 0 a4.1.1.length 10), (iv a4.1.2.1), (.s 0 0 a0.length 1), (.s 3 0 a4.1.2.2.2.length 8)]), (.live false true (flat c81 a4.1.1)), (.live false true (flat c40 a4.1.2.2.2))]⟩

def S93_W_b77_0 (a0 : List (Int)) (a0_o : Nat) (a0_n : Nat) (a1 : Int) (a2 : Int) (a3 : Int) (a4 : ((List (((Int × Int × Int) × (Int × Int × Int) × Int × Int × Int) × Int)) × Int × List (Int) × List (Int × Int × Int × Int × (Int × Int × Int) × Int)) × Int) : Unit → (Unit) ⊕ (List (Int))
  | () =>
   (bif (decide (((W (a2 - a1)) : Int) ≤ 12)) then
    (.inr (F107_W_b77 a0 a0_o a0_n a1 a2 ((a4.1.1, a4.1.2.1, (a0, a4.1.2.2.2)), a4.2)))
   else
    (.inr default))

set_option maxHeartbeats 4000000 in
theorem L93_W_b77_0 (a0 : List (Int)) (a0_o : Nat) (a0_n : Nat) (a1 : Int) (a2 : Int) (a3 : Int) (a4 : ((List (((Int × Int × Int) × (Int × Int × Int) × Int × Int × Int) × Int)) × Int × List (Int) × List (Int × Int × Int × Int × (Int × Int × Int) × Int)) × Int) (l0 : a0.length ≤ 9223372036854775807) (l4_1_1 : a4.1.1.length ≤ 9223372036854775807) (l4_1_2_2_1 : a4.1.2.2.1.length ≤ 9223372036854775807) (l4_1_2_2_2 : a4.1.2.2.2.length ≤ 9223372036854775807) (hw : a0_o + a0_n ≤ a0.length ∧ a0.length ≤ 1048576) (hr : InR a4.1.1.length a0) (hab : 0 ≤ a1 ∧ a1 ≤ a2 ∧ a2 ≤ ↑a0_n) (h12 : a2 - a1 ≤ 12) {cx : Cx} (hcx : cx.base = 4) : ∀ (n : Nat), True → 0 < n → Aw.Good Try.prog none 9 (bodyPost Try.prog Try.f93 (RR cx (.t []) [] [(.live true true (flat c3 (loopF (S93_W_b77_0 a0 a0_o a0_n a1 a2 a3 a4) n ()))), .un, .un, .un])) cx [] (.l B93_W_b77_0 n :: K93_W_b77_0) (st93_W_b77_0 a0 a0_o a0_n a1 a2 a3 a4) := by
  intro n
  induction n with
  | zero => intro hi hn; exact absurd hn (Nat.not_lt_zero _)
  | succ n ih =>
    intro hi hn
    refine good_round ?_
    cases h0 : (decide (((W (a2 - a1)) : Int) ≤ 12)) with
    | true =>
     have q0 := of_decide_eq_true h0
     have e := Eq.refl (S93_W_b77_0 a0 a0_o a0_n a1 a2 a3 a4 ()); conv at e => rhs; simp only [S93_W_b77_0, h0, cond_true, cond_false]
     rw [loopF_s, e]
     try dsimp only
     try rw [show (F107_W_b77 a0 a0_o a0_n a1 a2 ((a4.1.1, a4.1.2.1, (a0, a4.1.2.2.2)), a4.2)).length = a0.length from by simp]
     exact rtm [.d h0, .c [0, 1, 2, 3] (C107_W_b77 a0 a0_o a0_n a1 a2 ((a4.1.1, a4.1.2.1, (a0, a4.1.2.2.2)), a4.2) (by (try simp only [List.length_append, List.length_cons, List.length_nil, Int.toNat_zero]); omega) (by (try simp only [List.length_append, List.length_cons, List.length_nil, Int.toNat_zero]); omega) (by (try simp only [List.length_append, List.length_cons, List.length_nil, Int.toNat_zero]); omega) (by (try simp only [List.length_append, List.length_cons, List.length_nil, Int.toNat_zero]); omega) hw hr hab)] [] [0] [] hcx (by kernel_rfl)
    | false =>
     have q0 := of_decide_eq_false h0
     exfalso; have hw_l := W_eq (n := a2 - a1) (by omega) (by omega); omega

def F93_W_b77 (a0 : List (Int)) (a0_o : Nat) (a0_n : Nat) (a1 : Int) (a2 : Int) (a3 : Int) (a4 : ((List (((Int × Int × Int) × (Int × Int × Int) × Int × Int × Int) × Int)) × Int × List (Int) × List (Int × Int × Int × Int × (Int × Int × Int) × Int)) × Int) : List (Int) :=
  (loopF (S93_W_b77_0 a0 a0_o a0_n a1 a2 a3 a4) (0 + 1) ())

theorem C93_W_b77 (a0 : List (Int)) (a0_o : Nat) (a0_n : Nat) (a1 : Int) (a2 : Int) (a3 : Int) (a4 : ((List (((Int × Int × Int) × (Int × Int × Int) × Int × Int × Int) × Int)) × Int × List (Int) × List (Int × Int × Int × Int × (Int × Int × Int) × Int)) × Int) (l0 : a0.length ≤ 9223372036854775807) (l4_1_1 : a4.1.1.length ≤ 9223372036854775807) (l4_1_2_2_1 : a4.1.2.2.1.length ≤ 9223372036854775807) (l4_1_2_2_2 : a4.1.2.2.2.length ≤ 9223372036854775807) (hw : a0_o + a0_n ≤ a0.length ∧ a0.length ≤ 1048576) (hr : InR a4.1.1.length a0) (hab : 0 ≤ a1 ∧ a1 ≤ a2 ∧ a2 ≤ ↑a0_n) (h12 : a2 - a1 ≤ 12) : Con Try.prog 93 [(.s 0 (0 + a0_o * 1) a0_n 1), (iv a1), (iv a2), (iv a3), (.f 1000077 [(.a [(.p 1 0), (iv a4.2)])])] [(.live true true (flat c3 a0)), (.live false false [(.s 2 0 a4.1.1.length 10), (iv a4.1.2.1), (.s 0 0 a0.length 1), (.s 3 0 a4.1.2.2.2.length 8)]), (.live false true (flat c81 a4.1.1)), (.live false true (flat c40 a4.1.2.2.2))] (.t []) [] [(.live true true (flat c3 (F93_W_b77 a0 a0_o a0_n a1 a2 a3 a4))), .un, .un, .un] := by
  refine con_s Try.func93 (by kernel_rfl) fun cx hcx => ?_
  have e := Eq.refl (F93_W_b77 a0 a0_o a0_n a1 a2 a3 a4); conv at e => rhs; simp only [F93_W_b77]
  rw [e]
  refine en [] [] [0, 1, 2, 3, 4, 10, 11] [] hcx B93_W_b77_0 (K93_W_b77_0) (st93_W_b77_0 a0 a0_o a0_n a1 a2 a3 a4) (0 + 1) (by kernel_rfl) ?_
  exact L93_W_b77_0 a0 a0_o a0_n a1 a2 a3 a4 l0 l4_1_1 l4_1_2_2_1 l4_1_2_2_2 hw hr hab h12 hcx (0 + 1) trivial (by (try simp only [List.length_append, List.length_cons, List.length_nil, Int.toNat_zero]); omega)

def F75_W_b77 (a0 : List (Int)) (a0_o : Nat) (a0_n : Nat) (a1 : ((List (((Int × Int × Int) × (Int × Int × Int) × Int × Int × Int) × Int)) × Int × List (Int) × List (Int × Int × Int × Int × (Int × Int × Int) × Int)) × Int) : List (Int) :=
  (F93_W_b77 a0 a0_o a0_n 0 ((a0_n : Nat) : Int) (F94 (IntKind.wrap .u64 ((a0_n : Nat) : Int))) ((a1.1.1, a1.1.2.1, (a0, a1.1.2.2.2)), a1.2))

theorem C75_W_b77 (a0 : List (Int)) (a0_o : Nat) (a0_n : Nat) (a1 : ((List (((Int × Int × Int) × (Int × Int × Int) × Int × Int × Int) × Int)) × Int × List (Int) × List (Int × Int × Int × Int × (Int × Int × Int) × Int)) × Int) (l0 : a0.length ≤ 9223372036854775807) (l1_1_1 : a1.1.1.length ≤ 9223372036854775807) (l1_1_2_2_1 : a1.1.2.2.1.length ≤ 9223372036854775807) (l1_1_2_2_2 : a1.1.2.2.2.length ≤ 9223372036854775807) (hw : a0_o + a0_n ≤ a0.length ∧ a0.length ≤ 1048576) (hr : InR a1.1.1.length a0) (h12 : a0_n ≤ 12) : Con Try.prog 75 [(.s 0 (0 + a0_o * 1) a0_n 1), (.f 1000077 [(.a [(.p 1 0), (iv a1.2)])])] [(.live true true (flat c3 a0)), (.live false false [(.s 2 0 a1.1.1.length 10), (iv a1.1.2.1), (.s 0 0 a0.length 1), (.s 3 0 a1.1.2.2.2.length 8)]), (.live false true (flat c81 a1.1.1)), (.live false true (flat c40 a1.1.2.2.2))] (.t []) [] [(.live true true (flat c3 (F75_W_b77 a0 a0_o a0_n a1))), .un, .un, .un] := by
  refine con_s Try.func75 (by kernel_rfl) fun cx hcx => ?_
  have e := Eq.refl (F75_W_b77 a0 a0_o a0_n a1); conv at e => rhs; simp only [F75_W_b77]
  rw [e]
  try dsimp only
  try rw [show (F93_W_b77 a0 a0_o a0_n 0 ((a0_n : Nat) : Int) (F94 (IntKind.wrap .u64 ((a0_n : Nat) : Int))) ((a1.1.1, a1.1.2.1, (a0, a1.1.2.2.2)), a1.2)).length = a0.length from by simp]
  exact rtn [.c [] (C94 (IntKind.wrap .u64 ((a0_n : Nat) : Int))  (by rw [IntKind.wrap_u64]; omega)), .c [0, 1, 2, 3] (C93_W_b77 a0 a0_o a0_n 0 ((a0_n : Nat) : Int) (F94 (IntKind.wrap .u64 ((a0_n : Nat) : Int))) ((a1.1.1, a1.1.2.1, (a0, a1.1.2.2.2)), a1.2) (by (try simp only [List.length_append, List.length_cons, List.length_nil, Int.toNat_zero]); omega) (by (try simp only [List.length_append, List.length_cons, List.length_nil, Int.toNat_zero]); omega) (by (try simp only [List.length_append, List.length_cons, List.length_nil, Int.toNat_zero]); omega) (by (try simp only [List.length_append, List.length_cons, List.length_nil, Int.toNat_zero]); omega) hw hr (by omega) (by omega))] [] [0] [] hcx (by kernel_rfl)

end Go.Proofs.Ytnbpiejjeeomkaa

namespace Go.Proofs.Ytnbpiejjeeomkaa
open Go.Proofs Go.Aw Go.RowKit
set_option maxRecDepth 100000
set_option linter.unusedVariables false
set_option linter.unusedSimpArgs false

def F88 (a0 : (Int × Int × Int) × (Int × Int × Int) × Int × Int × Int) : (Int × Int × Int) × (Int × Int × Int) × Int × Int × Int :=
  a0

theorem C88 (a0 : (Int × Int × Int) × (Int × Int × Int) × Int × Int × Int) : Con Try.prog 88 [(.a (k9 a0))] [] (.a (k9 (F88 a0))) [] := by
  refine con_s Try.func88 (by kernel_rfl) fun cx hcx => ?_
  have e := Eq.refl (F88 a0); conv at e => rhs; simp only [F88]
  rw [e]
  exact rt [] [] [] hcx (by kernel_rfl)

def F89 (a0 : Int) : Int :=
  (Int.fdiv a0 (2 ^ (min (Int.toNat 1) 64)))

theorem C89 (a0 : Int) : Con Try.prog 89 [(iv a0)] [] (iv (F89 a0)) [] := by
  refine con_s Try.func89 (by kernel_rfl) fun cx hcx => ?_
  have e := Eq.refl (F89 a0); conv at e => rhs; simp only [F89]
  rw [e]
  exact rt [.p (show 0 ≤ (1 : Int) from by decide)] [] [] hcx (by kernel_rfl)

noncomputable def B72_L_L_0 : Code := (loopAtD [1, 1, 0, 1] [] (bodyOf Try.f72) []).1
noncomputable def K72_L_L_0 : List K := (loopAtD [1, 1, 0, 1] [] (bodyOf Try.f72) []).2

def st72_L_L_0 (a0 : List (((Int × Int × Int) × (Int × Int × Int) × Int × Int × Int) × Int)) (a1 : List (Int)) (v2c : List SV) (v2n : Nat) (v3 : Int) : LS := ⟨slN 23 [(0, (.s 0 0 a0.length 10)), (5, (.s 2 0 v2n 10)), (8, (.s 1 0 a1.length 1)), (9, (iv ((a1.length : Nat) : Int))), (10, (iv v3))], [(.live false true (flat c81 a0)), (.live false true (flat c3 a1)), (.live true true v2c)]⟩

def S72_L_L_0 (a0 : List (((Int × Int × Int) × (Int × Int × Int) × Int × Int × Int) × Int)) (a1 : List (Int)) : (List (((Int × Int × Int) × (Int × Int × Int) × Int × Int × Int) × Int)) × Int → ((List (((Int × Int × Int) × (Int × Int × Int) × Int × Int × Int) × Int)) × Int) ⊕ (List (((Int × Int × Int) × (Int × Int × Int) × Int × Int × Int) × Int))
  | (v2, v3) =>
   (bif (decide ((v3 : Int) < ((a1.length : Nat) : Int))) then
    (.inl ((v2 ++ [(a0.getD (Int.toNat (a1.getD (Int.toNat v3) default)) default)]), (v3 + 1)))
   else
    (.inr v2))

set_option maxHeartbeats 4000000 in
theorem L72_L_L_0 (a0 : List (((Int × Int × Int) × (Int × Int × Int) × Int × Int × Int) × Int)) (a1 : List (Int)) (l0 : a0.length ≤ 9223372036854775807) (l1 : a1.length ≤ 9223372036854775807) (hir : InR a0.length a1) (hl : a1.length ≤ 1048576) {cx : Cx} (hcx : cx.base = 2) : ∀ (n : Nat) (v2 : List (((Int × Int × Int) × (Int × Int × Int) × Int × Int × Int) × Int)) (v3 : Int), (0 ≤ v3) ∧ (v2.length = Int.toNat v3) ∧ (v3 ≤ a1.length) → Int.toNat (((a1.length : Nat) : Int) - v3) < n → Aw.Good Try.prog none 9 (bodyPost Try.prog Try.f72 (RR cx (.s 2 0 (loopF (S72_L_L_0 a0 a1) n (v2, v3)).length 10) [(.live true true (flat c81 (loopF (S72_L_L_0 a0 a1) n (v2, v3))))] [])) cx [] (.l B72_L_L_0 n :: K72_L_L_0) (st72_L_L_0 a0 a1 (flat c81 v2) v2.length v3) := by
  intro n
  induction n with
  | zero => intro v2 v3 hi hn; exact absurd hn (Nat.not_lt_zero _)
  | succ n ih =>
    intro v2 v3 hi hn
    refine good_round ?_
    try have hr1 := hir.at (i := Int.toNat v3) (by have _ := h0; omega)
    cases h0 : (decide ((v3 : Int) < ((a1.length : Nat) : Int))) with
    | true =>
     have q0 := of_decide_eq_true h0
     try have hr1 := hir.at (i := Int.toNat v3) (by have _ := h0; omega)
     have e := Eq.refl (S72_L_L_0 a0 a1 (v2, v3)); conv at e => rhs; simp only [S72_L_L_0, h0, cond_true, cond_false]
     rw [loopF_inl e]
     refine ba [.d h0, .i v3 (a1.length), .L c3_len a1 v3 0 1, .i (a1.getD (Int.toNat v3) default) (a0.length), .L c81_len a0 (a1.getD (Int.toNat v3) default) 0 10, .p (show ((flat c81 v2).length = v2.length * 10 ∧ v2.length + 1 ≤ 2 ^ 40 ∧ (v2.length + 1) * 80 ≤ 2 ^ 47) from app_ok c81_len (by omega) (by omega))] [] [0, 5, 8, 9, 10] [4] hcx (m := n) B72_L_L_0 (K72_L_L_0) (st72_L_L_0 a0 a1 (flat c81 v2 ++ [(iv (a0.getD (Int.toNat (a1.getD (Int.toNat v3) default)) default).1.1.1), (iv (a0.getD (Int.toNat (a1.getD (Int.toNat v3) default)) default).1.1.2.1), (iv (a0.getD (Int.toNat (a1.getD (Int.toNat v3) default)) default).1.1.2.2), (iv (a0.getD (Int.toNat (a1.getD (Int.toNat v3) default)) default).1.2.1.1), (iv (a0.getD (Int.toNat (a1.getD (Int.toNat v3) default)) default).1.2.1.2.1), (iv (a0.getD (Int.toNat (a1.getD (Int.toNat v3) default)) default).1.2.1.2.2), (iv (a0.getD (Int.toNat (a1.getD (Int.toNat v3) default)) default).1.2.2.1), (iv (a0.getD (Int.toNat (a1.getD (Int.toNat v3) default)) default).1.2.2.2.1), (iv (a0.getD (Int.toNat (a1.getD (Int.toNat v3) default)) default).1.2.2.2.2), (iv (a0.getD (Int.toNat (a1.getD (Int.toNat v3) default)) default).2)]) (v2.length + 1) (W (v3 + 1))) (by kernel_rfl) ?_
     have z0 : (W (v3 + 1)) = (v3 + 1) := W_eq (by omega) (by omega)
     have z1 : (flat c81 v2 ++ [(iv (a0.getD (Int.toNat (a1.getD (Int.toNat v3) default)) default).1.1.1), (iv (a0.getD (Int.toNat (a1.getD (Int.toNat v3) default)) default).1.1.2.1), (iv (a0.getD (Int.toNat (a1.getD (Int.toNat v3) default)) default).1.1.2.2), (iv (a0.getD (Int.toNat (a1.getD (Int.toNat v3) default)) default).1.2.1.1), (iv (a0.getD (Int.toNat (a1.getD (Int.toNat v3) default)) default).1.2.1.2.1), (iv (a0.getD (Int.toNat (a1.getD (Int.toNat v3) default)) default).1.2.1.2.2), (iv (a0.getD (Int.toNat (a1.getD (Int.toNat v3) default)) default).1.2.2.1), (iv (a0.getD (Int.toNat (a1.getD (Int.toNat v3) default)) default).1.2.2.2.1), (iv (a0.getD (Int.toNat (a1.getD (Int.toNat v3) default)) default).1.2.2.2.2), (iv (a0.getD (Int.toNat (a1.getD (Int.toNat v3) default)) default).2)]) = (flat c81 (v2 ++ [(a0.getD (Int.toNat (a1.getD (Int.toNat v3) default)) default)])) := (flat_append (c := c81) (l := v2) (m := [(a0.getD (Int.toNat (a1.getD (Int.toNat v3) default)) default)])).symm
     have z2 : (v2.length + 1) = (v2 ++ [(a0.getD (Int.toNat (a1.getD (Int.toNat v3) default)) default)]).length := len_app v2 [(a0.getD (Int.toNat (a1.getD (Int.toNat v3) default)) default)] rfl
     rw [z0, z1, z2]
     exact ih (v2 ++ [(a0.getD (Int.toNat (a1.getD (Int.toNat v3) default)) default)]) (v3 + 1) (by refine ⟨?_, ?_, ?_⟩ <;> (try simp only [List.length_append, List.length_cons, List.length_nil, Int.toNat_zero]) <;> first | omega | assumption | simp) (by (try simp only [List.length_append, List.length_cons, List.length_nil, Int.toNat_zero]); omega)
    | false =>
     have q0 := of_decide_eq_false h0
     try have hr1 := hir.at (i := Int.toNat v3) (by have _ := h0; omega)
     have e := Eq.refl (S72_L_L_0 a0 a1 (v2, v3)); conv at e => rhs; simp only [S72_L_L_0, h0, cond_true, cond_false]
     rw [loopF_s, e]
     exact rt [.d h0] [] [2] hcx (by kernel_rfl)

def F72_L_L (a0 : List (((Int × Int × Int) × (Int × Int × Int) × Int × Int × Int) × Int)) (a1 : List (Int)) : List (((Int × Int × Int) × (Int × Int × Int) × Int × Int × Int) × Int) :=
  (loopF (S72_L_L_0 a0 a1) (Int.toNat (((a1.length : Nat) : Int) - 0) + 1) (([] : List (((Int × Int × Int) × (Int × Int × Int) × Int × Int × Int) × Int)), 0))

theorem C72_L_L (a0 : List (((Int × Int × Int) × (Int × Int × Int) × Int × Int × Int) × Int)) (a1 : List (Int)) (l0 : a0.length ≤ 9223372036854775807) (l1 : a1.length ≤ 9223372036854775807) (hir : InR a0.length a1) (hl : a1.length ≤ 1048576) : Con Try.prog 72 [(.s 0 0 a0.length 10), (.s 1 0 a1.length 1)] [(.live false true (flat c81 a0)), (.live false true (flat c3 a1))] (.s 2 0 (F72_L_L a0 a1).length 10) [(.live true true (flat c81 (F72_L_L a0 a1)))] := by
  refine con_s Try.func72 (by kernel_rfl) fun cx hcx => ?_
  have e := Eq.refl (F72_L_L a0 a1); conv at e => rhs; simp only [F72_L_L]
  rw [e]
  refine en [] [.slot 5 10] [0, 5, 8, 9, 10] [2] hcx B72_L_L_0 (K72_L_L_0) (st72_L_L_0 a0 a1 (flat c81 ([] : List (((Int × Int × Int) × (Int × Int × Int) × Int × Int × Int) × Int))) 0 0) (Int.toNat (((a1.length : Nat) : Int) - 0) + 1) (by kernel_rfl) ?_
  exact L72_L_L_0 a0 a1 l0 l1 hir hl hcx (Int.toNat (((a1.length : Nat) : Int) - 0) + 1) ([] : List (((Int × Int × Int) × (Int × Int × Int) × Int × Int × Int) × Int)) 0 (by refine ⟨?_, ?_, ?_⟩ <;> (try simp only [List.length_append, List.length_cons, List.length_nil, Int.toNat_zero]) <;> first | omega | assumption | simp) (by (try simp only [List.length_append, List.length_cons, List.length_nil, Int.toNat_zero]); omega)

noncomputable def B73_L_0 : Code := (loopAtD [1, 1, 0, 1] [] (bodyOf Try.f73) []).1
noncomputable def K73_L_0 : List K := (loopAtD [1, 1, 0, 1] [] (bodyOf Try.f73) []).2

def st73_L_0 (a0 : List (((Int × Int × Int) × (Int × Int × Int) × Int × Int × Int) × Int)) (v1 : Int) (v2 : Int) (v3 : Int) (v4 : Int) (v5 : Int) (v6 : Int) (v7 : Int) : LS := ⟨slN 84 [(2, (.p 1 0)), (3, (.p 2 0)), (4, (.p 3 0)), (19, (.s 0 0 a0.length 10)), (20, (iv ((a0.length : Nat) : Int))), (21, (iv v1))], [(.live false true (flat c81 a0)), (.live true false [(iv 0), (iv 0), (iv 0)]), (.live true false [(iv v2), (iv v3), (iv v4)]), (.live true false [(iv v5), (iv v6), (iv v7)])]⟩

def S73_L_0 (a0 : List (((Int × Int × Int) × (Int × Int × Int) × Int × Int × Int) × Int)) : Int × Int × Int × Int × Int × Int × Int → (Int × Int × Int × Int × Int × Int × Int) ⊕ (Int × Int × Int)
  | (v1, v2, v3, v4, v5, v6, v7) =>
   (bif (decide ((v1 : Int) < ((a0.length : Nat) : Int))) then
    (.inl ((v1 + 1), (imn (imn (imn v2 (F88 (a0.getD (Int.toNat v1) default).1).1.1) (F88 (a0.getD (Int.toNat v1) default).1).2.1.1) (F88 (a0.getD (Int.toNat v1) default).1).2.2.1), (imn (imn (imn v3 (F88 (a0.getD (Int.toNat v1) default).1).1.2.1) (F88 (a0.getD (Int.toNat v1) default).1).2.1.2.1) (F88 (a0.getD (Int.toNat v1) default).1).2.2.2.1), (imn (imn (imn v4 (F88 (a0.getD (Int.toNat v1) default).1).1.2.2) (F88 (a0.getD (Int.toNat v1) default).1).2.1.2.2) (F88 (a0.getD (Int.toNat v1) default).1).2.2.2.2), (imx (imx (imx v5 (F88 (a0.getD (Int.toNat v1) default).1).1.1) (F88 (a0.getD (Int.toNat v1) default).1).2.1.1) (F88 (a0.getD (Int.toNat v1) default).1).2.2.1), (imx (imx (imx v6 (F88 (a0.getD (Int.toNat v1) default).1).1.2.1) (F88 (a0.getD (Int.toNat v1) default).1).2.1.2.1) (F88 (a0.getD (Int.toNat v1) default).1).2.2.2.1), (imx (imx (imx v7 (F88 (a0.getD (Int.toNat v1) default).1).1.2.2) (F88 (a0.getD (Int.toNat v1) default).1).2.1.2.2) (F88 (a0.getD (Int.toNat v1) default).1).2.2.2.2)))
   else
    (.inr ((F89 (W (v2 + v5))), (F89 (W (v3 + v6))), (F89 (W (v4 + v7))))))

set_option maxHeartbeats 4000000 in
theorem L73_L_0 (a0 : List (((Int × Int × Int) × (Int × Int × Int) × Int × Int × Int) × Int)) (l0 : a0.length ≤ 9223372036854775807) (hl : 1 ≤ a0.length ∧ a0.length ≤ 1048576) {cx : Cx} (hcx : cx.base = 1) : ∀ (n : Nat) (v1 : Int) (v2 : Int) (v3 : Int) (v4 : Int) (v5 : Int) (v6 : Int) (v7 : Int), (0 ≤ v1) ∧ (v1 ≤ a0.length) → Int.toNat (((a0.length : Nat) : Int) - v1) < n → Aw.Good Try.prog none 9 (bodyPost Try.prog Try.f73 (RR cx (.a (k3 (loopF (S73_L_0 a0) n (v1, v2, v3, v4, v5, v6, v7)))) [] [])) cx [] (.l B73_L_0 n :: K73_L_0) (st73_L_0 a0 v1 v2 v3 v4 v5 v6 v7) := by
  intro n
  induction n with
  | zero => intro v1 v2 v3 v4 v5 v6 v7 hi hn; exact absurd hn (Nat.not_lt_zero _)
  | succ n ih =>
    intro v1 v2 v3 v4 v5 v6 v7 hi hn
    refine good_round ?_
    cases h0 : (decide ((v1 : Int) < ((a0.length : Nat) : Int))) with
    | true =>
     have q0 := of_decide_eq_true h0
     have e := Eq.refl (S73_L_0 a0 (v1, v2, v3, v4, v5, v6, v7)); conv at e => rhs; simp only [S73_L_0, h0, cond_true, cond_false]
     rw [loopF_inl e]
     refine ba [.d h0, .i v1 (a0.length), .L c81_len a0 v1 0 10, .c [] (C88 (a0.getD (Int.toNat v1) default).1), .u 200, .T, .i 0 3 (by decide), .u 0, .T, .i 1 3 (by decide), .u 0, .T, .i 2 3 (by decide), .u 0, .F] [] [2, 3, 4, 19, 20, 21] [1, 2, 3] hcx (m := n) B73_L_0 (K73_L_0) (st73_L_0 a0 (W (v1 + 1)) (imn (imn (imn v2 (F88 (a0.getD (Int.toNat v1) default).1).1.1) (F88 (a0.getD (Int.toNat v1) default).1).2.1.1) (F88 (a0.getD (Int.toNat v1) default).1).2.2.1) (imn (imn (imn v3 (F88 (a0.getD (Int.toNat v1) default).1).1.2.1) (F88 (a0.getD (Int.toNat v1) default).1).2.1.2.1) (F88 (a0.getD (Int.toNat v1) default).1).2.2.2.1) (imn (imn (imn v4 (F88 (a0.getD (Int.toNat v1) default).1).1.2.2) (F88 (a0.getD (Int.toNat v1) default).1).2.1.2.2) (F88 (a0.getD (Int.toNat v1) default).1).2.2.2.2) (imx (imx (imx v5 (F88 (a0.getD (Int.toNat v1) default).1).1.1) (F88 (a0.getD (Int.toNat v1) default).1).2.1.1) (F88 (a0.getD (Int.toNat v1) default).1).2.2.1) (imx (imx (imx v6 (F88 (a0.getD (Int.toNat v1) default).1).1.2.1) (F88 (a0.getD (Int.toNat v1) default).1).2.1.2.1) (F88 (a0.getD (Int.toNat v1) default).1).2.2.2.1) (imx (imx (imx v7 (F88 (a0.getD (Int.toNat v1) default).1).1.2.2) (F88 (a0.getD (Int.toNat v1) default).1).2.1.2.2) (F88 (a0.getD (Int.toNat v1) default).1).2.2.2.2)) (by kernel_rfl) ?_
     have z0 : (W (v1 + 1)) = (v1 + 1) := W_eq (by omega) (by omega)
     rw [z0]
     exact ih (v1 + 1) (imn (imn (imn v2 (F88 (a0.getD (Int.toNat v1) default).1).1.1) (F88 (a0.getD (Int.toNat v1) default).1).2.1.1) (F88 (a0.getD (Int.toNat v1) default).1).2.2.1) (imn (imn (imn v3 (F88 (a0.getD (Int.toNat v1) default).1).1.2.1) (F88 (a0.getD (Int.toNat v1) default).1).2.1.2.1) (F88 (a0.getD (Int.toNat v1) default).1).2.2.2.1) (imn (imn (imn v4 (F88 (a0.getD (Int.toNat v1) default).1).1.2.2) (F88 (a0.getD (Int.toNat v1) default).1).2.1.2.2) (F88 (a0.getD (Int.toNat v1) default).1).2.2.2.2) (imx (imx (imx v5 (F88 (a0.getD (Int.toNat v1) default).1).1.1) (F88 (a0.getD (Int.toNat v1) default).1).2.1.1) (F88 (a0.getD (Int.toNat v1) default).1).2.2.1) (imx (imx (imx v6 (F88 (a0.getD (Int.toNat v1) default).1).1.2.1) (F88 (a0.getD (Int.toNat v1) default).1).2.1.2.1) (F88 (a0.getD (Int.toNat v1) default).1).2.2.2.1) (imx (imx (imx v7 (F88 (a0.getD (Int.toNat v1) default).1).1.2.2) (F88 (a0.getD (Int.toNat v1) default).1).2.1.2.2) (F88 (a0.getD (Int.toNat v1) default).1).2.2.2.2) (by refine ⟨?_, ?_⟩ <;> (try simp only [List.length_append, List.length_cons, List.length_nil, Int.toNat_zero]) <;> first | omega | assumption | simp) (by (try simp only [List.length_append, List.length_cons, List.length_nil, Int.toNat_zero]); omega)
    | false =>
     have q0 := of_decide_eq_false h0
     have e := Eq.refl (S73_L_0 a0 (v1, v2, v3, v4, v5, v6, v7)); conv at e => rhs; simp only [S73_L_0, h0, cond_true, cond_false]
     rw [loopF_s, e]
     exact rt [.d h0, .c [] (C89 (W (v2 + v5))), .c [] (C89 (W (v3 + v6))), .c [] (C89 (W (v4 + v7)))] [] [] hcx (by kernel_rfl)

def F73_L (a0 : List (((Int × Int × Int) × (Int × Int × Int) × Int × Int × Int) × Int)) : Int × Int × Int :=
  (loopF (S73_L_0 a0) (Int.toNat (((a0.length : Nat) : Int) - 0) + 1) (0, (a0.getD (Int.toNat 0) default).1.1.1, (a0.getD (Int.toNat 0) default).1.1.2.1, (a0.getD (Int.toNat 0) default).1.1.2.2, (a0.getD (Int.toNat 0) default).1.1.1, (a0.getD (Int.toNat 0) default).1.1.2.1, (a0.getD (Int.toNat 0) default).1.1.2.2))

theorem C73_L (a0 : List (((Int × Int × Int) × (Int × Int × Int) × Int × Int × Int) × Int)) (l0 : a0.length ≤ 9223372036854775807) (hl : 1 ≤ a0.length ∧ a0.length ≤ 1048576) : Con Try.prog 73 [(.s 0 0 a0.length 10)] [(.live false true (flat c81 a0))] (.a (k3 (F73_L a0))) [] := by
  refine con_s Try.func73 (by kernel_rfl) fun cx hcx => ?_
  have e := Eq.refl (F73_L a0); conv at e => rhs; simp only [F73_L]
  rw [e]
  refine en [.i 0 (a0.length), .L c81_len a0 0 0 3, .i 0 (a0.length), .L c81_len a0 0 0 3] [] [2, 3, 4, 19, 20, 21] [1, 2, 3] hcx B73_L_0 (K73_L_0) (st73_L_0 a0 0 ((a0.getD (Int.toNat 0) default).1.1.1) ((a0.getD (Int.toNat 0) default).1.1.2.1) ((a0.getD (Int.toNat 0) default).1.1.2.2) ((a0.getD (Int.toNat 0) default).1.1.1) ((a0.getD (Int.toNat 0) default).1.1.2.1) ((a0.getD (Int.toNat 0) default).1.1.2.2)) (Int.toNat (((a0.length : Nat) : Int) - 0) + 1) (by kernel_rfl) ?_
  exact L73_L_0 a0 l0 hl hcx (Int.toNat (((a0.length : Nat) : Int) - 0) + 1) 0 ((a0.getD (Int.toNat 0) default).1.1.1) ((a0.getD (Int.toNat 0) default).1.1.2.1) ((a0.getD (Int.toNat 0) default).1.1.2.2) ((a0.getD (Int.toNat 0) default).1.1.1) ((a0.getD (Int.toNat 0) default).1.1.2.1) ((a0.getD (Int.toNat 0) default).1.1.2.2) (by refine ⟨?_, ?_⟩ <;> (try simp only [List.length_append, List.length_cons, List.length_nil, Int.toNat_zero]) <;> first | omega | assumption | simp) (by (try simp only [List.length_append, List.length_cons, List.length_nil, Int.toNat_zero]); omega)

def F118 (a0 : Int) (a1 : Int) (a2 : Int) : Bool :=
  (bif (decide ((a1 : Int) ≤ a0)) then
   (decide ((a0 : Int) ≤ a2))
  else
   false)

theorem C118 (a0 : Int) (a1 : Int) (a2 : Int) : Con Try.prog 118 [(iv a0), (iv a1), (iv a2)] [] (.v (.bool (F118 a0 a1 a2))) [] := by
  refine con_s Try.func118 (by kernel_rfl) fun cx hcx => ?_
  cases h0 : (decide ((a1 : Int) ≤ a0)) with
  | true =>
   have q0 := of_decide_eq_true h0
   have e := Eq.refl (F118 a0 a1 a2); conv at e => rhs; simp only [F118, h0, cond_true, cond_false]
   rw [e]
   exact rt [.d h0] [] [] hcx (by kernel_rfl)
  | false =>
   have q0 := of_decide_eq_false h0
   have e := Eq.refl (F118 a0 a1 a2); conv at e => rhs; simp only [F118, h0, cond_true, cond_false]
   rw [e]
   exact rt [.d h0] [] [] hcx (by kernel_rfl)

def F106 (a0 : Int × Int × Int) (a1 : Int) : Bool :=
  (bif (F118 a0.1 (W (0 - a1)) a1) then
   (bif (F118 a0.2.1 (W (0 - a1)) a1) then
    (F118 a0.2.2 (W (0 - a1)) a1)
   else
    false)
  else
   false)

theorem C106 (a0 : Int × Int × Int) (a1 : Int) : Con Try.prog 106 [(.a (k3 a0)), (iv a1)] [] (.v (.bool (F106 a0 a1))) [] := by
  refine con_s Try.func106 (by kernel_rfl) fun cx hcx => ?_
  let t0 : List (St Try.prog) := [.c [] (C118 a0.1 (W (0 - a1)) a1)]
  cases h0 : (F118 a0.1 (W (0 - a1)) a1) with
  | true =>
   let t1 : List (St Try.prog) := (t0 ++ [.d h0, .c [] (C118 a0.2.1 (W (0 - a1)) a1)])
   cases h1 : (F118 a0.2.1 (W (0 - a1)) a1) with
   | true =>
    have e := Eq.refl (F106 a0 a1); conv at e => rhs; simp only [F106, h0, h1, cond_true, cond_false]
    rw [e]
    exact rt (t1 ++ [.d h1, .c [] (C118 a0.2.2 (W (0 - a1)) a1)]) [] [] hcx (by kernel_rfl)
   | false =>
    have e := Eq.refl (F106 a0 a1); conv at e => rhs; simp only [F106, h0, h1, cond_true, cond_false]
    rw [e]
    exact rt (t1 ++ [.d h1]) [] [] hcx (by kernel_rfl)
  | false =>
   have e := Eq.refl (F106 a0 a1); conv at e => rhs; simp only [F106, h0, cond_true, cond_false]
   rw [e]
   exact rt (t0 ++ [.d h0]) [] [] hcx (by kernel_rfl)

def F91 (a0 : Int × Int × Int) (a1 : Int × Int × Int) : Int × Int × Int :=
  ((W (a0.1 - a1.1)), (W (a0.2.1 - a1.2.1)), (W (a0.2.2 - a1.2.2)))

theorem C91 (a0 : Int × Int × Int) (a1 : Int × Int × Int) : Con Try.prog 91 [(.a (k3 a0)), (.a (k3 a1))] [] (.a (k3 (F91 a0 a1))) [] := by
  refine con_s Try.func91 (by kernel_rfl) fun cx hcx => ?_
  have e := Eq.refl (F91 a0 a1); conv at e => rhs; simp only [F91]
  rw [e]
  exact rt [] [] [] hcx (by kernel_rfl)

def F92 (a0 : Int × Int × Int) (a1 : Int × Int × Int) : Int :=
  (W ((W ((W (a0.1 * a1.1)) + (W (a0.2.1 * a1.2.1)))) + (W (a0.2.2 * a1.2.2))))

theorem C92 (a0 : Int × Int × Int) (a1 : Int × Int × Int) : Con Try.prog 92 [(.a (k3 a0)), (.a (k3 a1))] [] (iv (F92 a0 a1)) [] := by
  refine con_s Try.func92 (by kernel_rfl) fun cx hcx => ?_
  have e := Eq.refl (F92 a0 a1); conv at e => rhs; simp only [F92]
  rw [e]
  exact rt [] [] [] hcx (by kernel_rfl)

def F90_L (a0 : List (((Int × Int × Int) × (Int × Int × Int) × Int × Int × Int) × Int)) (a1 : Int × Int × Int) : Int :=
  (bif (((F32_L a0) : Int) != 0) then
   (F32_L a0)
  else
   (bif (!(F106 a1 64)) then
    1
   else
    0))

theorem C90_L (a0 : List (((Int × Int × Int) × (Int × Int × Int) × Int × Int × Int) × Int)) (a1 : Int × Int × Int) (l0 : a0.length ≤ 9223372036854775807) : Con Try.prog 90 [(.s 0 0 a0.length 10), (.a (k3 a1))] [(.live false true (flat c81 a0))] (iv (F90_L a0 a1)) [] := by
  refine con_s Try.func90 (by kernel_rfl) fun cx hcx => ?_
  let t0 : List (St Try.prog) := [.c [0] (C32_L a0 (by (try simp only [List.length_append, List.length_cons, List.length_nil, Int.toNat_zero]); omega))]
  cases h0 : (((F32_L a0) : Int) != 0) with
  | true =>
   have q0 := bne_iff_ne.1 h0
   have e := Eq.refl (F90_L a0 a1); conv at e => rhs; simp only [F90_L, h0, cond_true, cond_false]
   rw [e]
   exact rt (t0 ++ [.d h0]) [] [] hcx (by kernel_rfl)
  | false =>
   have q0 := bne_eq_false_iff_eq.1 h0
   let t1 : List (St Try.prog) := (t0 ++ [.d h0, .c [] (C106 a1 64)])
   cases h1 : (!(F106 a1 64)) with
   | true =>
    have e := Eq.refl (F90_L a0 a1); conv at e => rhs; simp only [F90_L, h0, h1, cond_true, cond_false]
    rw [e]
    exact rt (t1 ++ [.d h1]) [] [] hcx (by kernel_rfl)
   | false =>
    have e := Eq.refl (F90_L a0 a1); conv at e => rhs; simp only [F90_L, h0, h1, cond_true, cond_false]
    rw [e]
    exact rt (t1 ++ [.d h1]) [] [] hcx (by kernel_rfl)

noncomputable def B74_L_0 : Code := (loopAtD [1, 1, 1, 0, 1] [] (bodyOf Try.f74) []).1
noncomputable def K74_L_0 : List K := (loopAtD [1, 1, 1, 0, 1] [] (bodyOf Try.f74) []).2

def st74_L_0 (a0 : List (((Int × Int × Int) × (Int × Int × Int) × Int × Int × Int) × Int)) (a1 : Int × Int × Int) (v1 : Int) (v2 : Int) : LS := ⟨slN 49 [(3, (.p 1 0)), (7, (iv v1)), (19, (.s 0 0 a0.length 10)), (20, (iv ((a0.length : Nat) : Int))), (21, (iv v2))], [(.live false true (flat c81 a0)), (.live true false (k3 a1))]⟩

def S74_L_0 (a0 : List (((Int × Int × Int) × (Int × Int × Int) × Int × Int × Int) × Int)) (a1 : Int × Int × Int) : Int × Int → (Int × Int) ⊕ (Int × Int)
  | (v1, v2) =>
   (bif (decide ((v2 : Int) < ((a0.length : Nat) : Int))) then
    (.inl ((imx (imx (imx v1 (F92 (F91 (a0.getD (Int.toNat v2) default).1.1 a1) (F91 (a0.getD (Int.toNat v2) default).1.1 a1))) (F92 (F91 (a0.getD (Int.toNat v2) default).1.2.1 a1) (F91 (a0.getD (Int.toNat v2) default).1.2.1 a1))) (F92 (F91 (a0.getD (Int.toNat v2) default).1.2.2 a1) (F91 (a0.getD (Int.toNat v2) default).1.2.2 a1))), (v2 + 1)))
   else
    (.inr (v1, 0)))

set_option maxHeartbeats 4000000 in
theorem L74_L_0 (a0 : List (((Int × Int × Int) × (Int × Int × Int) × Int × Int × Int) × Int)) (a1 : Int × Int × Int) (l0 : a0.length ≤ 9223372036854775807) (hl : a0.length ≤ 1048576) {cx : Cx} (hcx : cx.base = 1) : ∀ (n : Nat) (v1 : Int) (v2 : Int), (0 ≤ v2) ∧ (v2 ≤ a0.length) → Int.toNat (((a0.length : Nat) : Int) - v2) < n → Aw.Good Try.prog none 9 (bodyPost Try.prog Try.f74 (RR cx (.t (k2 (loopF (S74_L_0 a0 a1) n (v1, v2)))) [] [])) cx [] (.l B74_L_0 n :: K74_L_0) (st74_L_0 a0 a1 v1 v2) := by
  intro n
  induction n with
  | zero => intro v1 v2 hi hn; exact absurd hn (Nat.not_lt_zero _)
  | succ n ih =>
    intro v1 v2 hi hn
    refine good_round ?_
    cases h0 : (decide ((v2 : Int) < ((a0.length : Nat) : Int))) with
    | true =>
     have q0 := of_decide_eq_true h0
     have e := Eq.refl (S74_L_0 a0 a1 (v1, v2)); conv at e => rhs; simp only [S74_L_0, h0, cond_true, cond_false]
     rw [loopF_inl e]
     refine ba [.d h0, .i v2 (a0.length), .L c81_len a0 v2 0 10, .u 200, .T, .i 0 3 (by decide), .c [] (C91 (a0.getD (Int.toNat v2) default).1.1 a1), .c [] (C92 (F91 (a0.getD (Int.toNat v2) default).1.1 a1) (F91 (a0.getD (Int.toNat v2) default).1.1 a1)), .u 0, .T, .i 1 3 (by decide), .c [] (C91 (a0.getD (Int.toNat v2) default).1.2.1 a1), .c [] (C92 (F91 (a0.getD (Int.toNat v2) default).1.2.1 a1) (F91 (a0.getD (Int.toNat v2) default).1.2.1 a1)), .u 0, .T, .i 2 3 (by decide), .c [] (C91 (a0.getD (Int.toNat v2) default).1.2.2 a1), .c [] (C92 (F91 (a0.getD (Int.toNat v2) default).1.2.2 a1) (F91 (a0.getD (Int.toNat v2) default).1.2.2 a1)), .u 0, .F] [] [3, 7, 19, 20, 21] [1] hcx (m := n) B74_L_0 (K74_L_0) (st74_L_0 a0 a1 (imx (imx (imx v1 (F92 (F91 (a0.getD (Int.toNat v2) default).1.1 a1) (F91 (a0.getD (Int.toNat v2) default).1.1 a1))) (F92 (F91 (a0.getD (Int.toNat v2) default).1.2.1 a1) (F91 (a0.getD (Int.toNat v2) default).1.2.1 a1))) (F92 (F91 (a0.getD (Int.toNat v2) default).1.2.2 a1) (F91 (a0.getD (Int.toNat v2) default).1.2.2 a1))) (W (v2 + 1))) (by kernel_rfl) ?_
     have z0 : (W (v2 + 1)) = (v2 + 1) := W_eq (by omega) (by omega)
     rw [z0]
     exact ih (imx (imx (imx v1 (F92 (F91 (a0.getD (Int.toNat v2) default).1.1 a1) (F91 (a0.getD (Int.toNat v2) default).1.1 a1))) (F92 (F91 (a0.getD (Int.toNat v2) default).1.2.1 a1) (F91 (a0.getD (Int.toNat v2) default).1.2.1 a1))) (F92 (F91 (a0.getD (Int.toNat v2) default).1.2.2 a1) (F91 (a0.getD (Int.toNat v2) default).1.2.2 a1))) (v2 + 1) (by refine ⟨?_, ?_⟩ <;> (try simp only [List.length_append, List.length_cons, List.length_nil, Int.toNat_zero]) <;> first | omega | assumption | simp) (by (try simp only [List.length_append, List.length_cons, List.length_nil, Int.toNat_zero]); omega)
    | false =>
     have q0 := of_decide_eq_false h0
     have e := Eq.refl (S74_L_0 a0 a1 (v1, v2)); conv at e => rhs; simp only [S74_L_0, h0, cond_true, cond_false]
     rw [loopF_s, e]
     exact rt [.d h0] [] [] hcx (by kernel_rfl)

def F74_L (a0 : List (((Int × Int × Int) × (Int × Int × Int) × Int × Int × Int) × Int)) (a1 : Int × Int × Int) : Int × Int :=
  (bif (((F90_L a0 a1) : Int) != 0) then
   (0, (F90_L a0 a1))
  else
   (loopF (S74_L_0 a0 a1) (Int.toNat (((a0.length : Nat) : Int) - 0) + 1) (0, 0)))

theorem C74_L (a0 : List (((Int × Int × Int) × (Int × Int × Int) × Int × Int × Int) × Int)) (a1 : Int × Int × Int) (l0 : a0.length ≤ 9223372036854775807) (hl : a0.length ≤ 1048576) : Con Try.prog 74 [(.s 0 0 a0.length 10), (.a (k3 a1))] [(.live false true (flat c81 a0))] (.t (k2 (F74_L a0 a1))) [] := by
  refine con_s Try.func74 (by kernel_rfl) fun cx hcx => ?_
  let t0 : List (St Try.prog) := [.c [0] (C90_L a0 a1 (by (try simp only [List.length_append, List.length_cons, List.length_nil, Int.toNat_zero]); omega))]
  cases h0 : (((F90_L a0 a1) : Int) != 0) with
  | true =>
   have q0 := bne_iff_ne.1 h0
   have e := Eq.refl (F74_L a0 a1); conv at e => rhs; simp only [F74_L, h0, cond_true, cond_false]
   rw [e]
   exact rt (t0 ++ [.d h0]) [] [] hcx (by kernel_rfl)
  | false =>
   have q0 := bne_eq_false_iff_eq.1 h0
   have e := Eq.refl (F74_L a0 a1); conv at e => rhs; simp only [F74_L, h0, cond_true, cond_false]
   rw [e]
   refine en (t0 ++ [.d h0]) [] [3, 7, 19, 20, 21] [1] hcx B74_L_0 (K74_L_0) (st74_L_0 a0 a1 0 0) (Int.toNat (((a0.length : Nat) : Int) - 0) + 1) (by kernel_rfl) ?_
   exact L74_L_0 a0 a1 l0 hl hcx (Int.toNat (((a0.length : Nat) : Int) - 0) + 1) 0 0 (by refine ⟨?_, ?_⟩ <;> (try simp only [List.length_append, List.length_cons, List.length_nil, Int.toNat_zero]) <;> first | omega | assumption | simp) (by (try simp only [List.length_append, List.length_cons, List.length_nil, Int.toNat_zero]); omega)

end Go.Proofs.Ytnbpiejjeeomkaa

namespace Go.Proofs.Ytnbpiejjeeomkaa
open Go.Proofs Go.Aw Go.RowKit
set_option maxRecDepth 100000
set_option linter.unusedVariables false
set_option linter.unusedSimpArgs false

noncomputable def B76_L_1 : Code := (loopAtD [1, 1, 0, 1, 0, 1, 1, 0, 1, 1, 0, 1] [0] (bodyOf Try.f76) []).1
noncomputable def K76_L_1 (m0 : Nat) : List K := (loopAtD [1, 1, 0, 1, 0, 1, 1, 0, 1, 1, 0, 1] [m0] (bodyOf Try.f76) []).2

def st76_L_1 (a0 : (List (((Int × Int × Int) × (Int × Int × Int) × Int × Int × Int) × Int)) × Int × List (Int) × List (Int × Int × Int × Int × (Int × Int × Int) × Int)) (a1 : List (Int)) (v15 : Int) (v16 : Int) (v17 : Int) (v18 : Int) (v19 : Int) (v20 : Int) (v21 : Int) : LS := ⟨slN 59 [(0, (.p 0 0)), (1, (.s 4 0 a1.length 1)), (4, (.p 5 0)), (5, (iv v15)), (6, (iv v16)), (7, (iv v17)), (8, (iv v18)), (9, (iv v19)), (12, (iv v20)), (27, (.s 4 0 a1.length 1)), (28, (iv ((a1.length : Nat) : Int))), (29, (iv v21))], [(.live false false [(.s 1 0 a0.1.length 10), (iv a0.2.1), (.s 2 0 a0.2.2.1.length 1), (.s 3 0 a0.2.2.2.length 8)]), (.live false true (flat c81 a0.1)), (.live false true (flat c3 a0.2.2.1)), (.live false true (flat c40 a0.2.2.2)), (.live false true (flat c3 a1)), (.live true false [(.v (.pointer none)), (iv 0)])]⟩

def S76_L_1 (a0 : (List (((Int × Int × Int) × (Int × Int × Int) × Int × Int × Int) × Int)) × Int × List (Int) × List (Int × Int × Int × Int × (Int × Int × Int) × Int)) (a1 : List (Int)) : Int × Int × Int × Int × Int × Int × Int → (Int × Int × Int × Int × Int × Int × Int) ⊕ ((Int × Int × Int) ⊕ (((List (((Int × Int × Int) × (Int × Int × Int) × Int × Int × Int) × Int)) × Int × List (Int) × List (Int × Int × Int × Int × (Int × Int × Int) × Int)) × Int))
  | (v15, v16, v17, v18, v19, v20, v21) =>
   (bif (decide ((v21 : Int) < ((a1.length : Nat) : Int))) then
    (.inl (v15, v16, v17, (if ((F95 (a0.1, a0.2.1, (a0.2.2.1, a0.2.2.2)) (a1.getD (Int.toNat v21) default) v17) : Int) < v18 then (F95 (a0.1, a0.2.1, (a0.2.2.1, a0.2.2.2)) (a1.getD (Int.toNat v21) default) v17) else v18), (if (v19 : Int) < (F95 (a0.1, a0.2.1, (a0.2.2.1, a0.2.2.2)) (a1.getD (Int.toNat v21) default) v17) then (F95 (a0.1, a0.2.1, (a0.2.2.1, a0.2.2.2)) (a1.getD (Int.toNat v21) default) v17) else v19), v20, (v21 + 1)))
   else
    (bif (decide (((W (v19 - v18)) : Int) > v16)) then
     (.inr (.inl (v17, (W (v19 - v18)), (v20 + 1))))
    else
     (.inr (.inl (v15, v16, (v20 + 1))))))

noncomputable def B76_L_0 : Code := (loopAtD [1, 1, 0, 1] [] (bodyOf Try.f76) []).1
noncomputable def K76_L_0 : List K := (loopAtD [1, 1, 0, 1] [] (bodyOf Try.f76) []).2

def st76_L_0 (a0 : (List (((Int × Int × Int) × (Int × Int × Int) × Int × Int × Int) × Int)) × Int × List (Int) × List (Int × Int × Int × Int × (Int × Int × Int) × Int)) (a1 : List (Int)) (v12 : Int) (v13 : Int) (v14 : Int) : LS := ⟨slN 59 [(0, (.p 0 0)), (1, (.s 4 0 a1.length 1)), (4, (.p 5 0)), (5, (iv v12)), (6, (iv v13)), (12, (iv v14))], [(.live false false [(.s 1 0 a0.1.length 10), (iv a0.2.1), (.s 2 0 a0.2.2.1.length 1), (.s 3 0 a0.2.2.2.length 8)]), (.live false true (flat c81 a0.1)), (.live false true (flat c3 a0.2.2.1)), (.live false true (flat c40 a0.2.2.2)), (.live false true (flat c3 a1)), (.live true false [(.v (.pointer none)), (iv 0)])]⟩

def S76_L_0 (a0 : (List (((Int × Int × Int) × (Int × Int × Int) × Int × Int × Int) × Int)) × Int × List (Int) × List (Int × Int × Int × Int × (Int × Int × Int) × Int)) (a1 : List (Int)) : Int × Int × Int → (Int × Int × Int) ⊕ (((List (((Int × Int × Int) × (Int × Int × Int) × Int × Int × Int) × Int)) × Int × List (Int) × List (Int × Int × Int × Int × (Int × Int × Int) × Int)) × Int)
  | (v12, v13, v14) =>
   (bif (decide ((v14 : Int) < 3)) then
    (loopF (S76_L_1 a0 a1) (Int.toNat (((a1.length : Nat) : Int) - 0) + 1) (v12, v13, v14, (F95 (a0.1, a0.2.1, (a0.2.2.1, a0.2.2.2)) (a1.getD (Int.toNat 0) default) v14), (F95 (a0.1, a0.2.1, (a0.2.2.1, a0.2.2.2)) (a1.getD (Int.toNat 0) default) v14), v14, 0))
   else
    (.inr ((a0.1, a0.2.1, (a0.2.2.1, a0.2.2.2)), v12)))

set_option maxHeartbeats 4000000 in
theorem L76_L_1 (a0 : (List (((Int × Int × Int) × (Int × Int × Int) × Int × Int × Int) × Int)) × Int × List (Int) × List (Int × Int × Int × Int × (Int × Int × Int) × Int)) (a1 : List (Int)) (l0_1 : a0.1.length ≤ 9223372036854775807) (l0_2_2_1 : a0.2.2.1.length ≤ 9223372036854775807) (l0_2_2_2 : a0.2.2.2.length ≤ 9223372036854775807) (l1 : a1.length ≤ 9223372036854775807) (hir : InR a0.1.length a1) (hl : 1 ≤ a1.length ∧ a1.length ≤ 1048576) {cx : Cx} (hcx : cx.base = 5)
    (n0 : Nat) (g0 : ∀ (v12 : Int) (v13 : Int) (v14 : Int), (0 ≤ v14) ∧ (v14 ≤ 3) → Int.toNat (3 - v14) < n0 → Aw.Good Try.prog none 9 (bodyPost Try.prog Try.f76 (RR cx (.a [(.p 0 0), (iv (loopF (S76_L_0 a0 a1) n0 (v12, v13, v14)).2)]) [] [])) cx [] (.l B76_L_0 n0 :: K76_L_0) (st76_L_0 a0 a1 v12 v13 v14)) : ∀ (n : Nat) (v15 : Int) (v16 : Int) (v17 : Int) (v18 : Int) (v19 : Int) (v20 : Int) (v21 : Int), (0 ≤ v21) ∧ (v21 ≤ a1.length) ∧ ((0 ≤ v20)) ∧ ((v20 ≤ 3)) ∧ (v20 < 3) ∧ (Int.toNat (3 - v20) < n0 + 1) → Int.toNat (((a1.length : Nat) : Int) - v21) < n → Aw.Good Try.prog none 9 (bodyPost Try.prog Try.f76 (RR cx (.a [(.p 0 0), (iv (thenF (S76_L_0 a0 a1) n0 (loopF (S76_L_1 a0 a1) n (v15, v16, v17, v18, v19, v20, v21))).2)]) [] [])) cx [] (.l B76_L_1 n :: K76_L_1 n0) (st76_L_1 a0 a1 v15 v16 v17 v18 v19 v20 v21) := by
  intro n
  induction n with
  | zero => intro v15 v16 v17 v18 v19 v20 v21 hi hn; exact absurd hn (Nat.not_lt_zero _)
  | succ n ih =>
    intro v15 v16 v17 v18 v19 v20 v21 hi hn
    refine good_round ?_
    try have hr1 := hir.at (i := Int.toNat v21) (by have _ := h0; omega)
    cases h0 : (decide ((v21 : Int) < ((a1.length : Nat) : Int))) with
    | true =>
     have q0 := of_decide_eq_true h0
     try have hr1 := hir.at (i := Int.toNat v21) (by have _ := h0; omega)
     have e := Eq.refl (S76_L_1 a0 a1 (v15, v16, v17, v18, v19, v20, v21)); conv at e => rhs; simp only [S76_L_1, h0, cond_true, cond_false]
     rw [loopF_inl e]
     refine ba [.d h0, .i v21 (a1.length), .L c3_len a1 v21 0 1, .c [0, 1, 2, 3] (C95 (a0.1, a0.2.1, (a0.2.2.1, a0.2.2.2)) (a1.getD (Int.toNat v21) default) v17 (by (try simp only [List.length_append, List.length_cons, List.length_nil, Int.toNat_zero]); omega) (by (try simp only [List.length_append, List.length_cons, List.length_nil, Int.toNat_zero]); omega) (by (try simp only [List.length_append, List.length_cons, List.length_nil, Int.toNat_zero]); omega) (by (try simp only [List.length_append, List.length_cons, List.length_nil, Int.toNat_zero]); omega)), .c [0, 1, 2, 3] (C95 (a0.1, a0.2.1, (a0.2.2.1, a0.2.2.2)) (a1.getD (Int.toNat v21) default) v17 (by (try simp only [List.length_append, List.length_cons, List.length_nil, Int.toNat_zero]); omega) (by (try simp only [List.length_append, List.length_cons, List.length_nil, Int.toNat_zero]); omega) (by (try simp only [List.length_append, List.length_cons, List.length_nil, Int.toNat_zero]); omega) (by (try simp only [List.length_append, List.length_cons, List.length_nil, Int.toNat_zero]); omega))] [] [0, 1, 4, 5, 6, 7, 8, 9, 12, 27, 28, 29] [5] hcx (m := n) B76_L_1 (K76_L_1 n0) (st76_L_1 a0 a1 v15 v16 v17 (if ((F95 (a0.1, a0.2.1, (a0.2.2.1, a0.2.2.2)) (a1.getD (Int.toNat v21) default) v17) : Int) < v18 then (F95 (a0.1, a0.2.1, (a0.2.2.1, a0.2.2.2)) (a1.getD (Int.toNat v21) default) v17) else v18) (if (v19 : Int) < (F95 (a0.1, a0.2.1, (a0.2.2.1, a0.2.2.2)) (a1.getD (Int.toNat v21) default) v17) then (F95 (a0.1, a0.2.1, (a0.2.2.1, a0.2.2.2)) (a1.getD (Int.toNat v21) default) v17) else v19) v20 (W (v21 + 1))) (by kernel_rfl) ?_
     have z0 : (W (v21 + 1)) = (v21 + 1) := W_eq (by omega) (by omega)
     rw [z0]
     exact ih v15 v16 v17 (if ((F95 (a0.1, a0.2.1, (a0.2.2.1, a0.2.2.2)) (a1.getD (Int.toNat v21) default) v17) : Int) < v18 then (F95 (a0.1, a0.2.1, (a0.2.2.1, a0.2.2.2)) (a1.getD (Int.toNat v21) default) v17) else v18) (if (v19 : Int) < (F95 (a0.1, a0.2.1, (a0.2.2.1, a0.2.2.2)) (a1.getD (Int.toNat v21) default) v17) then (F95 (a0.1, a0.2.1, (a0.2.2.1, a0.2.2.2)) (a1.getD (Int.toNat v21) default) v17) else v19) v20 (v21 + 1) (by refine ⟨?_, ?_, ?_, ?_, ?_, ?_⟩ <;> (try simp only [List.length_append, List.length_cons, List.length_nil, Int.toNat_zero]) <;> first | omega | assumption | exact hi.2.1 | exact hi.2.2.1 | exact hi.2.2.2.1 | exact hi.2.2.2.2.1 | exact hi.2.2.2.2.2.1 | simp) (by (try simp only [List.length_append, List.length_cons, List.length_nil, Int.toNat_zero]); omega)
    | false =>
     have q0 := of_decide_eq_false h0
     try have hr1 := hir.at (i := Int.toNat v21) (by have _ := h0; omega)
     let t1 : List (St Try.prog) := [.d h0]
     cases h1 : (decide (((W (v19 - v18)) : Int) > v16)) with
     | true =>
      have q1 := of_decide_eq_true h1
      try have hr1 := hir.at (i := Int.toNat v21) (by have _ := h0; omega)
      have e := Eq.refl (S76_L_1 a0 a1 (v15, v16, v17, v18, v19, v20, v21)); conv at e => rhs; simp only [S76_L_1, h0, h1, cond_true, cond_false]
      rw [loopF_s, e]
      refine ba (t1 ++ [.d h1]) [] [0, 1, 4, 5, 6, 12] [5] hcx (m := n0) B76_L_0 (K76_L_0) (st76_L_0 a0 a1 v17 (W (v19 - v18)) (W (v20 + 1))) (by kernel_rfl) ?_
      have z0 : (W (v20 + 1)) = (v20 + 1) := W_eq (by omega) (by omega)
      rw [z0]
      exact g0 v17 (W (v19 - v18)) (v20 + 1) (by refine ⟨?_, ?_⟩ <;> (try simp only [List.length_append, List.length_cons, List.length_nil, Int.toNat_zero]) <;> first | omega | assumption | simp) (by (try simp only [List.length_append, List.length_cons, List.length_nil, Int.toNat_zero]); omega)
     | false =>
      have q1 := of_decide_eq_false h1
      try have hr1 := hir.at (i := Int.toNat v21) (by have _ := h0; omega)
      have e := Eq.refl (S76_L_1 a0 a1 (v15, v16, v17, v18, v19, v20, v21)); conv at e => rhs; simp only [S76_L_1, h0, h1, cond_true, cond_false]
      rw [loopF_s, e]
      refine ba (t1 ++ [.d h1]) [] [0, 1, 4, 5, 6, 12] [5] hcx (m := n0) B76_L_0 (K76_L_0) (st76_L_0 a0 a1 v15 v16 (W (v20 + 1))) (by kernel_rfl) ?_
      have z0 : (W (v20 + 1)) = (v20 + 1) := W_eq (by omega) (by omega)
      rw [z0]
      exact g0 v15 v16 (v20 + 1) (by refine ⟨?_, ?_⟩ <;> (try simp only [List.length_append, List.length_cons, List.length_nil, Int.toNat_zero]) <;> first | omega | assumption | simp) (by (try simp only [List.length_append, List.length_cons, List.length_nil, Int.toNat_zero]); omega)

set_option maxHeartbeats 4000000 in
theorem L76_L_0 (a0 : (List (((Int × Int × Int) × (Int × Int × Int) × Int × Int × Int) × Int)) × Int × List (Int) × List (Int × Int × Int × Int × (Int × Int × Int) × Int)) (a1 : List (Int)) (l0_1 : a0.1.length ≤ 9223372036854775807) (l0_2_2_1 : a0.2.2.1.length ≤ 9223372036854775807) (l0_2_2_2 : a0.2.2.2.length ≤ 9223372036854775807) (l1 : a1.length ≤ 9223372036854775807) (hir : InR a0.1.length a1) (hl : 1 ≤ a1.length ∧ a1.length ≤ 1048576) {cx : Cx} (hcx : cx.base = 5) : ∀ (n : Nat) (v12 : Int) (v13 : Int) (v14 : Int), (0 ≤ v14) ∧ (v14 ≤ 3) → Int.toNat (3 - v14) < n → Aw.Good Try.prog none 9 (bodyPost Try.prog Try.f76 (RR cx (.a [(.p 0 0), (iv (loopF (S76_L_0 a0 a1) n (v12, v13, v14)).2)]) [] [])) cx [] (.l B76_L_0 n :: K76_L_0) (st76_L_0 a0 a1 v12 v13 v14) := by
  intro n
  induction n with
  | zero => intro v12 v13 v14 hi hn; exact absurd hn (Nat.not_lt_zero _)
  | succ n ih =>
    intro v12 v13 v14 hi hn
    refine good_round ?_
    have hr0 := hir.at (i := 0) (by omega)
    cases h0 : (decide ((v14 : Int) < 3)) with
    | true =>
     have q0 := of_decide_eq_true h0
     have e := Eq.refl (S76_L_0 a0 a1 (v12, v13, v14)); conv at e => rhs; simp only [S76_L_0, h0, cond_true, cond_false]
     rw [loopF_s, e]
     refine en [.d h0, .i 0 (a1.length), .L c3_len a1 0 0 1, .c [0, 1, 2, 3] (C95 (a0.1, a0.2.1, (a0.2.2.1, a0.2.2.2)) (a1.getD (Int.toNat 0) default) v14 (by (try simp only [List.length_append, List.length_cons, List.length_nil, Int.toNat_zero]); omega) (by (try simp only [List.length_append, List.length_cons, List.length_nil, Int.toNat_zero]); omega) (by (try simp only [List.length_append, List.length_cons, List.length_nil, Int.toNat_zero]); omega) (by (try simp only [List.length_append, List.length_cons, List.length_nil, Int.toNat_zero]); omega)), .i 0 (a1.length), .L c3_len a1 0 0 1, .c [0, 1, 2, 3] (C95 (a0.1, a0.2.1, (a0.2.2.1, a0.2.2.2)) (a1.getD (Int.toNat 0) default) v14 (by (try simp only [List.length_append, List.length_cons, List.length_nil, Int.toNat_zero]); omega) (by (try simp only [List.length_append, List.length_cons, List.length_nil, Int.toNat_zero]); omega) (by (try simp only [List.length_append, List.length_cons, List.length_nil, Int.toNat_zero]); omega) (by (try simp only [List.length_append, List.length_cons, List.length_nil, Int.toNat_zero]); omega))] [] [0, 1, 4, 5, 6, 7, 8, 9, 12, 27, 28, 29] [5] hcx B76_L_1 (K76_L_1 n) (st76_L_1 a0 a1 v12 v13 v14 (F95 (a0.1, a0.2.1, (a0.2.2.1, a0.2.2.2)) (a1.getD (Int.toNat 0) default) v14) (F95 (a0.1, a0.2.1, (a0.2.2.1, a0.2.2.2)) (a1.getD (Int.toNat 0) default) v14) v14 0) (Int.toNat (((a1.length : Nat) : Int) - 0) + 1) (by kernel_rfl) ?_
     exact L76_L_1 a0 a1 l0_1 l0_2_2_1 l0_2_2_2 l1 hir hl hcx n ih (Int.toNat (((a1.length : Nat) : Int) - 0) + 1) v12 v13 v14 (F95 (a0.1, a0.2.1, (a0.2.2.1, a0.2.2.2)) (a1.getD (Int.toNat 0) default) v14) (F95 (a0.1, a0.2.1, (a0.2.2.1, a0.2.2.2)) (a1.getD (Int.toNat 0) default) v14) v14 0 (by refine ⟨?_, ?_, ?_, ?_, ?_, ?_⟩ <;> (try simp only [List.length_append, List.length_cons, List.length_nil, Int.toNat_zero]) <;> first | omega | assumption | exact hi.2.1 | exact hi.2.2.1 | exact hi.2.2.2.1 | exact hi.2.2.2.2.1 | exact hi.2.2.2.2.2.1 | simp) (by (try simp only [List.length_append, List.length_cons, List.length_nil, Int.toNat_zero]); omega)
    | false =>
     have q0 := of_decide_eq_false h0
     have e := Eq.refl (S76_L_0 a0 a1 (v12, v13, v14)); conv at e => rhs; simp only [S76_L_0, h0, cond_true, cond_false]
     rw [loopF_s, e]
     exact rt [.d h0] [] [] hcx (by kernel_rfl)

def F76_L (a0 : (List (((Int × Int × Int) × (Int × Int × Int) × Int × Int × Int) × Int)) × Int × List (Int) × List (Int × Int × Int × Int × (Int × Int × Int) × Int)) (a1 : List (Int)) : ((List (((Int × Int × Int) × (Int × Int × Int) × Int × Int × Int) × Int)) × Int × List (Int) × List (Int × Int × Int × Int × (Int × Int × Int) × Int)) × Int :=
  (loopF (S76_L_0 a0 a1) (Int.toNat (3 - 0) + 1) (0, (-1), 0))

theorem C76_L (a0 : (List (((Int × Int × Int) × (Int × Int × Int) × Int × Int × Int) × Int)) × Int × List (Int) × List (Int × Int × Int × Int × (Int × Int × Int) × Int)) (a1 : List (Int)) (l0_1 : a0.1.length ≤ 9223372036854775807) (l0_2_2_1 : a0.2.2.1.length ≤ 9223372036854775807) (l0_2_2_2 : a0.2.2.2.length ≤ 9223372036854775807) (l1 : a1.length ≤ 9223372036854775807) (hir : InR a0.1.length a1) (hl : 1 ≤ a1.length ∧ a1.length ≤ 1048576) : Con Try.prog 76 [(.p 0 0), (.s 4 0 a1.length 1)] [(.live false false [(.s 1 0 a0.1.length 10), (iv a0.2.1), (.s 2 0 a0.2.2.1.length 1), (.s 3 0 a0.2.2.2.length 8)]), (.live false true (flat c81 a0.1)), (.live false true (flat c3 a0.2.2.1)), (.live false true (flat c40 a0.2.2.2)), (.live false true (flat c3 a1))] (.a [(.p 0 0), (iv (F76_L a0 a1).2)]) [] := by
  refine con_s Try.func76 (by kernel_rfl) fun cx hcx => ?_
  have e := Eq.refl (F76_L a0 a1); conv at e => rhs; simp only [F76_L]
  rw [e]
  refine en [] [] [0, 1, 4, 5, 6, 12] [5] hcx B76_L_0 (K76_L_0) (st76_L_0 a0 a1 0 (-1) 0) (Int.toNat (3 - 0) + 1) (by kernel_rfl) ?_
  exact L76_L_0 a0 a1 l0_1 l0_2_2_1 l0_2_2_2 l1 hir hl hcx (Int.toNat (3 - 0) + 1) 0 (-1) 0 (by refine ⟨?_, ?_⟩ <;> (try simp only [List.length_append, List.length_cons, List.length_nil, Int.toNat_zero]) <;> first | omega | assumption | simp) (by (try simp only [List.length_append, List.length_cons, List.length_nil, Int.toNat_zero]); omega)

end Go.Proofs.Ytnbpiejjeeomkaa

namespace Go.Proofs.Ytnbpiejjeeomkaa
open Go.Proofs Go.Aw Go.RowKit
set_option maxRecDepth 100000
set_option linter.unusedVariables false
set_option linter.unusedSimpArgs false

/-! ### What is asked of the tree's builder -/
abbrev BU := (List ((((Int × Int × Int) × (Int × Int × Int) × Int × Int × Int) × Int))) × Int × List Int × List (Int × Int × Int × Int × (Int × Int × Int) × Int)
structure PADD (b : BU) (i k : Int) : Prop where
  inr : InR b.1.length b.2.2.1
  rng : 0 ≤ i ∧ i < k ∧ k ≤ b.2.2.1.length ∧ b.2.2.1.length ≤ 1048576
  nds : b.2.2.2.length + 2 * (k - i) ≤ 4194304
  lf : 1 ≤ b.2.1
  few : k - i ≤ 12
theorem InR.part {n : Nat} {l : List Int} (h : InR n l) (a b : Int) : InR n (Aw.part l a b) := fun x hx => h x (List.mem_of_mem_drop (List.mem_of_mem_take hx))
theorem InR.atD {n : Nat} {l : List Int} (h : InR n l) (h0 : 0 < n) (i : Nat) : 0 ≤ l.getD i default ∧ l.getD i default < (n : Int) := by
  by_cases hi : i < l.length
  · exact h.at hi
  · rw [List.getD_eq_getElem?_getD, List.getElem?_eq_none (by omega)]
    exact ⟨Int.le_refl _, by show (0 : Int) < n; omega⟩
theorem InR.swapD {n : Nat} {l : List Int} (h : InR n l) (h0 : 0 < n) {i j p q : Nat} : InR n ((l.set i (l.getD p default)).set j (l.getD q default)) := (h.set (h.atD h0 p)).set (h.atD h0 q)
theorem mem_loop {a0 : List (((Int × Int × Int) × (Int × Int × Int) × Int × Int × Int) × Int)} {a1 : List Int} : ∀ (d i n : Nat) (m : List (((Int × Int × Int) × (Int × Int × Int) × Int × Int × Int) × Int)), d = a1.length - i → i ≤ a1.length → d < n →
    loopF (S72_L_L_0 a0 a1) n (m, (i : Int)) = m ++ (a1.drop i).map (fun a => a0.getD (Int.toNat a) default)
  | 0, i, n, m, hd, hi, hn => by
    obtain ⟨n, rfl⟩ : ∃ m, n = m + 1 := ⟨n - 1, by omega⟩
    have : i = a1.length := by omega
    subst this
    have e : S72_L_L_0 a0 a1 (m, ((a1.length : Nat) : Int)) = .inr m := by
      simp only [S72_L_L_0]; rw [decide_eq_false (Int.lt_irrefl _), cond_false]
    rw [loopF_inr e]; simp
  | d + 1, i, n, m, hd, hi, hn => by
    obtain ⟨n, rfl⟩ : ∃ m, n = m + 1 := ⟨n - 1, by omega⟩
    have e : S72_L_L_0 a0 a1 (m, (i : Int)) = .inl (m ++ [a0.getD (Int.toNat (a1.getD i default)) default], ((i + 1 : Nat) : Int)) := by
      simp only [S72_L_L_0]
      rw [decide_eq_true (show ((i : Nat) : Int) < (a1.length : Nat) by omega), cond_true, Int.toNat_natCast]; rfl
    rw [loopF_inl e, mem_loop d (i + 1) n _ (by omega) (by omega) (by omega), List.drop_eq_getElem_cons (show i < a1.length by omega), List.map_cons]
    simp [List.getD_eq_getElem?_getD, List.getElem?_eq_getElem (show i < a1.length by omega)]
theorem mem_eq (a0 : List (((Int × Int × Int) × (Int × Int × Int) × Int × Int × Int) × Int)) (a1 : List Int) : F72_L_L a0 a1 = a1.map (fun a => a0.getD (Int.toNat a) default) := by
  have := mem_loop (a0 := a0) (a1 := a1) a1.length 0 (Int.toNat (((a1.length : Nat) : Int) - 0) + 1) [] (by omega) (by omega) (by omega)
  exact this
theorem mem_len (a0 : List (((Int × Int × Int) × (Int × Int × Int) × Int × Int × Int) × Int)) (a1 : List Int) : (F72_L_L a0 a1).length = a1.length := by rw [mem_eq]; simp
section
variable {N L : Nat} {a0 : List Int} {o m : Nat} {a1 a2 : Int} {c : BU × Int}
theorem ins_in1 (h0 : 0 < N) (ha : 0 ≤ a1) : ∀ (n : Nat) (v : List Int) (w j : Int), Int.toNat (j - a1) < n → j ≤ 1048576 → v.length = L → InR N v →
    match loopF (S107_W_b77_1 a0 o m a1 a2 c) n (v, w, j) with
    | .inl (v, w2) => v.length = L ∧ InR N v ∧ w2 = w + 1
    | .inr v => v.length = L ∧ InR N v
  | 0, v, w, j, hn, _, _, _ => absurd hn (Nat.not_lt_zero _)
  | n + 1, v, w, j, hn, hj, hl, hi => by
    cases e : S107_W_b77_1 a0 o m a1 a2 c (v, w, j) with
    | inr r =>
      rw [loopF_inr e]
      simp only [S107_W_b77_1] at e
      by_cases h1 : j > a1
      · rw [decide_eq_true h1, cond_true, Bool.cond_eq_ite] at e
        split at e
        · cases e
        · cases e; exact ⟨hl, hi, rfl⟩
      · rw [decide_eq_false h1, cond_false] at e; cases e; exact ⟨hl, hi, rfl⟩
    | inl u =>
      rw [loopF_inl e]
      simp only [S107_W_b77_1] at e
      by_cases h1 : j > a1
      · rw [decide_eq_true h1, cond_true, Bool.cond_eq_ite] at e
        split at e
        · cases e
          rw [W_eq (n := j - 1) (by omega) (by omega)]
          exact ins_in1 h0 ha n _ w (j - 1) (by omega) (by omega) (by simpa using hl) (hi.swapD h0)
        · cases e
      · rw [decide_eq_false h1, cond_false] at e; cases e
theorem ins_in0 (h0 : 0 < N) (ha : 0 ≤ a1) (hb : a2 ≤ 1048576) : ∀ (n : Nat) (v : List Int) (w : Int), Int.toNat (a2 - w) < n → v.length = L → InR N v →
    (loopF (S107_W_b77_0 a0 o m a1 a2 c) n (v, w)).length = L ∧ InR N (loopF (S107_W_b77_0 a0 o m a1 a2 c) n (v, w))
  | 0, v, w, hn, _, _ => absurd hn (Nat.not_lt_zero _)
  | n + 1, v, w, hn, hl, hi => by
    by_cases h1 : w < a2
    · have h := ins_in1 (a0 := a0) (o := o) (m := m) (a2 := a2) (c := c) h0 ha (Int.toNat (w - a1) + 1) v w w (by omega) (by omega) hl hi
      have e : S107_W_b77_0 a0 o m a1 a2 c (v, w) = loopF (S107_W_b77_1 a0 o m a1 a2 c) (Int.toNat (w - a1) + 1) (v, w, w) := by
        simp only [S107_W_b77_0]; rw [decide_eq_true h1, cond_true]
      cases q : loopF (S107_W_b77_1 a0 o m a1 a2 c) (Int.toNat (w - a1) + 1) (v, w, w) with
      | inr r => rw [loopF_inr (e.trans q)]; rw [q] at h; exact h
      | inl u =>
        obtain ⟨u1, u2⟩ := u
        rw [loopF_inl (e.trans q)]; rw [q] at h
        obtain ⟨g1, g2, g3⟩ := h
        subst g3
        exact ins_in0 h0 ha hb n u1 (w + 1) (by omega) g1 g2
    · have e : S107_W_b77_0 a0 o m a1 a2 c (v, w) = .inr v := by
        simp only [S107_W_b77_0]; rw [decide_eq_false h1, cond_false]
      rw [loopF_inr e]; exact ⟨hl, hi⟩
end
theorem srt_in {N : Nat} {l : List Int} {o m : Nat} {c : BU × Int} (h0 : 0 < N) (hm : m ≤ 12) (hi : InR N l) : (F75_W_b77 l o m c).length = l.length ∧ InR N (F75_W_b77 l o m c) := by
  unfold F75_W_b77 F93_W_b77
  have e : ∀ c2 l2, S93_W_b77_0 l o m 0 ((m : Nat) : Int) l2 c2 () = .inr (F107_W_b77 l o m 0 ((m : Nat) : Int) ((c2.1.1, c2.1.2.1, (l, c2.1.2.2.2)), c2.2)) := fun c2 l2 => by
    simp only [S93_W_b77_0]
    rw [decide_eq_true (show W (((m : Nat) : Int) - 0) ≤ 12 by rw [W_eq (by omega) (by omega)]; omega), cond_true]
  rw [loopF_inr (e _ _)]
  unfold F107_W_b77
  exact ins_in0 h0 (by omega) (by omega) _ l _ (by omega) rfl hi
theorem mid_eq {i k : Int} (h : 0 ≤ i ∧ i < k ∧ k ≤ 1048576) : (W (i + (W (Int.tdiv (W ((W (k - i)) + 1)) 2)))) = i + (k - i + 1) / 2 := by
  rw [W_eq (n := k - i) (by omega) (by omega), W_eq (n := k - i + 1) (by omega) (by omega), Int.tdiv_eq_ediv_of_nonneg (by omega), W_eq (n := (k - i + 1) / 2) (by omega) (by omega), W_eq (by omega) (by omega)]

def A57_1 (a0 : (List (((Int × Int × Int) × (Int × Int × Int) × Int × Int × Int) × Int)) × Int × List (Int) × List (Int × Int × Int × Int × (Int × Int × Int) × Int)) (a1 : Int) (a2 : Int) := (F72_L_L a0.1 (Aw.part (a0.2.2.1) a1 a2))

def A57_2 (a0 : (List (((Int × Int × Int) × (Int × Int × Int) × Int × Int × Int) × Int)) × Int × List (Int) × List (Int × Int × Int × Int × (Int × Int × Int) × Int)) (a1 : Int) (a2 : Int) := (F74_L (A57_1 a0 a1 a2) (F73_L (A57_1 a0 a1 a2)))

def A57_3 (a0 : (List (((Int × Int × Int) × (Int × Int × Int) × Int × Int × Int) × Int)) × Int × List (Int) × List (Int × Int × Int × Int × (Int × Int × Int) × Int)) (a1 : Int) (a2 : Int) := (F76_L (a0.1, a0.2.1, (a0.2.2.1, (a0.2.2.2 ++ [(a1, a2, (-1), (-1), (F73_L (A57_1 a0 a1 a2)), (A57_2 a0 a1 a2).1)]))) (Aw.part (a0.2.2.1) a1 a2))

def A57_4 (a0 : (List (((Int × Int × Int) × (Int × Int × Int) × Int × Int × Int) × Int)) × Int × List (Int) × List (Int × Int × Int × Int × (Int × Int × Int) × Int)) (a1 : Int) (a2 : Int) := (F75_W_b77 (a0.2.2.1) (Int.toNat a1) (Int.toNat a2 - Int.toNat a1) ((a0.1, a0.2.1, (a0.2.2.1, (a0.2.2.2 ++ [(a1, a2, (-1), (-1), (F73_L (A57_1 a0 a1 a2)), (A57_2 a0 a1 a2).1)]))), (A57_3 a0 a1 a2).2))

def A57_5 (rr : ((List (((Int × Int × Int) × (Int × Int × Int) × Int × Int × Int) × Int)) × Int × List (Int) × List (Int × Int × Int × Int × (Int × Int × Int) × Int)) → (Int) → (Int) → Int × (List (((Int × Int × Int) × (Int × Int × Int) × Int × Int × Int) × Int)) × Int × List (Int) × List (Int × Int × Int × Int × (Int × Int × Int) × Int)) (a0 : (List (((Int × Int × Int) × (Int × Int × Int) × Int × Int × Int) × Int)) × Int × List (Int) × List (Int × Int × Int × Int × (Int × Int × Int) × Int)) (a1 : Int) (a2 : Int) := (rr (a0.1, a0.2.1, ((A57_4 a0 a1 a2), (a0.2.2.2 ++ [(a1, a2, (-1), (-1), (F73_L (A57_1 a0 a1 a2)), (A57_2 a0 a1 a2).1)]))) a1 (W (a1 + (W (Int.tdiv (W ((W (a2 - a1)) + 1)) 2)))))

def A57_6 (rr : ((List (((Int × Int × Int) × (Int × Int × Int) × Int × Int × Int) × Int)) × Int × List (Int) × List (Int × Int × Int × Int × (Int × Int × Int) × Int)) → (Int) → (Int) → Int × (List (((Int × Int × Int) × (Int × Int × Int) × Int × Int × Int) × Int)) × Int × List (Int) × List (Int × Int × Int × Int × (Int × Int × Int) × Int)) (a0 : (List (((Int × Int × Int) × (Int × Int × Int) × Int × Int × Int) × Int)) × Int × List (Int) × List (Int × Int × Int × Int × (Int × Int × Int) × Int)) (a1 : Int) (a2 : Int) := (rr (a0.1, (A57_5 (rr) a0 a1 a2).2.2.1, ((A57_5 (rr) a0 a1 a2).2.2.2.1, (A57_5 (rr) a0 a1 a2).2.2.2.2)) (W (a1 + (W (Int.tdiv (W ((W (a2 - a1)) + 1)) 2)))) a2)

def R57 : Nat → ((List (((Int × Int × Int) × (Int × Int × Int) × Int × Int × Int) × Int)) × Int × List (Int) × List (Int × Int × Int × Int × (Int × Int × Int) × Int)) → (Int) → (Int) → Int × (List (((Int × Int × Int) × (Int × Int × Int) × Int × Int × Int) × Int)) × Int × List (Int) × List (Int × Int × Int × Int × (Int × Int × Int) × Int)
  | 0, _, _, _ => default
  | nr + 1, a0, a1, a2 =>
  (bif (decide (((W (a2 - a1)) : Int) > a0.2.1)) then
   (((a0.2.2.2.length : Nat) : Int), (a0.1, (A57_6 (R57 nr) a0 a1 a2).2.2.1, ((A57_6 (R57 nr) a0 a1 a2).2.2.2.1, (((A57_6 (R57 nr) a0 a1 a2).2.2.2.2.set (Int.toNat ((a0.2.2.2.length : Nat) : Int)) (((A57_6 (R57 nr) a0 a1 a2).2.2.2.2.getD (Int.toNat ((a0.2.2.2.length : Nat) : Int)) default).1, ((A57_6 (R57 nr) a0 a1 a2).2.2.2.2.getD (Int.toNat ((a0.2.2.2.length : Nat) : Int)) default).2.1, (A57_5 (R57 nr) a0 a1 a2).1, ((A57_6 (R57 nr) a0 a1 a2).2.2.2.2.getD (Int.toNat ((a0.2.2.2.length : Nat) : Int)) default).2.2.2.1, ((A57_6 (R57 nr) a0 a1 a2).2.2.2.2.getD (Int.toNat ((a0.2.2.2.length : Nat) : Int)) default).2.2.2.2.1, ((A57_6 (R57 nr) a0 a1 a2).2.2.2.2.getD (Int.toNat ((a0.2.2.2.length : Nat) : Int)) default).2.2.2.2.2)).set (Int.toNat ((a0.2.2.2.length : Nat) : Int)) ((((A57_6 (R57 nr) a0 a1 a2).2.2.2.2.set (Int.toNat ((a0.2.2.2.length : Nat) : Int)) (((A57_6 (R57 nr) a0 a1 a2).2.2.2.2.getD (Int.toNat ((a0.2.2.2.length : Nat) : Int)) default).1, ((A57_6 (R57 nr) a0 a1 a2).2.2.2.2.getD (Int.toNat ((a0.2.2.2.length : Nat) : Int)) default).2.1, (A57_5 (R57 nr) a0 a1 a2).1, ((A57_6 (R57 nr) a0 a1 a2).2.2.2.2.getD (Int.toNat ((a0.2.2.2.length : Nat) : Int)) default).2.2.2.1, ((A57_6 (R57 nr) a0 a1 a2).2.2.2.2.getD (Int.toNat ((a0.2.2.2.length : Nat) : Int)) default).2.2.2.2.1, ((A57_6 (R57 nr) a0 a1 a2).2.2.2.2.getD (Int.toNat ((a0.2.2.2.length : Nat) : Int)) default).2.2.2.2.2)).getD (Int.toNat ((a0.2.2.2.length : Nat) : Int)) default).1, (((A57_6 (R57 nr) a0 a1 a2).2.2.2.2.set (Int.toNat ((a0.2.2.2.length : Nat) : Int)) (((A57_6 (R57 nr) a0 a1 a2).2.2.2.2.getD (Int.toNat ((a0.2.2.2.length : Nat) : Int)) default).1, ((A57_6 (R57 nr) a0 a1 a2).2.2.2.2.getD (Int.toNat ((a0.2.2.2.length : Nat) : Int)) default).2.1, (A57_5 (R57 nr) a0 a1 a2).1, ((A57_6 (R57 nr) a0 a1 a2).2.2.2.2.getD (Int.toNat ((a0.2.2.2.length : Nat) : Int)) default).2.2.2.1, ((A57_6 (R57 nr) a0 a1 a2).2.2.2.2.getD (Int.toNat ((a0.2.2.2.length : Nat) : Int)) default).2.2.2.2.1, ((A57_6 (R57 nr) a0 a1 a2).2.2.2.2.getD (Int.toNat ((a0.2.2.2.length : Nat) : Int)) default).2.2.2.2.2)).getD (Int.toNat ((a0.2.2.2.length : Nat) : Int)) default).2.1, (((A57_6 (R57 nr) a0 a1 a2).2.2.2.2.set (Int.toNat ((a0.2.2.2.length : Nat) : Int)) (((A57_6 (R57 nr) a0 a1 a2).2.2.2.2.getD (Int.toNat ((a0.2.2.2.length : Nat) : Int)) default).1, ((A57_6 (R57 nr) a0 a1 a2).2.2.2.2.getD (Int.toNat ((a0.2.2.2.length : Nat) : Int)) default).2.1, (A57_5 (R57 nr) a0 a1 a2).1, ((A57_6 (R57 nr) a0 a1 a2).2.2.2.2.getD (Int.toNat ((a0.2.2.2.length : Nat) : Int)) default).2.2.2.1, ((A57_6 (R57 nr) a0 a1 a2).2.2.2.2.getD (Int.toNat ((a0.2.2.2.length : Nat) : Int)) default).2.2.2.2.1, ((A57_6 (R57 nr) a0 a1 a2).2.2.2.2.getD (Int.toNat ((a0.2.2.2.length : Nat) : Int)) default).2.2.2.2.2)).getD (Int.toNat ((a0.2.2.2.length : Nat) : Int)) default).2.2.1, (A57_6 (R57 nr) a0 a1 a2).1, (((A57_6 (R57 nr) a0 a1 a2).2.2.2.2.set (Int.toNat ((a0.2.2.2.length : Nat) : Int)) (((A57_6 (R57 nr) a0 a1 a2).2.2.2.2.getD (Int.toNat ((a0.2.2.2.length : Nat) : Int)) default).1, ((A57_6 (R57 nr) a0 a1 a2).2.2.2.2.getD (Int.toNat ((a0.2.2.2.length : Nat) : Int)) default).2.1, (A57_5 (R57 nr) a0 a1 a2).1, ((A57_6 (R57 nr) a0 a1 a2).2.2.2.2.getD (Int.toNat ((a0.2.2.2.length : Nat) : Int)) default).2.2.2.1, ((A57_6 (R57 nr) a0 a1 a2).2.2.2.2.getD (Int.toNat ((a0.2.2.2.length : Nat) : Int)) default).2.2.2.2.1, ((A57_6 (R57 nr) a0 a1 a2).2.2.2.2.getD (Int.toNat ((a0.2.2.2.length : Nat) : Int)) default).2.2.2.2.2)).getD (Int.toNat ((a0.2.2.2.length : Nat) : Int)) default).2.2.2.2.1, (((A57_6 (R57 nr) a0 a1 a2).2.2.2.2.set (Int.toNat ((a0.2.2.2.length : Nat) : Int)) (((A57_6 (R57 nr) a0 a1 a2).2.2.2.2.getD (Int.toNat ((a0.2.2.2.length : Nat) : Int)) default).1, ((A57_6 (R57 nr) a0 a1 a2).2.2.2.2.getD (Int.toNat ((a0.2.2.2.length : Nat) : Int)) default).2.1, (A57_5 (R57 nr) a0 a1 a2).1, ((A57_6 (R57 nr) a0 a1 a2).2.2.2.2.getD (Int.toNat ((a0.2.2.2.length : Nat) : Int)) default).2.2.2.1, ((A57_6 (R57 nr) a0 a1 a2).2.2.2.2.getD (Int.toNat ((a0.2.2.2.length : Nat) : Int)) default).2.2.2.2.1, ((A57_6 (R57 nr) a0 a1 a2).2.2.2.2.getD (Int.toNat ((a0.2.2.2.length : Nat) : Int)) default).2.2.2.2.2)).getD (Int.toNat ((a0.2.2.2.length : Nat) : Int)) default).2.2.2.2.2)))))
  else
   (((a0.2.2.2.length : Nat) : Int), (a0.1, a0.2.1, (a0.2.2.1, (a0.2.2.2 ++ [(a1, a2, (-1), (-1), (F73_L (A57_1 a0 a1 a2)), (A57_2 a0 a1 a2).1)])))))

def F57 (a0 : (List (((Int × Int × Int) × (Int × Int × Int) × Int × Int × Int) × Int)) × Int × List (Int) × List (Int × Int × Int × Int × (Int × Int × Int) × Int)) (a1 : Int) (a2 : Int) : Int × (List (((Int × Int × Int) × (Int × Int × Int) × Int × Int × Int) × Int)) × Int × List (Int) × List (Int × Int × Int × Int × (Int × Int × Int) × Int) := R57 (Int.toNat (a2 - a1) + 1) a0 a1 a2

structure ADDR (b r : BU) (i k : Int) : Prop where
  pan : r.1 = b.1
  leaf : r.2.1 = b.2.1
  ol : r.2.2.1.length = b.2.2.1.length
  oi : InR b.1.length r.2.2.1
  lo : b.2.2.2.length < r.2.2.2.length
  hi : r.2.2.2.length ≤ b.2.2.2.length + 2 * (k - i) - 1
theorem PADD.pos {b : BU} {i k : Int} (hp : PADD b i k) : 0 < b.1.length := by
  have h := hp.inr.at (i := 0) (by have := hp.rng; omega)
  omega
section
variable {nr : Nat} {b : BU} {i k : Int} (hp : PADD b i k)
include hp
theorem add_4 : (A57_4 b i k).length = b.2.2.1.length ∧ InR b.1.length (A57_4 b i k) :=
  srt_in hp.pos (by have := hp.rng; have := hp.few; omega) hp.inr
theorem pad1 {x : Int × Int × Int × Int × (Int × Int × Int) × Int} (h2 : 2 ≤ k - i) : PADD (b.1, b.2.1, (A57_4 b i k), b.2.2.2 ++ [x]) i (W (i + (W (Int.tdiv (W ((W (k - i)) + 1)) 2)))) := by
  have h := hp.rng; have hn := hp.nds; have hf := hp.few
  rw [mid_eq ⟨h.1, h.2.1, by omega⟩]
  have h4 := add_4 hp
  exact ⟨h4.2, ⟨h.1, by omega, by rw [h4.1]; omega, by rw [h4.1]; omega⟩, by simp only [List.length_append, List.length_cons, List.length_nil]; omega, hp.lf, by omega⟩
end
theorem pad2 {b r : BU} {i k : Int} {o : List Int} {x : Int × Int × Int × Int × (Int × Int × Int) × Int} (hp : PADD b i k) (ho : o.length = b.2.2.1.length) (h2 : 2 ≤ k - i) (hr : ADDR (b.1, b.2.1, o, b.2.2.2 ++ [x]) r i (W (i + (W (Int.tdiv (W ((W (k - i)) + 1)) 2))))) :
    PADD (b.1, r.2.1, r.2.2.1, r.2.2.2) (W (i + (W (Int.tdiv (W ((W (k - i)) + 1)) 2)))) k := by
  have h := hp.rng; have hn := hp.nds; have hf := hp.few
  obtain ⟨g1, g2, g3, g4, g5, g6⟩ := hr
  rw [mid_eq ⟨h.1, h.2.1, by omega⟩] at g6 ⊢
  simp only [List.length_append, List.length_cons, List.length_nil] at g3 g5 g6 g2
  exact ⟨g4, ⟨by omega, by omega, by rw [g3]; omega, by rw [g3]; omega⟩, by simp only; omega, by rw [g2]; exact hp.lf, by omega⟩
theorem add_inv : ∀ (nr : Nat) (b : BU) (i k : Int), PADD b i k → Int.toNat (k - i) < nr → ADDR b (R57 nr b i k).2 i k
  | 0, b, i, k, _, hn => absurd hn (Nat.not_lt_zero _)
  | nr + 1, b, i, k, hp, hn => by
    have h := hp.rng; have hn2 := hp.nds; have hl := hp.lf
    have hW : W (k - i) = k - i := W_eq (by omega) (by omega)
    simp only [R57]
    by_cases h0 : W (k - i) > b.2.1
    · rw [decide_eq_true h0, cond_true]
      have h2 : 2 ≤ k - i := by omega
      have hm := mid_eq ⟨h.1, h.2.1, by omega⟩
      have h5 : ADDR _ (A57_5 (R57 nr) b i k).2 i _ := add_inv nr _ _ _ (pad1 hp h2) (by rw [hm]; omega)
      have h6 : ADDR _ (A57_6 (R57 nr) b i k).2 _ k := add_inv nr _ _ _ (pad2 hp (add_4 hp).1 h2 h5) (by rw [hm]; omega)
      have g3 := h5.ol; have g5 := h5.lo; have g6 := h5.hi; have f3 := h6.ol; have f5 := h6.lo; have f6 := h6.hi
      rw [hm] at g6 f6
      simp only [List.length_append, List.length_cons, List.length_nil] at g3 g5 g6 f3 f5 f6
      refine ⟨rfl, h6.leaf.trans h5.leaf, ?_, h6.oi, ?_, ?_⟩
      · show (A57_6 (R57 nr) b i k).2.2.2.1.length = _
        rw [f3, g3]; exact (add_4 hp).1
      · simp only [List.length_set]; omega
      · simp only [List.length_set]; omega
    · rw [decide_eq_false h0, cond_false]
      exact ⟨rfl, rfl, rfl, hp.inr, by simp, by simp; omega⟩

theorem Cr57 : ∀ (nr : Nat) (a0 : (List (((Int × Int × Int) × (Int × Int × Int) × Int × Int × Int) × Int)) × Int × List (Int) × List (Int × Int × Int × Int × (Int × Int × Int) × Int)) (a1 : Int) (a2 : Int) (l0_1 : a0.1.length ≤ 9223372036854775807) (l0_2_2_1 : a0.2.2.1.length ≤ 9223372036854775807) (l0_2_2_2 : a0.2.2.2.length ≤ 9223372036854775807) (hp : PADD a0 a1 a2), Int.toNat (a2 - a1) < nr → Con Try.prog 57 [(.p 0 0), (iv a1), (iv a2)] [(.live true false [(.s 1 0 a0.1.length 10), (iv a0.2.1), (.s 2 0 a0.2.2.1.length 1), (.s 3 0 a0.2.2.2.length 8)]), (.live false true (flat c81 a0.1)), (.live true true (flat c3 a0.2.2.1)), (.live true true (flat c40 a0.2.2.2))] (iv (R57 nr a0 a1 a2).1) [(.live true true (flat c40 (R57 nr a0 a1 a2).2.2.2.2))] [(.live true false [(.s 1 0 a0.1.length 10), (iv (R57 nr a0 a1 a2).2.2.1), (.s 2 0 (R57 nr a0 a1 a2).2.2.2.1.length 1), (.s 4 0 (R57 nr a0 a1 a2).2.2.2.2.length 8)]), .un, (.live true true (flat c3 (R57 nr a0 a1 a2).2.2.2.1)), .dead] := by
  intro nr
  induction nr with
  | zero => intro a0 a1 a2 l0_1 l0_2_2_1 l0_2_2_2 hp hlt; exact absurd hlt (Nat.not_lt_zero _)
  | succ nr ihr =>
  intro a0 a1 a2 l0_1 l0_2_2_1 l0_2_2_2 hp hlt
  refine con_s Try.func57 (by kernel_rfl) fun cx hcx => ?_
  have hpr := hp.rng
  have hpn := hp.nds
  have hpl := hp.lf
  have hpf := hp.few
  have hpt := part_len (l := a0.2.2.1) (a := a1) (b := a2) (by omega)
  have hm1 : (A57_1 a0 a1 a2).length = _ := mem_len a0.1 (Aw.part a0.2.2.1 a1 a2)
  have hW : W (a2 - a1) = a2 - a1 := W_eq (by omega) (by omega)
  have hmid := mid_eq (i := a1) (k := a2) (by omega)
  have h4 := add_4 hp
  try have h2 : 2 ≤ a2 - a1 := (fun _ => by omega) h0
  try have h5 : ADDR _ (A57_5 (R57 nr) a0 a1 a2).2 a1 _ := (fun _ => add_inv nr _ _ _ (pad1 hp h2) (by rw [hmid]; omega)) h0
  try have h6 : ADDR _ (A57_6 (R57 nr) a0 a1 a2).2 _ a2 := (fun _ => add_inv nr _ _ _ (pad2 hp (add_4 hp).1 h2 h5) (by rw [hmid]; omega)) h0
  try have g5 := (fun _ => h5.lo) h0
  try have g6 := (fun _ => h5.hi) h0
  try have g3 := (fun _ => h5.ol) h0
  try have f5 := (fun _ => h6.lo) h0
  try have f6 := (fun _ => h6.hi) h0
  try have f3 := (fun _ => h6.ol) h0
  try (have _ := h0; rw [hmid] at g6 f6; simp only [List.length_append, List.length_cons, List.length_nil] at g3 g5 g6 f3 f5 f6)
  let t0 : List (St Try.prog) := [.sub a1 a2 (a0.2.2.1.length), .c [1, 2] (show Con Try.prog 72 [(.s 0 0 a0.1.length 10), (.s 1 (0 + Int.toNat a1 * 1) (Int.toNat a2 - Int.toNat a1) 1)] [(.live false true (flat c81 a0.1)), (.live false true (flat c3 a0.2.2.1))] (.s 2 0 (A57_1 a0 a1 a2).length 10) [(.live true true (flat c81 (A57_1 a0 a1 a2)))] from Con.part (l := a0.2.2.1) (a := a1) (b := a2) (c := c3) (pre := [(.s 0 0 a0.1.length 10)]) (post := []) (bs1 := [(.live false true (flat c81 a0.1))]) (bs2 := []) 1 c3_len (by omega) rfl (by rfl) (C72_L_L a0.1 (Aw.part (a0.2.2.1) a1 a2) (by (try simp only [List.length_append, List.length_cons, List.length_nil, Int.toNat_zero]); omega) (by (try simp only [List.length_append, List.length_cons, List.length_nil, Int.toNat_zero]); omega) (hp.inr.part a1 a2) (by omega))), .c [4] (C73_L (A57_1 a0 a1 a2) (by (try simp only [List.length_append, List.length_cons, List.length_nil, Int.toNat_zero]); omega) (by omega)), .c [4] (C74_L (A57_1 a0 a1 a2) (F73_L (A57_1 a0 a1 a2)) (by (try simp only [List.length_append, List.length_cons, List.length_nil, Int.toNat_zero]); omega) (by omega)), .p (show ((flat c40 a0.2.2.2).length = a0.2.2.2.length * 8 ∧ a0.2.2.2.length + 1 ≤ 2 ^ 40 ∧ (a0.2.2.2.length + 1) * 64 ≤ 2 ^ 47) from app_ok c40_len (by omega) (by omega))]
  cases h0 : (decide (((W (a2 - a1)) : Int) > a0.2.1)) with
  | true =>
   have q0 := of_decide_eq_true h0
   have h4 := add_4 hp
   try have h2 : 2 ≤ a2 - a1 := (fun _ => by omega) h0
   try have h5 : ADDR _ (A57_5 (R57 nr) a0 a1 a2).2 a1 _ := (fun _ => add_inv nr _ _ _ (pad1 hp h2) (by rw [hmid]; omega)) h0
   try have h6 : ADDR _ (A57_6 (R57 nr) a0 a1 a2).2 _ a2 := (fun _ => add_inv nr _ _ _ (pad2 hp (add_4 hp).1 h2 h5) (by rw [hmid]; omega)) h0
   try have g5 := (fun _ => h5.lo) h0
   try have g6 := (fun _ => h5.hi) h0
   try have g3 := (fun _ => h5.ol) h0
   try have f5 := (fun _ => h6.lo) h0
   try have f6 := (fun _ => h6.hi) h0
   try have f3 := (fun _ => h6.ol) h0
   try (have _ := h0; rw [hmid] at g6 f6; simp only [List.length_append, List.length_cons, List.length_nil] at g3 g5 g6 f3 f5 f6)
   have e := Eq.refl (R57 (nr + 1) a0 a1 a2); conv at e => rhs; simp only [R57, h0, cond_true, cond_false]
   rw [e]
   try dsimp only
   rw [show flat c40 (((A57_6 (R57 nr) a0 a1 a2).2.2.2.2.set (Int.toNat ((a0.2.2.2.length : Nat) : Int)) (((A57_6 (R57 nr) a0 a1 a2).2.2.2.2.getD (Int.toNat ((a0.2.2.2.length : Nat) : Int)) default).1, ((A57_6 (R57 nr) a0 a1 a2).2.2.2.2.getD (Int.toNat ((a0.2.2.2.length : Nat) : Int)) default).2.1, (A57_5 (R57 nr) a0 a1 a2).1, ((A57_6 (R57 nr) a0 a1 a2).2.2.2.2.getD (Int.toNat ((a0.2.2.2.length : Nat) : Int)) default).2.2.2.1, ((A57_6 (R57 nr) a0 a1 a2).2.2.2.2.getD (Int.toNat ((a0.2.2.2.length : Nat) : Int)) default).2.2.2.2.1, ((A57_6 (R57 nr) a0 a1 a2).2.2.2.2.getD (Int.toNat ((a0.2.2.2.length : Nat) : Int)) default).2.2.2.2.2)).set (Int.toNat ((a0.2.2.2.length : Nat) : Int)) ((((A57_6 (R57 nr) a0 a1 a2).2.2.2.2.set (Int.toNat ((a0.2.2.2.length : Nat) : Int)) (((A57_6 (R57 nr) a0 a1 a2).2.2.2.2.getD (Int.toNat ((a0.2.2.2.length : Nat) : Int)) default).1, ((A57_6 (R57 nr) a0 a1 a2).2.2.2.2.getD (Int.toNat ((a0.2.2.2.length : Nat) : Int)) default).2.1, (A57_5 (R57 nr) a0 a1 a2).1, ((A57_6 (R57 nr) a0 a1 a2).2.2.2.2.getD (Int.toNat ((a0.2.2.2.length : Nat) : Int)) default).2.2.2.1, ((A57_6 (R57 nr) a0 a1 a2).2.2.2.2.getD (Int.toNat ((a0.2.2.2.length : Nat) : Int)) default).2.2.2.2.1, ((A57_6 (R57 nr) a0 a1 a2).2.2.2.2.getD (Int.toNat ((a0.2.2.2.length : Nat) : Int)) default).2.2.2.2.2)).getD (Int.toNat ((a0.2.2.2.length : Nat) : Int)) default).1, (((A57_6 (R57 nr) a0 a1 a2).2.2.2.2.set (Int.toNat ((a0.2.2.2.length : Nat) : Int)) (((A57_6 (R57 nr) a0 a1 a2).2.2.2.2.getD (Int.toNat ((a0.2.2.2.length : Nat) : Int)) default).1, ((A57_6 (R57 nr) a0 a1 a2).2.2.2.2.getD (Int.toNat ((a0.2.2.2.length : Nat) : Int)) default).2.1, (A57_5 (R57 nr) a0 a1 a2).1, ((A57_6 (R57 nr) a0 a1 a2).2.2.2.2.getD (Int.toNat ((a0.2.2.2.length : Nat) : Int)) default).2.2.2.1, ((A57_6 (R57 nr) a0 a1 a2).2.2.2.2.getD (Int.toNat ((a0.2.2.2.length : Nat) : Int)) default).2.2.2.2.1, ((A57_6 (R57 nr) a0 a1 a2).2.2.2.2.getD (Int.toNat ((a0.2.2.2.length : Nat) : Int)) default).2.2.2.2.2)).getD (Int.toNat ((a0.2.2.2.length : Nat) : Int)) default).2.1, (((A57_6 (R57 nr) a0 a1 a2).2.2.2.2.set (Int.toNat ((a0.2.2.2.length : Nat) : Int)) (((A57_6 (R57 nr) a0 a1 a2).2.2.2.2.getD (Int.toNat ((a0.2.2.2.length : Nat) : Int)) default).1, ((A57_6 (R57 nr) a0 a1 a2).2.2.2.2.getD (Int.toNat ((a0.2.2.2.length : Nat) : Int)) default).2.1, (A57_5 (R57 nr) a0 a1 a2).1, ((A57_6 (R57 nr) a0 a1 a2).2.2.2.2.getD (Int.toNat ((a0.2.2.2.length : Nat) : Int)) default).2.2.2.1, ((A57_6 (R57 nr) a0 a1 a2).2.2.2.2.getD (Int.toNat ((a0.2.2.2.length : Nat) : Int)) default).2.2.2.2.1, ((A57_6 (R57 nr) a0 a1 a2).2.2.2.2.getD (Int.toNat ((a0.2.2.2.length : Nat) : Int)) default).2.2.2.2.2)).getD (Int.toNat ((a0.2.2.2.length : Nat) : Int)) default).2.2.1, (A57_6 (R57 nr) a0 a1 a2).1, (((A57_6 (R57 nr) a0 a1 a2).2.2.2.2.set (Int.toNat ((a0.2.2.2.length : Nat) : Int)) (((A57_6 (R57 nr) a0 a1 a2).2.2.2.2.getD (Int.toNat ((a0.2.2.2.length : Nat) : Int)) default).1, ((A57_6 (R57 nr) a0 a1 a2).2.2.2.2.getD (Int.toNat ((a0.2.2.2.length : Nat) : Int)) default).2.1, (A57_5 (R57 nr) a0 a1 a2).1, ((A57_6 (R57 nr) a0 a1 a2).2.2.2.2.getD (Int.toNat ((a0.2.2.2.length : Nat) : Int)) default).2.2.2.1, ((A57_6 (R57 nr) a0 a1 a2).2.2.2.2.getD (Int.toNat ((a0.2.2.2.length : Nat) : Int)) default).2.2.2.2.1, ((A57_6 (R57 nr) a0 a1 a2).2.2.2.2.getD (Int.toNat ((a0.2.2.2.length : Nat) : Int)) default).2.2.2.2.2)).getD (Int.toNat ((a0.2.2.2.length : Nat) : Int)) default).2.2.2.2.1, (((A57_6 (R57 nr) a0 a1 a2).2.2.2.2.set (Int.toNat ((a0.2.2.2.length : Nat) : Int)) (((A57_6 (R57 nr) a0 a1 a2).2.2.2.2.getD (Int.toNat ((a0.2.2.2.length : Nat) : Int)) default).1, ((A57_6 (R57 nr) a0 a1 a2).2.2.2.2.getD (Int.toNat ((a0.2.2.2.length : Nat) : Int)) default).2.1, (A57_5 (R57 nr) a0 a1 a2).1, ((A57_6 (R57 nr) a0 a1 a2).2.2.2.2.getD (Int.toNat ((a0.2.2.2.length : Nat) : Int)) default).2.2.2.1, ((A57_6 (R57 nr) a0 a1 a2).2.2.2.2.getD (Int.toNat ((a0.2.2.2.length : Nat) : Int)) default).2.2.2.2.1, ((A57_6 (R57 nr) a0 a1 a2).2.2.2.2.getD (Int.toNat ((a0.2.2.2.length : Nat) : Int)) default).2.2.2.2.2)).getD (Int.toNat ((a0.2.2.2.length : Nat) : Int)) default).2.2.2.2.2)) = (splice (splice (flat c40 (A57_6 (R57 nr) a0 a1 a2).2.2.2.2) (0 + Int.toNat ((a0.2.2.2.length : Nat) : Int) * 8 + 2) [(iv (A57_5 (R57 nr) a0 a1 a2).1)]) (0 + Int.toNat ((a0.2.2.2.length : Nat) : Int) * 8 + 3) [(iv (A57_6 (R57 nr) a0 a1 a2).1)]) from Eq.symm (by rw [show (splice (flat c40 (A57_6 (R57 nr) a0 a1 a2).2.2.2.2) (0 + Int.toNat ((a0.2.2.2.length : Nat) : Int) * 8 + 2) [(iv (A57_5 (R57 nr) a0 a1 a2).1)]) = flat c40 ((A57_6 (R57 nr) a0 a1 a2).2.2.2.2.set (Int.toNat ((a0.2.2.2.length : Nat) : Int)) (((A57_6 (R57 nr) a0 a1 a2).2.2.2.2.getD (Int.toNat ((a0.2.2.2.length : Nat) : Int)) default).1, ((A57_6 (R57 nr) a0 a1 a2).2.2.2.2.getD (Int.toNat ((a0.2.2.2.length : Nat) : Int)) default).2.1, (A57_5 (R57 nr) a0 a1 a2).1, ((A57_6 (R57 nr) a0 a1 a2).2.2.2.2.getD (Int.toNat ((a0.2.2.2.length : Nat) : Int)) default).2.2.2.1, ((A57_6 (R57 nr) a0 a1 a2).2.2.2.2.getD (Int.toNat ((a0.2.2.2.length : Nat) : Int)) default).2.2.2.2.1, ((A57_6 (R57 nr) a0 a1 a2).2.2.2.2.getD (Int.toNat ((a0.2.2.2.length : Nat) : Int)) default).2.2.2.2.2)) from (flat_set c40_len (by first | omega | (simp only [List.length_set]; omega)) (i := Int.toNat ((a0.2.2.2.length : Nat) : Int)) (o := 2) (d := default) (y := (((A57_6 (R57 nr) a0 a1 a2).2.2.2.2.getD (Int.toNat ((a0.2.2.2.length : Nat) : Int)) default).1, ((A57_6 (R57 nr) a0 a1 a2).2.2.2.2.getD (Int.toNat ((a0.2.2.2.length : Nat) : Int)) default).2.1, (A57_5 (R57 nr) a0 a1 a2).1, ((A57_6 (R57 nr) a0 a1 a2).2.2.2.2.getD (Int.toNat ((a0.2.2.2.length : Nat) : Int)) default).2.2.2.1, ((A57_6 (R57 nr) a0 a1 a2).2.2.2.2.getD (Int.toNat ((a0.2.2.2.length : Nat) : Int)) default).2.2.2.2.1, ((A57_6 (R57 nr) a0 a1 a2).2.2.2.2.getD (Int.toNat ((a0.2.2.2.length : Nat) : Int)) default).2.2.2.2.2)) (Nat.le_of_ble_eq_true rfl) rfl)]; exact flat_set c40_len (by first | omega | (simp only [List.length_set]; omega)) (i := Int.toNat ((a0.2.2.2.length : Nat) : Int)) (o := 3) (d := default) (y := ((((A57_6 (R57 nr) a0 a1 a2).2.2.2.2.set (Int.toNat ((a0.2.2.2.length : Nat) : Int)) (((A57_6 (R57 nr) a0 a1 a2).2.2.2.2.getD (Int.toNat ((a0.2.2.2.length : Nat) : Int)) default).1, ((A57_6 (R57 nr) a0 a1 a2).2.2.2.2.getD (Int.toNat ((a0.2.2.2.length : Nat) : Int)) default).2.1, (A57_5 (R57 nr) a0 a1 a2).1, ((A57_6 (R57 nr) a0 a1 a2).2.2.2.2.getD (Int.toNat ((a0.2.2.2.length : Nat) : Int)) default).2.2.2.1, ((A57_6 (R57 nr) a0 a1 a2).2.2.2.2.getD (Int.toNat ((a0.2.2.2.length : Nat) : Int)) default).2.2.2.2.1, ((A57_6 (R57 nr) a0 a1 a2).2.2.2.2.getD (Int.toNat ((a0.2.2.2.length : Nat) : Int)) default).2.2.2.2.2)).getD (Int.toNat ((a0.2.2.2.length : Nat) : Int)) default).1, (((A57_6 (R57 nr) a0 a1 a2).2.2.2.2.set (Int.toNat ((a0.2.2.2.length : Nat) : Int)) (((A57_6 (R57 nr) a0 a1 a2).2.2.2.2.getD (Int.toNat ((a0.2.2.2.length : Nat) : Int)) default).1, ((A57_6 (R57 nr) a0 a1 a2).2.2.2.2.getD (Int.toNat ((a0.2.2.2.length : Nat) : Int)) default).2.1, (A57_5 (R57 nr) a0 a1 a2).1, ((A57_6 (R57 nr) a0 a1 a2).2.2.2.2.getD (Int.toNat ((a0.2.2.2.length : Nat) : Int)) default).2.2.2.1, ((A57_6 (R57 nr) a0 a1 a2).2.2.2.2.getD (Int.toNat ((a0.2.2.2.length : Nat) : Int)) default).2.2.2.2.1, ((A57_6 (R57 nr) a0 a1 a2).2.2.2.2.getD (Int.toNat ((a0.2.2.2.length : Nat) : Int)) default).2.2.2.2.2)).getD (Int.toNat ((a0.2.2.2.length : Nat) : Int)) default).2.1, (((A57_6 (R57 nr) a0 a1 a2).2.2.2.2.set (Int.toNat ((a0.2.2.2.length : Nat) : Int)) (((A57_6 (R57 nr) a0 a1 a2).2.2.2.2.getD (Int.toNat ((a0.2.2.2.length : Nat) : Int)) default).1, ((A57_6 (R57 nr) a0 a1 a2).2.2.2.2.getD (Int.toNat ((a0.2.2.2.length : Nat) : Int)) default).2.1, (A57_5 (R57 nr) a0 a1 a2).1, ((A57_6 (R57 nr) a0 a1 a2).2.2.2.2.getD (Int.toNat ((a0.2.2.2.length : Nat) : Int)) default).2.2.2.1, ((A57_6 (R57 nr) a0 a1 a2).2.2.2.2.getD (Int.toNat ((a0.2.2.2.length : Nat) : Int)) default).2.2.2.2.1, ((A57_6 (R57 nr) a0 a1 a2).2.2.2.2.getD (Int.toNat ((a0.2.2.2.length : Nat) : Int)) default).2.2.2.2.2)).getD (Int.toNat ((a0.2.2.2.length : Nat) : Int)) default).2.2.1, (A57_6 (R57 nr) a0 a1 a2).1, (((A57_6 (R57 nr) a0 a1 a2).2.2.2.2.set (Int.toNat ((a0.2.2.2.length : Nat) : Int)) (((A57_6 (R57 nr) a0 a1 a2).2.2.2.2.getD (Int.toNat ((a0.2.2.2.length : Nat) : Int)) default).1, ((A57_6 (R57 nr) a0 a1 a2).2.2.2.2.getD (Int.toNat ((a0.2.2.2.length : Nat) : Int)) default).2.1, (A57_5 (R57 nr) a0 a1 a2).1, ((A57_6 (R57 nr) a0 a1 a2).2.2.2.2.getD (Int.toNat ((a0.2.2.2.length : Nat) : Int)) default).2.2.2.1, ((A57_6 (R57 nr) a0 a1 a2).2.2.2.2.getD (Int.toNat ((a0.2.2.2.length : Nat) : Int)) default).2.2.2.2.1, ((A57_6 (R57 nr) a0 a1 a2).2.2.2.2.getD (Int.toNat ((a0.2.2.2.length : Nat) : Int)) default).2.2.2.2.2)).getD (Int.toNat ((a0.2.2.2.length : Nat) : Int)) default).2.2.2.2.1, (((A57_6 (R57 nr) a0 a1 a2).2.2.2.2.set (Int.toNat ((a0.2.2.2.length : Nat) : Int)) (((A57_6 (R57 nr) a0 a1 a2).2.2.2.2.getD (Int.toNat ((a0.2.2.2.length : Nat) : Int)) default).1, ((A57_6 (R57 nr) a0 a1 a2).2.2.2.2.getD (Int.toNat ((a0.2.2.2.length : Nat) : Int)) default).2.1, (A57_5 (R57 nr) a0 a1 a2).1, ((A57_6 (R57 nr) a0 a1 a2).2.2.2.2.getD (Int.toNat ((a0.2.2.2.length : Nat) : Int)) default).2.2.2.1, ((A57_6 (R57 nr) a0 a1 a2).2.2.2.2.getD (Int.toNat ((a0.2.2.2.length : Nat) : Int)) default).2.2.2.2.1, ((A57_6 (R57 nr) a0 a1 a2).2.2.2.2.getD (Int.toNat ((a0.2.2.2.length : Nat) : Int)) default).2.2.2.2.2)).getD (Int.toNat ((a0.2.2.2.length : Nat) : Int)) default).2.2.2.2.2)) (Nat.le_of_ble_eq_true rfl) rfl)]
   try rw [show List.length (α := Int × Int × Int × Int × (Int × Int × Int) × Int) (((A57_6 (R57 nr) a0 a1 a2).2.2.2.2.set (Int.toNat ((a0.2.2.2.length : Nat) : Int)) (((A57_6 (R57 nr) a0 a1 a2).2.2.2.2.getD (Int.toNat ((a0.2.2.2.length : Nat) : Int)) default).1, ((A57_6 (R57 nr) a0 a1 a2).2.2.2.2.getD (Int.toNat ((a0.2.2.2.length : Nat) : Int)) default).2.1, (A57_5 (R57 nr) a0 a1 a2).1, ((A57_6 (R57 nr) a0 a1 a2).2.2.2.2.getD (Int.toNat ((a0.2.2.2.length : Nat) : Int)) default).2.2.2.1, ((A57_6 (R57 nr) a0 a1 a2).2.2.2.2.getD (Int.toNat ((a0.2.2.2.length : Nat) : Int)) default).2.2.2.2.1, ((A57_6 (R57 nr) a0 a1 a2).2.2.2.2.getD (Int.toNat ((a0.2.2.2.length : Nat) : Int)) default).2.2.2.2.2)).set (Int.toNat ((a0.2.2.2.length : Nat) : Int)) ((((A57_6 (R57 nr) a0 a1 a2).2.2.2.2.set (Int.toNat ((a0.2.2.2.length : Nat) : Int)) (((A57_6 (R57 nr) a0 a1 a2).2.2.2.2.getD (Int.toNat ((a0.2.2.2.length : Nat) : Int)) default).1, ((A57_6 (R57 nr) a0 a1 a2).2.2.2.2.getD (Int.toNat ((a0.2.2.2.length : Nat) : Int)) default).2.1, (A57_5 (R57 nr) a0 a1 a2).1, ((A57_6 (R57 nr) a0 a1 a2).2.2.2.2.getD (Int.toNat ((a0.2.2.2.length : Nat) : Int)) default).2.2.2.1, ((A57_6 (R57 nr) a0 a1 a2).2.2.2.2.getD (Int.toNat ((a0.2.2.2.length : Nat) : Int)) default).2.2.2.2.1, ((A57_6 (R57 nr) a0 a1 a2).2.2.2.2.getD (Int.toNat ((a0.2.2.2.length : Nat) : Int)) default).2.2.2.2.2)).getD (Int.toNat ((a0.2.2.2.length : Nat) : Int)) default).1, (((A57_6 (R57 nr) a0 a1 a2).2.2.2.2.set (Int.toNat ((a0.2.2.2.length : Nat) : Int)) (((A57_6 (R57 nr) a0 a1 a2).2.2.2.2.getD (Int.toNat ((a0.2.2.2.length : Nat) : Int)) default).1, ((A57_6 (R57 nr) a0 a1 a2).2.2.2.2.getD (Int.toNat ((a0.2.2.2.length : Nat) : Int)) default).2.1, (A57_5 (R57 nr) a0 a1 a2).1, ((A57_6 (R57 nr) a0 a1 a2).2.2.2.2.getD (Int.toNat ((a0.2.2.2.length : Nat) : Int)) default).2.2.2.1, ((A57_6 (R57 nr) a0 a1 a2).2.2.2.2.getD (Int.toNat ((a0.2.2.2.length : Nat) : Int)) default).2.2.2.2.1, ((A57_6 (R57 nr) a0 a1 a2).2.2.2.2.getD (Int.toNat ((a0.2.2.2.length : Nat) : Int)) default).2.2.2.2.2)).getD (Int.toNat ((a0.2.2.2.length : Nat) : Int)) default).2.1, (((A57_6 (R57 nr) a0 a1 a2).2.2.2.2.set (Int.toNat ((a0.2.2.2.length : Nat) : Int)) (((A57_6 (R57 nr) a0 a1 a2).2.2.2.2.getD (Int.toNat ((a0.2.2.2.length : Nat) : Int)) default).1, ((A57_6 (R57 nr) a0 a1 a2).2.2.2.2.getD (Int.toNat ((a0.2.2.2.length : Nat) : Int)) default).2.1, (A57_5 (R57 nr) a0 a1 a2).1, ((A57_6 (R57 nr) a0 a1 a2).2.2.2.2.getD (Int.toNat ((a0.2.2.2.length : Nat) : Int)) default).2.2.2.1, ((A57_6 (R57 nr) a0 a1 a2).2.2.2.2.getD (Int.toNat ((a0.2.2.2.length : Nat) : Int)) default).2.2.2.2.1, ((A57_6 (R57 nr) a0 a1 a2).2.2.2.2.getD (Int.toNat ((a0.2.2.2.length : Nat) : Int)) default).2.2.2.2.2)).getD (Int.toNat ((a0.2.2.2.length : Nat) : Int)) default).2.2.1, (A57_6 (R57 nr) a0 a1 a2).1, (((A57_6 (R57 nr) a0 a1 a2).2.2.2.2.set (Int.toNat ((a0.2.2.2.length : Nat) : Int)) (((A57_6 (R57 nr) a0 a1 a2).2.2.2.2.getD (Int.toNat ((a0.2.2.2.length : Nat) : Int)) default).1, ((A57_6 (R57 nr) a0 a1 a2).2.2.2.2.getD (Int.toNat ((a0.2.2.2.length : Nat) : Int)) default).2.1, (A57_5 (R57 nr) a0 a1 a2).1, ((A57_6 (R57 nr) a0 a1 a2).2.2.2.2.getD (Int.toNat ((a0.2.2.2.length : Nat) : Int)) default).2.2.2.1, ((A57_6 (R57 nr) a0 a1 a2).2.2.2.2.getD (Int.toNat ((a0.2.2.2.length : Nat) : Int)) default).2.2.2.2.1, ((A57_6 (R57 nr) a0 a1 a2).2.2.2.2.getD (Int.toNat ((a0.2.2.2.length : Nat) : Int)) default).2.2.2.2.2)).getD (Int.toNat ((a0.2.2.2.length : Nat) : Int)) default).2.2.2.2.1, (((A57_6 (R57 nr) a0 a1 a2).2.2.2.2.set (Int.toNat ((a0.2.2.2.length : Nat) : Int)) (((A57_6 (R57 nr) a0 a1 a2).2.2.2.2.getD (Int.toNat ((a0.2.2.2.length : Nat) : Int)) default).1, ((A57_6 (R57 nr) a0 a1 a2).2.2.2.2.getD (Int.toNat ((a0.2.2.2.length : Nat) : Int)) default).2.1, (A57_5 (R57 nr) a0 a1 a2).1, ((A57_6 (R57 nr) a0 a1 a2).2.2.2.2.getD (Int.toNat ((a0.2.2.2.length : Nat) : Int)) default).2.2.2.1, ((A57_6 (R57 nr) a0 a1 a2).2.2.2.2.getD (Int.toNat ((a0.2.2.2.length : Nat) : Int)) default).2.2.2.2.1, ((A57_6 (R57 nr) a0 a1 a2).2.2.2.2.getD (Int.toNat ((a0.2.2.2.length : Nat) : Int)) default).2.2.2.2.2)).getD (Int.toNat ((a0.2.2.2.length : Nat) : Int)) default).2.2.2.2.2)) = (A57_6 (R57 nr) a0 a1 a2).2.2.2.2.length from by first | simp; done | omega]
   exact rtm (t0 ++ [.d h0, .sub a1 a2 (a0.2.2.1.length), .sub a1 a2 (a0.2.2.1.length), .c [0, 1, 2, 7] (show Con Try.prog 76 [(.p 0 0), (.s 2 (0 + Int.toNat a1 * 1) (Int.toNat a2 - Int.toNat a1) 1)] [(.live false false [(.s 1 0 a0.1.length 10), (iv a0.2.1), (.s 2 0 a0.2.2.1.length 1), (.s 3 0 (a0.2.2.2.length + 1) 8)]), (.live false true (flat c81 a0.1)), (.live false true (flat c3 a0.2.2.1)), (.live false true (flat c40 a0.2.2.2 ++ [(iv a1), (iv a2), (iv (-1)), (iv (-1)), (iv (F73_L (A57_1 a0 a1 a2)).1), (iv (F73_L (A57_1 a0 a1 a2)).2.1), (iv (F73_L (A57_1 a0 a1 a2)).2.2), (iv (A57_2 a0 a1 a2).1)]))] (.a [(.p 0 0), (iv (A57_3 a0 a1 a2).2)]) [] from Con.alias (l := a0.2.2.1) (a := a1) (b := a2) (c := c3) (pre := [(.p 0 0)]) (post := []) (bs := [(.live false false [(.s 1 0 a0.1.length 10), (iv a0.2.1), (.s 2 0 a0.2.2.1.length 1), (.s 3 0 (a0.2.2.2.length + 1) 8)]), (.live false true (flat c81 a0.1)), (.live false true (flat c3 a0.2.2.1)), (.live false true (flat c40 a0.2.2.2 ++ [(iv a1), (iv a2), (iv (-1)), (iv (-1)), (iv (F73_L (A57_1 a0 a1 a2)).1), (iv (F73_L (A57_1 a0 a1 a2)).2.1), (iv (F73_L (A57_1 a0 a1 a2)).2.2), (iv (A57_2 a0 a1 a2).1)]))]) 2 c3_len (by omega) rfl (by rfl) (by have q := (C76_L (a0.1, a0.2.1, (a0.2.2.1, (a0.2.2.2 ++ [(a1, a2, (-1), (-1), (F73_L (A57_1 a0 a1 a2)), (A57_2 a0 a1 a2).1)]))) (Aw.part (a0.2.2.1) a1 a2) (by (try simp only [List.length_append, List.length_cons, List.length_nil, Int.toNat_zero]); omega) (by (try simp only [List.length_append, List.length_cons, List.length_nil, Int.toNat_zero]); omega) (by (try simp only [List.length_append, List.length_cons, List.length_nil, Int.toNat_zero]); omega) (by (try simp only [List.length_append, List.length_cons, List.length_nil, Int.toNat_zero]); omega) (hp.inr.part a1 a2) (by omega)); (try dsimp only at q); rw [show flat c40 (a0.2.2.2 ++ [(a1, a2, (-1), (-1), (F73_L (A57_1 a0 a1 a2)), (A57_2 a0 a1 a2).1)]) = (flat c40 a0.2.2.2 ++ [(iv a1), (iv a2), (iv (-1)), (iv (-1)), (iv (F73_L (A57_1 a0 a1 a2)).1), (iv (F73_L (A57_1 a0 a1 a2)).2.1), (iv (F73_L (A57_1 a0 a1 a2)).2.2), (iv (A57_2 a0 a1 a2).1)]) from flat_append] at q; (try rw [show List.length (α := Int × Int × Int × Int × (Int × Int × Int) × Int) (a0.2.2.2 ++ [(a1, a2, (-1), (-1), (F73_L (A57_1 a0 a1 a2)), (A57_2 a0 a1 a2).1)]) = (a0.2.2.2.length + 1) from by first | simp; done | omega] at q); exact q)), .c [2, 0, 1, 7] (by have q := (C75_W_b77 (a0.2.2.1) (Int.toNat a1) (Int.toNat a2 - Int.toNat a1) ((a0.1, a0.2.1, (a0.2.2.1, (a0.2.2.2 ++ [(a1, a2, (-1), (-1), (F73_L (A57_1 a0 a1 a2)), (A57_2 a0 a1 a2).1)]))), (A57_3 a0 a1 a2).2) (by (try simp only [List.length_append, List.length_cons, List.length_nil, Int.toNat_zero]); omega) (by (try simp only [List.length_append, List.length_cons, List.length_nil, Int.toNat_zero]); omega) (by (try simp only [List.length_append, List.length_cons, List.length_nil, Int.toNat_zero]); omega) (by (try simp only [List.length_append, List.length_cons, List.length_nil, Int.toNat_zero]); omega) (by omega) hp.inr (by omega)); (try dsimp only at q); rw [show flat c40 (a0.2.2.2 ++ [(a1, a2, (-1), (-1), (F73_L (A57_1 a0 a1 a2)), (A57_2 a0 a1 a2).1)]) = (flat c40 a0.2.2.2 ++ [(iv a1), (iv a2), (iv (-1)), (iv (-1)), (iv (F73_L (A57_1 a0 a1 a2)).1), (iv (F73_L (A57_1 a0 a1 a2)).2.1), (iv (F73_L (A57_1 a0 a1 a2)).2.2), (iv (A57_2 a0 a1 a2).1)]) from flat_append] at q; (try rw [show List.length (α := Int × Int × Int × Int × (Int × Int × Int) × Int) (a0.2.2.2 ++ [(a1, a2, (-1), (-1), (F73_L (A57_1 a0 a1 a2)), (A57_2 a0 a1 a2).1)]) = (a0.2.2.2.length + 1) from by first | simp; done | omega] at q); exact q), .p (show (2 : Int) ≠ 0 from by decide), .c [0, 1, 2, 7] (by have q := (ihr (a0.1, a0.2.1, ((A57_4 a0 a1 a2), (a0.2.2.2 ++ [(a1, a2, (-1), (-1), (F73_L (A57_1 a0 a1 a2)), (A57_2 a0 a1 a2).1)]))) a1 (W (a1 + (W (Int.tdiv (W ((W (a2 - a1)) + 1)) 2)))) (by (try simp only [List.length_append, List.length_cons, List.length_nil, Int.toNat_zero]); omega) (by (try simp only [List.length_append, List.length_cons, List.length_nil, Int.toNat_zero]); omega) (by (try simp only [List.length_append, List.length_cons, List.length_nil, Int.toNat_zero]); omega) (by first | exact pad1 hp h2 | exact pad2 hp (add_4 hp).1 h2 h5) (by rw [hmid]; omega)); (try dsimp only at q); rw [show flat c40 (a0.2.2.2 ++ [(a1, a2, (-1), (-1), (F73_L (A57_1 a0 a1 a2)), (A57_2 a0 a1 a2).1)]) = (flat c40 a0.2.2.2 ++ [(iv a1), (iv a2), (iv (-1)), (iv (-1)), (iv (F73_L (A57_1 a0 a1 a2)).1), (iv (F73_L (A57_1 a0 a1 a2)).2.1), (iv (F73_L (A57_1 a0 a1 a2)).2.2), (iv (A57_2 a0 a1 a2).1)]) from flat_append] at q; (try rw [show List.length (α := Int) (A57_4 a0 a1 a2) = a0.2.2.1.length from by first | simp; done | omega] at q); (try rw [show List.length (α := Int × Int × Int × Int × (Int × Int × Int) × Int) (a0.2.2.2 ++ [(a1, a2, (-1), (-1), (F73_L (A57_1 a0 a1 a2)), (A57_2 a0 a1 a2).1)]) = (a0.2.2.2.length + 1) from by first | simp; done | omega] at q); exact q), .c [0, 1, 2, 8] (ihr (a0.1, (A57_5 (R57 nr) a0 a1 a2).2.2.1, ((A57_5 (R57 nr) a0 a1 a2).2.2.2.1, (A57_5 (R57 nr) a0 a1 a2).2.2.2.2)) (W (a1 + (W (Int.tdiv (W ((W (a2 - a1)) + 1)) 2)))) a2 (by (try simp only [List.length_append, List.length_cons, List.length_nil, Int.toNat_zero]); omega) (by (try simp only [List.length_append, List.length_cons, List.length_nil, Int.toNat_zero]); omega) (by (try simp only [List.length_append, List.length_cons, List.length_nil, Int.toNat_zero]); omega) (by first | exact pad1 hp h2 | exact pad2 hp (add_4 hp).1 h2 h5) (by rw [hmid]; omega)), .i ((a0.2.2.2.length : Nat) : Int) ((A57_6 (R57 nr) a0 a1 a2).2.2.2.2.length), .p (show ((0 + Int.toNat ((a0.2.2.2.length : Nat) : Int) * 8 + 2) + 1 ≤ (flat c40 (A57_6 (R57 nr) a0 a1 a2).2.2.2.2).length) from (flat_setl c40_len (by first | omega | (simp only [List.length_set]; omega)) (i := Int.toNat ((a0.2.2.2.length : Nat) : Int)) (o := 2) (n := 1) (Nat.le_of_ble_eq_true rfl))), .i ((a0.2.2.2.length : Nat) : Int) ((A57_6 (R57 nr) a0 a1 a2).2.2.2.2.length), .p (show ((0 + Int.toNat ((a0.2.2.2.length : Nat) : Int) * 8 + 3) + 1 ≤ (splice (flat c40 (A57_6 (R57 nr) a0 a1 a2).2.2.2.2) (0 + Int.toNat ((a0.2.2.2.length : Nat) : Int) * 8 + 2) [(iv (A57_5 (R57 nr) a0 a1 a2).1)]).length) from (by rw [show (splice (flat c40 (A57_6 (R57 nr) a0 a1 a2).2.2.2.2) (0 + Int.toNat ((a0.2.2.2.length : Nat) : Int) * 8 + 2) [(iv (A57_5 (R57 nr) a0 a1 a2).1)]) = flat c40 ((A57_6 (R57 nr) a0 a1 a2).2.2.2.2.set (Int.toNat ((a0.2.2.2.length : Nat) : Int)) (((A57_6 (R57 nr) a0 a1 a2).2.2.2.2.getD (Int.toNat ((a0.2.2.2.length : Nat) : Int)) default).1, ((A57_6 (R57 nr) a0 a1 a2).2.2.2.2.getD (Int.toNat ((a0.2.2.2.length : Nat) : Int)) default).2.1, (A57_5 (R57 nr) a0 a1 a2).1, ((A57_6 (R57 nr) a0 a1 a2).2.2.2.2.getD (Int.toNat ((a0.2.2.2.length : Nat) : Int)) default).2.2.2.1, ((A57_6 (R57 nr) a0 a1 a2).2.2.2.2.getD (Int.toNat ((a0.2.2.2.length : Nat) : Int)) default).2.2.2.2.1, ((A57_6 (R57 nr) a0 a1 a2).2.2.2.2.getD (Int.toNat ((a0.2.2.2.length : Nat) : Int)) default).2.2.2.2.2)) from (flat_set c40_len (by first | omega | (simp only [List.length_set]; omega)) (i := Int.toNat ((a0.2.2.2.length : Nat) : Int)) (o := 2) (d := default) (y := (((A57_6 (R57 nr) a0 a1 a2).2.2.2.2.getD (Int.toNat ((a0.2.2.2.length : Nat) : Int)) default).1, ((A57_6 (R57 nr) a0 a1 a2).2.2.2.2.getD (Int.toNat ((a0.2.2.2.length : Nat) : Int)) default).2.1, (A57_5 (R57 nr) a0 a1 a2).1, ((A57_6 (R57 nr) a0 a1 a2).2.2.2.2.getD (Int.toNat ((a0.2.2.2.length : Nat) : Int)) default).2.2.2.1, ((A57_6 (R57 nr) a0 a1 a2).2.2.2.2.getD (Int.toNat ((a0.2.2.2.length : Nat) : Int)) default).2.2.2.2.1, ((A57_6 (R57 nr) a0 a1 a2).2.2.2.2.getD (Int.toNat ((a0.2.2.2.length : Nat) : Int)) default).2.2.2.2.2)) (Nat.le_of_ble_eq_true rfl) rfl)]; exact flat_setl c40_len (by first | omega | (simp only [List.length_set]; omega)) (i := Int.toNat ((a0.2.2.2.length : Nat) : Int)) (o := 3) (n := 1) (Nat.le_of_ble_eq_true rfl)))]) [] [0, 2, 3] [9] hcx (by kernel_rfl)
  | false =>
   have q0 := of_decide_eq_false h0
   have h4 := add_4 hp
   try have h2 : 2 ≤ a2 - a1 := (fun _ => by omega) h0
   try have h5 : ADDR _ (A57_5 (R57 nr) a0 a1 a2).2 a1 _ := (fun _ => add_inv nr _ _ _ (pad1 hp h2) (by rw [hmid]; omega)) h0
   try have h6 : ADDR _ (A57_6 (R57 nr) a0 a1 a2).2 _ a2 := (fun _ => add_inv nr _ _ _ (pad2 hp (add_4 hp).1 h2 h5) (by rw [hmid]; omega)) h0
   try have g5 := (fun _ => h5.lo) h0
   try have g6 := (fun _ => h5.hi) h0
   try have g3 := (fun _ => h5.ol) h0
   try have f5 := (fun _ => h6.lo) h0
   try have f6 := (fun _ => h6.hi) h0
   try have f3 := (fun _ => h6.ol) h0
   try (have _ := h0; rw [hmid] at g6 f6; simp only [List.length_append, List.length_cons, List.length_nil] at g3 g5 g6 f3 f5 f6)
   have e := Eq.refl (R57 (nr + 1) a0 a1 a2); conv at e => rhs; simp only [R57, h0, cond_true, cond_false]
   rw [e]
   try dsimp only
   rw [show flat c40 (a0.2.2.2 ++ [(a1, a2, (-1), (-1), (F73_L (A57_1 a0 a1 a2)), (A57_2 a0 a1 a2).1)]) = (flat c40 a0.2.2.2 ++ [(iv a1), (iv a2), (iv (-1)), (iv (-1)), (iv (F73_L (A57_1 a0 a1 a2)).1), (iv (F73_L (A57_1 a0 a1 a2)).2.1), (iv (F73_L (A57_1 a0 a1 a2)).2.2), (iv (A57_2 a0 a1 a2).1)]) from flat_append]
   try rw [show List.length (α := Int × Int × Int × Int × (Int × Int × Int) × Int) (a0.2.2.2 ++ [(a1, a2, (-1), (-1), (F73_L (A57_1 a0 a1 a2)), (A57_2 a0 a1 a2).1)]) = (a0.2.2.2.length + 1) from by first | simp; done | omega]
   exact rtm (t0 ++ [.d h0]) [] [0, 2, 3] [7] hcx (by kernel_rfl)

theorem C57 (a0 : (List (((Int × Int × Int) × (Int × Int × Int) × Int × Int × Int) × Int)) × Int × List (Int) × List (Int × Int × Int × Int × (Int × Int × Int) × Int)) (a1 : Int) (a2 : Int) (l0_1 : a0.1.length ≤ 9223372036854775807) (l0_2_2_1 : a0.2.2.1.length ≤ 9223372036854775807) (l0_2_2_2 : a0.2.2.2.length ≤ 9223372036854775807) (hp : PADD a0 a1 a2) : Con Try.prog 57 [(.p 0 0), (iv a1), (iv a2)] [(.live true false [(.s 1 0 a0.1.length 10), (iv a0.2.1), (.s 2 0 a0.2.2.1.length 1), (.s 3 0 a0.2.2.2.length 8)]), (.live false true (flat c81 a0.1)), (.live true true (flat c3 a0.2.2.1)), (.live true true (flat c40 a0.2.2.2))] (iv (F57 a0 a1 a2).1) [(.live true true (flat c40 (F57 a0 a1 a2).2.2.2.2))] [(.live true false [(.s 1 0 a0.1.length 10), (iv (F57 a0 a1 a2).2.2.1), (.s 2 0 (F57 a0 a1 a2).2.2.2.1.length 1), (.s 4 0 (F57 a0 a1 a2).2.2.2.2.length 8)]), .un, (.live true true (flat c3 (F57 a0 a1 a2).2.2.2.1)), .dead] := Cr57 (Int.toNat (a2 - a1) + 1) a0 a1 a2 l0_1 l0_2_2_1 l0_2_2_2 hp (Nat.lt_succ_self _)

end Go.Proofs.Ytnbpiejjeeomkaa

namespace Go.Proofs.Ytnbpiejjeeomkaa
open Go.Proofs Go.Aw Go.RowKit
set_option maxRecDepth 100000
set_option linter.unusedVariables false
set_option linter.unusedSimpArgs false

theorem InR.add {n : Nat} {l : List Int} (h : InR n l) {x : Int} (hx : 0 ≤ x ∧ x < (n : Int)) : InR n (l ++ [x]) := fun y hy => by
  rcases List.mem_append.1 hy with hy | hy
  · exact h y hy
  · rw [List.mem_singleton.1 hy]; exact hx
theorem InR.nil (n : Nat) : InR n [] := fun y hy => by simp at hy

noncomputable def B34_L_0 : Code := (loopAtD [1, 1, 0, 1] [] (bodyOf Try.f34) []).1
noncomputable def K34_L_0 : List K := (loopAtD [1, 1, 0, 1] [] (bodyOf Try.f34) []).2

def st34_L_0 (a0 : List (((Int × Int × Int) × (Int × Int × Int) × Int × Int × Int) × Int)) (a1 : Int) (v3c : List SV) (v3n : Nat) (v4c : List SV) (v4n : Nat) (v5 : Int) : LS := ⟨slN 40 [(0, (.s 0 0 a0.length 10)), (4, (.p 1 0)), (5, (.p 2 0)), (12, (iv ((a0.length : Nat) : Int))), (13, (iv v5))], [(.live false true (flat c81 a0)), (.live true false [(.v (.slice none 0 0)), (.v (.slice none 0 0))]), (.live true false [(.s 0 0 a0.length 10), (iv a1), (.s 3 0 v3n 1), (.s 4 0 v4n 8)]), (.live true true v3c), (.live true true v4c)]⟩

def S34_L_0 (a0 : List (((Int × Int × Int) × (Int × Int × Int) × Int × Int × Int) × Int)) (a1 : Int) : List (Int) × (List (Int × Int × Int × Int × (Int × Int × Int) × Int)) × Int → (List (Int) × (List (Int × Int × Int × Int × (Int × Int × Int) × Int)) × Int) ⊕ (List (Int) × List (Int × Int × Int × Int × (Int × Int × Int) × Int))
  | (v3, v4, v5) =>
   (bif (decide ((v5 : Int) < ((a0.length : Nat) : Int))) then
    (.inl ((v3 ++ [v5]), v4, (v5 + 1)))
   else
    (bif (decide ((((a0.length : Nat) : Int) : Int) > 0)) then
     (.inr ((F57 (a0, a1, (v3, v4)) 0 ((a0.length : Nat) : Int)).2.2.2.1, (F57 (a0, a1, (v3, v4)) 0 ((a0.length : Nat) : Int)).2.2.2.2))
    else
     (.inr (v3, v4))))

set_option maxHeartbeats 4000000 in
theorem L34_L_0 (a0 : List (((Int × Int × Int) × (Int × Int × Int) × Int × Int × Int) × Int)) (a1 : Int) (l0 : a0.length ≤ 9223372036854775807) (hl : a0.length ≤ 12) (hf : 1 ≤ a1) {cx : Cx} (hcx : cx.base = 1) : ∀ (n : Nat) (v3 : List (Int)) (v4 : List (Int × Int × Int × Int × (Int × Int × Int) × Int)) (v5 : Int), (0 ≤ v5) ∧ (v3.length = Int.toNat v5) ∧ (InR a0.length v3) ∧ (v4.length = 0) ∧ (v5 ≤ a0.length) ∧ (a0.length ≤ 12) ∧ (1 ≤ a1) → Int.toNat (((a0.length : Nat) : Int) - v5) < n → Aw.Good Try.prog none 9 (bodyPost Try.prog Try.f34 (RR cx (.a [(.s 1 0 (loopF (S34_L_0 a0 a1) n (v3, v4, v5)).1.length 1), (.s 2 0 (loopF (S34_L_0 a0 a1) n (v3, v4, v5)).2.length 8)]) [(.live true true (flat c3 (loopF (S34_L_0 a0 a1) n (v3, v4, v5)).1)), (.live true true (flat c40 (loopF (S34_L_0 a0 a1) n (v3, v4, v5)).2))] [])) cx [] (.l B34_L_0 n :: K34_L_0) (st34_L_0 a0 a1 (flat c3 v3) v3.length (flat c40 v4) v4.length v5) := by
  intro n
  induction n with
  | zero => intro v3 v4 v5 hi hn; exact absurd hn (Nat.not_lt_zero _)
  | succ n ih =>
    intro v3 v4 v5 hi hn
    refine good_round ?_
    cases h0 : (decide ((v5 : Int) < ((a0.length : Nat) : Int))) with
    | true =>
     have q0 := of_decide_eq_true h0
     have e := Eq.refl (S34_L_0 a0 a1 (v3, v4, v5)); conv at e => rhs; simp only [S34_L_0, h0, cond_true, cond_false]
     rw [loopF_inl e]
     refine ba [.d h0, .p (show ((flat c3 v3).length = v3.length * 1 ∧ v3.length + 1 ≤ 2 ^ 40 ∧ (v3.length + 1) * 8 ≤ 2 ^ 47) from app_ok c3_len (by omega) (by omega))] [] [0, 4, 5, 12, 13] [1, 2, 6, 4] hcx (m := n) B34_L_0 (K34_L_0) (st34_L_0 a0 a1 (flat c3 v3 ++ [(iv v5)]) (v3.length + 1) (flat c40 v4) (v4.length) (W (v5 + 1))) (by kernel_rfl) ?_
     have z0 : (W (v5 + 1)) = (v5 + 1) := W_eq (by omega) (by omega)
     have z1 : (flat c3 v3 ++ [(iv v5)]) = (flat c3 (v3 ++ [v5])) := (flat_append (c := c3) (l := v3) (m := [v5])).symm
     have z2 : (v3.length + 1) = (v3 ++ [v5]).length := len_app v3 [v5] rfl
     rw [z0, z1, z2]
     exact ih (v3 ++ [v5]) v4 (v5 + 1) (by refine ⟨?_, ?_, ?_, ?_, ?_, ?_, ?_⟩ <;> first | omega | assumption | exact InR.nil _ | exact hi.2.2.1 | exact hi.2.2.1.add (by omega) | (simp only [List.length_append, List.length_cons, List.length_nil, Int.toNat_zero]; omega) | simp) (by (try simp only [List.length_append, List.length_cons, List.length_nil, Int.toNat_zero]); omega)
    | false =>
     have q0 := of_decide_eq_false h0
     let t1 : List (St Try.prog) := [.d h0]
     cases h1 : (decide ((((a0.length : Nat) : Int) : Int) > 0)) with
     | true =>
      have q1 := of_decide_eq_true h1
      have e := Eq.refl (S34_L_0 a0 a1 (v3, v4, v5)); conv at e => rhs; simp only [S34_L_0, h0, h1, cond_true, cond_false]
      rw [loopF_s, e]
      exact rt (t1 ++ [.d h1, .c [2, 0, 3, 4] (C57 (a0, a1, (v3, v4)) 0 ((a0.length : Nat) : Int) (by (try simp only [List.length_append, List.length_cons, List.length_nil, Int.toNat_zero]); omega) (by (try simp only [List.length_append, List.length_cons, List.length_nil, Int.toNat_zero]); omega) (by (try simp only [List.length_append, List.length_cons, List.length_nil, Int.toNat_zero]); omega) (by refine ⟨?_, ?_, ?_, ?_, ?_⟩ <;> first | exact hi.2.2.1 | (simp only []; omega) | omega))]) [] [3, 5] hcx (by kernel_rfl)
     | false =>
      have q1 := of_decide_eq_false h1
      have e := Eq.refl (S34_L_0 a0 a1 (v3, v4, v5)); conv at e => rhs; simp only [S34_L_0, h0, h1, cond_true, cond_false]
      rw [loopF_s, e]
      exact rt (t1 ++ [.d h1]) [] [3, 4] hcx (by kernel_rfl)

def F34_L (a0 : List (((Int × Int × Int) × (Int × Int × Int) × Int × Int × Int) × Int)) (a1 : Int) : List (Int) × List (Int × Int × Int × Int × (Int × Int × Int) × Int) :=
  (loopF (S34_L_0 a0 a1) (Int.toNat (((a0.length : Nat) : Int) - 0) + 1) (([] : List (Int)), ([] : List (Int × Int × Int × Int × (Int × Int × Int) × Int)), 0))

theorem C34_L (a0 : List (((Int × Int × Int) × (Int × Int × Int) × Int × Int × Int) × Int)) (a1 : Int) (l0 : a0.length ≤ 9223372036854775807) (hl : a0.length ≤ 12) (hf : 1 ≤ a1) : Con Try.prog 34 [(.s 0 0 a0.length 10), (iv a1)] [(.live false true (flat c81 a0))] (.a [(.s 1 0 (F34_L a0 a1).1.length 1), (.s 2 0 (F34_L a0 a1).2.length 8)]) [(.live true true (flat c3 (F34_L a0 a1).1)), (.live true true (flat c40 (F34_L a0 a1).2))] := by
  refine con_s Try.func34 (by kernel_rfl) fun cx hcx => ?_
  have e := Eq.refl (F34_L a0 a1); conv at e => rhs; simp only [F34_L]
  rw [e]
  refine en [] [.cell 2 2 1, .cell 2 3 8] [0, 4, 5, 12, 13] [1, 2, 3, 4] hcx B34_L_0 (K34_L_0) (st34_L_0 a0 a1 (flat c3 ([] : List (Int))) 0 (flat c40 ([] : List (Int × Int × Int × Int × (Int × Int × Int) × Int))) 0 0) (Int.toNat (((a0.length : Nat) : Int) - 0) + 1) (by kernel_rfl) ?_
  exact L34_L_0 a0 a1 l0 hl hf hcx (Int.toNat (((a0.length : Nat) : Int) - 0) + 1) ([] : List (Int)) ([] : List (Int × Int × Int × Int × (Int × Int × Int) × Int)) 0 (by refine ⟨?_, ?_, ?_, ?_, ?_, ?_, ?_⟩ <;> first | omega | assumption | exact InR.nil _ | exact hi.2.2.1 | exact hi.2.2.1.add (by omega) | (simp only [List.length_append, List.length_cons, List.length_nil, Int.toNat_zero]; omega) | simp) (by (try simp only [List.length_append, List.length_cons, List.length_nil, Int.toNat_zero]); omega)

end Go.Proofs.Ytnbpiejjeeomkaa

namespace Go.Proofs.Ytnbpiejjeeomkaa
open Go.Proofs Go.Aw Go.RowKit
set_option maxRecDepth 100000
set_option linter.unusedVariables false
set_option linter.unusedSimpArgs false

noncomputable def B17_0 : Code := (loopAtD [1, 1, 0, 1] [] (bodyOf Try.f17) []).1
noncomputable def K17_0 : List K := (loopAtD [1, 1, 0, 1] [] (bodyOf Try.f17) []).2

def st17_0 (a0 : List (Int) × List (Int × Int × Int × Int × (Int × Int × Int) × Int)) (v1 : Int) (v2 : Int) : LS := ⟨slN 20 [(3, (iv v1)), (7, (.s 1 0 a0.2.length 8)), (8, (iv ((a0.2.length : Nat) : Int))), (9, (iv v2))], [(.live false true (flat c3 a0.1)), (.live false true (flat c40 a0.2))]⟩

def S17_0 (a0 : List (Int) × List (Int × Int × Int × Int × (Int × Int × Int) × Int)) : Int × Int → (Int × Int) ⊕ (Int)
  | (v1, v2) =>
   (bif (decide ((v2 : Int) < ((a0.2.length : Nat) : Int))) then
    (bif (decide (((a0.2.getD (Int.toNat v2) default).2.2.1 : Int) < 0)) then
     (.inl ((W (v1 + 1)), (v2 + 1)))
    else
     (.inl (v1, (v2 + 1))))
   else
    (.inr v1))

set_option maxHeartbeats 4000000 in
theorem L17_0 (a0 : List (Int) × List (Int × Int × Int × Int × (Int × Int × Int) × Int)) (l0_1 : a0.1.length ≤ 9223372036854775807) (l0_2 : a0.2.length ≤ 9223372036854775807) (hl : a0.2.length ≤ 1048576) {cx : Cx} (hcx : cx.base = 2) : ∀ (n : Nat) (v1 : Int) (v2 : Int), 0 ≤ v2 → Int.toNat (((a0.2.length : Nat) : Int) - v2) < n → Aw.Good Try.prog none 9 (bodyPost Try.prog Try.f17 (RR cx (iv (loopF (S17_0 a0) n (v1, v2))) [] [])) cx [] (.l B17_0 n :: K17_0) (st17_0 a0 v1 v2) := by
  intro n
  induction n with
  | zero => intro v1 v2 hi hn; exact absurd hn (Nat.not_lt_zero _)
  | succ n ih =>
    intro v1 v2 hi hn
    refine good_round ?_
    cases h0 : (decide ((v2 : Int) < ((a0.2.length : Nat) : Int))) with
    | true =>
     have q0 := of_decide_eq_true h0
     let t1 : List (St Try.prog) := [.d h0, .i v2 (a0.2.length), .L c40_len a0.2 v2 0 8]
     cases h1 : (decide (((a0.2.getD (Int.toNat v2) default).2.2.1 : Int) < 0)) with
     | true =>
      have q1 := of_decide_eq_true h1
      have e := Eq.refl (S17_0 a0 (v1, v2)); conv at e => rhs; simp only [S17_0, h0, h1, cond_true, cond_false]
      rw [loopF_inl e]
      refine ba (t1 ++ [.d h1]) [] [3, 7, 8, 9] [] hcx (m := n) B17_0 (K17_0) (st17_0 a0 (W (v1 + 1)) (W (v2 + 1))) (by kernel_rfl) ?_
      have z0 : (W (v2 + 1)) = (v2 + 1) := W_eq (by omega) (by omega)
      rw [z0]
      exact ih (W (v1 + 1)) (v2 + 1) (by (try simp only [List.length_append, List.length_cons, List.length_nil, Int.toNat_zero]); omega) (by (try simp only [List.length_append, List.length_cons, List.length_nil, Int.toNat_zero]); omega)
     | false =>
      have q1 := of_decide_eq_false h1
      have e := Eq.refl (S17_0 a0 (v1, v2)); conv at e => rhs; simp only [S17_0, h0, h1, cond_true, cond_false]
      rw [loopF_inl e]
      refine ba (t1 ++ [.d h1]) [] [3, 7, 8, 9] [] hcx (m := n) B17_0 (K17_0) (st17_0 a0 v1 (W (v2 + 1))) (by kernel_rfl) ?_
      have z0 : (W (v2 + 1)) = (v2 + 1) := W_eq (by omega) (by omega)
      rw [z0]
      exact ih v1 (v2 + 1) (by (try simp only [List.length_append, List.length_cons, List.length_nil, Int.toNat_zero]); omega) (by (try simp only [List.length_append, List.length_cons, List.length_nil, Int.toNat_zero]); omega)
    | false =>
     have q0 := of_decide_eq_false h0
     have e := Eq.refl (S17_0 a0 (v1, v2)); conv at e => rhs; simp only [S17_0, h0, cond_true, cond_false]
     rw [loopF_s, e]
     exact rt [.d h0] [] [] hcx (by kernel_rfl)

def F17 (a0 : List (Int) × List (Int × Int × Int × Int × (Int × Int × Int) × Int)) : Int :=
  (loopF (S17_0 a0) (Int.toNat (((a0.2.length : Nat) : Int) - 0) + 1) (0, 0))

theorem C17 (a0 : List (Int) × List (Int × Int × Int × Int × (Int × Int × Int) × Int)) (l0_1 : a0.1.length ≤ 9223372036854775807) (l0_2 : a0.2.length ≤ 9223372036854775807) (hl : a0.2.length ≤ 1048576) : Con Try.prog 17 [(.a [(.s 0 0 a0.1.length 1), (.s 1 0 a0.2.length 8)])] [(.live false true (flat c3 a0.1)), (.live false true (flat c40 a0.2))] (iv (F17 a0)) [] := by
  refine con_s Try.func17 (by kernel_rfl) fun cx hcx => ?_
  have e := Eq.refl (F17 a0); conv at e => rhs; simp only [F17]
  rw [e]
  refine en [] [] [3, 7, 8, 9] [] hcx B17_0 (K17_0) (st17_0 a0 0 0) (Int.toNat (((a0.2.length : Nat) : Int) - 0) + 1) (by kernel_rfl) ?_
  exact L17_0 a0 l0_1 l0_2 hl hcx (Int.toNat (((a0.2.length : Nat) : Int) - 0) + 1) 0 0 (by (try simp only [List.length_append, List.length_cons, List.length_nil, Int.toNat_zero]); omega) (by (try simp only [List.length_append, List.length_cons, List.length_nil, Int.toNat_zero]); omega)

noncomputable def B31_0 : Code := (loopAtD [1, 1, 0, 1] [] (bodyOf Try.f31) []).1
noncomputable def K31_0 : List K := (loopAtD [1, 1, 0, 1] [] (bodyOf Try.f31) []).2

def st31_0 (v2c : List SV) (v2n : Nat) (v3 : Int) : LS := ⟨slN 23 [(1, (.s 0 0 v2n 10)), (2, (iv v3))], [(.live true true v2c)]⟩

def S31_0 : (List (((Int × Int × Int) × (Int × Int × Int) × Int × Int × Int) × Int)) × Int → ((List (((Int × Int × Int) × (Int × Int × Int) × Int × Int × Int) × Int)) × Int) ⊕ (List (((Int × Int × Int) × (Int × Int × Int) × Int × Int × Int) × Int))
  | (v2, v3) =>
   (bif (decide ((v3 : Int) < 4)) then
    (.inl ((v2 ++ [((((W (9 * v3)), 0, 0), ((W ((W (9 * v3)) + 1)), 0, 0), ((W (9 * v3)), 1, 0)), 1)]), (v3 + 1)))
   else
    (.inr v2))

set_option maxHeartbeats 4000000 in
theorem L31_0 {cx : Cx} (hcx : cx.base = 0) : ∀ (n : Nat) (v2 : List (((Int × Int × Int) × (Int × Int × Int) × Int × Int × Int) × Int)) (v3 : Int), (0 ≤ v3) ∧ (v2.length = Int.toNat v3) ∧ (v3 ≤ 4) → Int.toNat (4 - v3) < n → Aw.Good Try.prog none 9 (bodyPost Try.prog Try.f31 (RR cx (.s 0 0 (loopF (S31_0) n (v2, v3)).length 10) [(.live true true (flat c81 (loopF (S31_0) n (v2, v3))))] [])) cx [] (.l B31_0 n :: K31_0) (st31_0 (flat c81 v2) v2.length v3) := by
  intro n
  induction n with
  | zero => intro v2 v3 hi hn; exact absurd hn (Nat.not_lt_zero _)
  | succ n ih =>
    intro v2 v3 hi hn
    refine good_round ?_
    cases h0 : (decide ((v3 : Int) < 4)) with
    | true =>
     have q0 := of_decide_eq_true h0
     have e := Eq.refl (S31_0 (v2, v3)); conv at e => rhs; simp only [S31_0, h0, cond_true, cond_false]
     rw [loopF_inl e]
     refine ba [.d h0, .p (show ((flat c81 v2).length = v2.length * 10 ∧ v2.length + 1 ≤ 2 ^ 40 ∧ (v2.length + 1) * 80 ≤ 2 ^ 47) from app_ok c81_len (by omega) (by omega))] [] [1, 2] [2] hcx (m := n) B31_0 (K31_0) (st31_0 (flat c81 v2 ++ [(iv (W (9 * v3))), (iv 0), (iv 0), (iv (W ((W (9 * v3)) + 1))), (iv 0), (iv 0), (iv (W (9 * v3))), (iv 1), (iv 0), (iv 1)]) (v2.length + 1) (W (v3 + 1))) (by kernel_rfl) ?_
     have z0 : (W (v3 + 1)) = (v3 + 1) := W_eq (by omega) (by omega)
     have z1 : (flat c81 v2 ++ [(iv (W (9 * v3))), (iv 0), (iv 0), (iv (W ((W (9 * v3)) + 1))), (iv 0), (iv 0), (iv (W (9 * v3))), (iv 1), (iv 0), (iv 1)]) = (flat c81 (v2 ++ [((((W (9 * v3)), 0, 0), ((W ((W (9 * v3)) + 1)), 0, 0), ((W (9 * v3)), 1, 0)), 1)])) := (flat_append (c := c81) (l := v2) (m := [((((W (9 * v3)), 0, 0), ((W ((W (9 * v3)) + 1)), 0, 0), ((W (9 * v3)), 1, 0)), 1)])).symm
     have z2 : (v2.length + 1) = (v2 ++ [((((W (9 * v3)), 0, 0), ((W ((W (9 * v3)) + 1)), 0, 0), ((W (9 * v3)), 1, 0)), 1)]).length := len_app v2 [((((W (9 * v3)), 0, 0), ((W ((W (9 * v3)) + 1)), 0, 0), ((W (9 * v3)), 1, 0)), 1)] rfl
     rw [z0, z1, z2]
     exact ih (v2 ++ [((((W (9 * v3)), 0, 0), ((W ((W (9 * v3)) + 1)), 0, 0), ((W (9 * v3)), 1, 0)), 1)]) (v3 + 1) (by refine ⟨?_, ?_, ?_⟩ <;> (try simp only [List.length_append, List.length_cons, List.length_nil, Int.toNat_zero]) <;> first | omega | assumption | simp) (by (try simp only [List.length_append, List.length_cons, List.length_nil, Int.toNat_zero]); omega)
    | false =>
     have q0 := of_decide_eq_false h0
     have e := Eq.refl (S31_0 (v2, v3)); conv at e => rhs; simp only [S31_0, h0, cond_true, cond_false]
     rw [loopF_s, e]
     exact rt [.d h0] [] [0] hcx (by kernel_rfl)

def F31 : List (((Int × Int × Int) × (Int × Int × Int) × Int × Int × Int) × Int) :=
  (loopF (S31_0) (Int.toNat (4 - 0) + 1) (([] : List (((Int × Int × Int) × (Int × Int × Int) × Int × Int × Int) × Int)), 0))

theorem C31 : Con Try.prog 31 [] [] (.s 0 0 F31.length 10) [(.live true true (flat c81 F31))] := by
  refine con_s Try.func31 (by kernel_rfl) fun cx hcx => ?_
  have e := Eq.refl F31; conv at e => rhs; simp only [F31]
  rw [e]
  refine en [] [.slot 1 10] [1, 2] [0] hcx B31_0 (K31_0) (st31_0 (flat c81 ([] : List (((Int × Int × Int) × (Int × Int × Int) × Int × Int × Int) × Int))) 0 0) (Int.toNat (4 - 0) + 1) (by kernel_rfl) ?_
  exact L31_0 hcx (Int.toNat (4 - 0) + 1) ([] : List (((Int × Int × Int) × (Int × Int × Int) × Int × Int × Int) × Int)) 0 (by refine ⟨?_, ?_, ?_⟩ <;> (try simp only [List.length_append, List.length_cons, List.length_nil, Int.toNat_zero]) <;> first | omega | assumption | simp) (by (try simp only [List.length_append, List.length_cons, List.length_nil, Int.toNat_zero]); omega)

def F33 (a0 : Int) (a1 : Int) (a2 : Int) : Bool :=
  (bif (decide ((a0 : Int) ≥ a1)) then
   (decide ((a0 : Int) ≤ a2))
  else
   false)

theorem C33 (a0 : Int) (a1 : Int) (a2 : Int) : Con Try.prog 33 [(iv a0), (iv a1), (iv a2)] [] (.v (.bool (F33 a0 a1 a2))) [] := by
  refine con_s Try.func33 (by kernel_rfl) fun cx hcx => ?_
  cases h0 : (decide ((a0 : Int) ≥ a1)) with
  | true =>
   have q0 := of_decide_eq_true h0
   have e := Eq.refl (F33 a0 a1 a2); conv at e => rhs; simp only [F33, h0, cond_true, cond_false]
   rw [e]
   exact rt [.d h0] [] [] hcx (by kernel_rfl)
  | false =>
   have q0 := of_decide_eq_false h0
   have e := Eq.refl (F33 a0 a1 a2); conv at e => rhs; simp only [F33, h0, cond_true, cond_false]
   rw [e]
   exact rt [.d h0] [] [] hcx (by kernel_rfl)

theorem wit_1 {n m k : Int} (h : (!(F33 n k m)) = false) : k ≤ n := by
  simp only [F33] at h
  by_cases h1 : n ≥ k
  · exact h1
  · rw [decide_eq_false h1] at h; simp at h

def F11_L (a0 : List (((Int × Int × Int) × (Int × Int × Int) × Int × Int × Int) × Int)) (a1 : Int) : (List (Int) × List (Int × Int × Int × Int × (Int × Int × Int) × Int)) × Int :=
  (bif (((F32_L a0) : Int) != 0) then
   ((([] : List (Int)), ([] : List (Int × Int × Int × Int × (Int × Int × Int) × Int))), (F32_L a0))
  else
   (bif (!(F33 a1 1 16)) then
    ((([] : List (Int)), ([] : List (Int × Int × Int × Int × (Int × Int × Int) × Int))), 1)
   else
    (((F34_L a0 a1).1, (F34_L a0 a1).2), 0)))

theorem C11_L (a0 : List (((Int × Int × Int) × (Int × Int × Int) × Int × Int × Int) × Int)) (a1 : Int) (l0 : a0.length ≤ 9223372036854775807) (hl : a0.length ≤ 12) : Con Try.prog 11 [(.s 0 0 a0.length 10), (iv a1)] [(.live false true (flat c81 a0))] (.t [(.a [(.s 1 0 (F11_L a0 a1).1.1.length 1), (.s 2 0 (F11_L a0 a1).1.2.length 8)]), (iv (F11_L a0 a1).2)]) [(.live true true (flat c3 (F11_L a0 a1).1.1)), (.live true true (flat c40 (F11_L a0 a1).1.2))] := by
  refine con_s Try.func11 (by kernel_rfl) fun cx hcx => ?_
  let t0 : List (St Try.prog) := [.c [0] (C32_L a0 (by (try simp only [List.length_append, List.length_cons, List.length_nil, Int.toNat_zero]); omega))]
  cases h0 : (((F32_L a0) : Int) != 0) with
  | true =>
   have q0 := bne_iff_ne.1 h0
   have e := Eq.refl (F11_L a0 a1); conv at e => rhs; simp only [F11_L, h0, cond_true, cond_false]
   rw [e]
   exact rt (t0 ++ [.d h0]) [.cell 1 0 1, .cell 1 1 8] [2, 3] hcx (by kernel_rfl)
  | false =>
   have q0 := bne_eq_false_iff_eq.1 h0
   let t1 : List (St Try.prog) := (t0 ++ [.d h0, .c [] (C33 a1 1 16)])
   cases h1 : (!(F33 a1 1 16)) with
   | true =>
    have e := Eq.refl (F11_L a0 a1); conv at e => rhs; simp only [F11_L, h0, h1, cond_true, cond_false]
    rw [e]
    exact rt (t1 ++ [.d h1]) [.cell 1 0 1, .cell 1 1 8] [2, 3] hcx (by kernel_rfl)
   | false =>
    have e := Eq.refl (F11_L a0 a1); conv at e => rhs; simp only [F11_L, h0, h1, cond_true, cond_false]
    rw [e]
    exact rt (t1 ++ [.d h1, .c [0] (C34_L a0 a1 (by (try simp only [List.length_append, List.length_cons, List.length_nil, Int.toNat_zero]); omega) hl (wit_1 h1))]) [] [2, 3] hcx (by kernel_rfl)

end Go.Proofs.Ytnbpiejjeeomkaa

namespace Go.Proofs.Ytnbpiejjeeomkaa
open Go.Proofs Go.Aw Go.RowKit
set_option maxRecDepth 100000
set_option linter.unusedVariables false
set_option linter.unusedSimpArgs false

noncomputable def B18_0 : Code := (loopAtD [1, 1, 0, 1] [] (bodyOf Try.f18) []).1
noncomputable def K18_0 : List K := (loopAtD [1, 1, 0, 1] [] (bodyOf Try.f18) []).2

def st18_0 (a0 : List (Int) × List (Int × Int × Int × Int × (Int × Int × Int) × Int)) (v1c : List SV) (v1n : Nat) (v2 : Int) : LS := ⟨slN 69 [(1, (.p 2 0)), (3, (.s 3 0 v1n 1)), (4, (iv v2))], [(.live false true (flat c3 a0.1)), (.live false true (flat c40 a0.2)), (.live true false [(.s 0 0 a0.1.length 1), (.s 1 0 a0.2.length 8)]), (.live true true v1c)]⟩

def S18_0 (a0 : List (Int) × List (Int × Int × Int × Int × (Int × Int × Int) × Int)) : List (Int) × Int → (List (Int) × Int) ⊕ (Int)
  | (v1, v2) =>
   (bif (decide ((v2 : Int) ≥ 0)) then
    (bif (decide (((a0.2.getD (Int.toNat v2) default).2.2.1 : Int) > v2)) then
     (bif (decide (((a0.2.getD (Int.toNat v2) default).2.2.1 : Int) < ((v1.length : Nat) : Int))) then
      (bif (decide (((a0.2.getD (Int.toNat v2) default).2.2.2.1 : Int) > v2)) then
       (bif (decide (((a0.2.getD (Int.toNat v2) default).2.2.2.1 : Int) < ((v1.length : Nat) : Int))) then
        (.inl ((((v1.set (Int.toNat v2) 1).set (Int.toNat v2) (imx ((v1.set (Int.toNat v2) 1).getD (Int.toNat v2) default) (W (((v1.set (Int.toNat v2) 1).getD (Int.toNat (a0.2.getD (Int.toNat v2) default).2.2.1) default) + 1)))).set (Int.toNat v2) (imx (((v1.set (Int.toNat v2) 1).set (Int.toNat v2) (imx ((v1.set (Int.toNat v2) 1).getD (Int.toNat v2) default) (W (((v1.set (Int.toNat v2) 1).getD (Int.toNat (a0.2.getD (Int.toNat v2) default).2.2.1) default) + 1)))).getD (Int.toNat v2) default) (W ((((v1.set (Int.toNat v2) 1).set (Int.toNat v2) (imx ((v1.set (Int.toNat v2) 1).getD (Int.toNat v2) default) (W (((v1.set (Int.toNat v2) 1).getD (Int.toNat (a0.2.getD (Int.toNat v2) default).2.2.1) default) + 1)))).getD (Int.toNat (a0.2.getD (Int.toNat v2) default).2.2.2.1) default) + 1)))), (W (v2 - 1))))
       else
        (.inl (((v1.set (Int.toNat v2) 1).set (Int.toNat v2) (imx ((v1.set (Int.toNat v2) 1).getD (Int.toNat v2) default) (W (((v1.set (Int.toNat v2) 1).getD (Int.toNat (a0.2.getD (Int.toNat v2) default).2.2.1) default) + 1)))), (W (v2 - 1)))))
      else
       (.inl (((v1.set (Int.toNat v2) 1).set (Int.toNat v2) (imx ((v1.set (Int.toNat v2) 1).getD (Int.toNat v2) default) (W (((v1.set (Int.toNat v2) 1).getD (Int.toNat (a0.2.getD (Int.toNat v2) default).2.2.1) default) + 1)))), (W (v2 - 1)))))
     else
      (bif (decide (((a0.2.getD (Int.toNat v2) default).2.2.2.1 : Int) > v2)) then
       (bif (decide (((a0.2.getD (Int.toNat v2) default).2.2.2.1 : Int) < ((v1.length : Nat) : Int))) then
        (.inl (((v1.set (Int.toNat v2) 1).set (Int.toNat v2) (imx ((v1.set (Int.toNat v2) 1).getD (Int.toNat v2) default) (W (((v1.set (Int.toNat v2) 1).getD (Int.toNat (a0.2.getD (Int.toNat v2) default).2.2.2.1) default) + 1)))), (W (v2 - 1))))
       else
        (.inl ((v1.set (Int.toNat v2) 1), (W (v2 - 1)))))
      else
       (.inl ((v1.set (Int.toNat v2) 1), (W (v2 - 1))))))
    else
     (bif (decide (((a0.2.getD (Int.toNat v2) default).2.2.2.1 : Int) > v2)) then
      (bif (decide (((a0.2.getD (Int.toNat v2) default).2.2.2.1 : Int) < ((v1.length : Nat) : Int))) then
       (.inl (((v1.set (Int.toNat v2) 1).set (Int.toNat v2) (imx ((v1.set (Int.toNat v2) 1).getD (Int.toNat v2) default) (W (((v1.set (Int.toNat v2) 1).getD (Int.toNat (a0.2.getD (Int.toNat v2) default).2.2.2.1) default) + 1)))), (W (v2 - 1))))
      else
       (.inl ((v1.set (Int.toNat v2) 1), (W (v2 - 1)))))
     else
      (.inl ((v1.set (Int.toNat v2) 1), (W (v2 - 1))))))
   else
    (bif ((((v1.length : Nat) : Int) : Int) == 0) then
     (.inr 0)
    else
     (.inr (v1.getD (Int.toNat 0) default))))

set_option maxHeartbeats 4000000 in
theorem L18_0 (a0 : List (Int) × List (Int × Int × Int × Int × (Int × Int × Int) × Int)) (l0_1 : a0.1.length ≤ 9223372036854775807) (l0_2 : a0.2.length ≤ 9223372036854775807) (hl : a0.2.length ≤ 1048576) {cx : Cx} (hcx : cx.base = 2) : ∀ (n : Nat) (v1 : List (Int)) (v2 : Int), (v1.length = a0.2.length) ∧ (-1 ≤ v2) ∧ (v2 < a0.2.length) → Int.toNat (v2 + 1) < n → Aw.Good Try.prog none 9 (bodyPost Try.prog Try.f18 (RR cx (iv (loopF (S18_0 a0) n (v1, v2))) [] [])) cx [] (.l B18_0 n :: K18_0) (st18_0 a0 (flat c3 v1) v1.length v2) := by
  intro n
  induction n with
  | zero => intro v1 v2 hi hn; exact absurd hn (Nat.not_lt_zero _)
  | succ n ih =>
    intro v1 v2 hi hn
    refine good_round ?_
    have hw_i := W_eq (n := v2 - 1) (by omega) (by omega)
    cases h0 : (decide ((v2 : Int) ≥ 0)) with
    | true =>
     have q0 := of_decide_eq_true h0
     let t1 : List (St Try.prog) := [.d h0, .i v2 (v1.length), .p (show ((0 + Int.toNat v2 * 1) + 1 ≤ (flat c3 v1).length) from (flat_setl c3_len (by first | omega | (simp only [List.length_set]; omega)) (i := Int.toNat v2) (o := 0) (n := 1) (Nat.le_of_ble_eq_true rfl))), .i v2 (a0.2.length), .L c40_len a0.2 v2 2 1, .i v2 (a0.2.length), .L c40_len a0.2 v2 3 1, .u 200, .T, .i 0 2 (by decide)]
     cases h1 : (decide (((a0.2.getD (Int.toNat v2) default).2.2.1 : Int) > v2)) with
     | true =>
      have q1 := of_decide_eq_true h1
      let t2 : List (St Try.prog) := (t1 ++ [.d h1])
      cases h2 : (decide (((a0.2.getD (Int.toNat v2) default).2.2.1 : Int) < ((v1.length : Nat) : Int))) with
      | true =>
       have q2 := of_decide_eq_true h2
       let t3 : List (St Try.prog) := (t2 ++ [.d h2, .i v2 (v1.length), .R c3_len (v1.set (Int.toNat v2) 1) v2 0 1 (show (splice (flat c3 v1) (0 + Int.toNat v2 * 1) [(iv 1)]) = flat c3 (v1.set (Int.toNat v2) 1) from (flat_set c3_len (by first | omega | (simp only [List.length_set]; omega)) (i := Int.toNat v2) (o := 0) (d := default) (y := 1) (xs := [(iv 1)]) (Nat.le_of_ble_eq_true rfl) rfl)), .i ((a0.2.getD (Int.toNat v2) default).2.2.1) (v1.length), .R c3_len (v1.set (Int.toNat v2) 1) (a0.2.getD (Int.toNat v2) default).2.2.1 0 1 (show (splice (flat c3 v1) (0 + Int.toNat v2 * 1) [(iv 1)]) = flat c3 (v1.set (Int.toNat v2) 1) from (flat_set c3_len (by first | omega | (simp only [List.length_set]; omega)) (i := Int.toNat v2) (o := 0) (d := default) (y := 1) (xs := [(iv 1)]) (Nat.le_of_ble_eq_true rfl) rfl)), .i v2 (v1.length), .p (show ((0 + Int.toNat v2 * 1) + 1 ≤ (splice (flat c3 v1) (0 + Int.toNat v2 * 1) [(iv 1)]).length) from (by rw [show (splice (flat c3 v1) (0 + Int.toNat v2 * 1) [(iv 1)]) = flat c3 (v1.set (Int.toNat v2) 1) from (flat_set c3_len (by first | omega | (simp only [List.length_set]; omega)) (i := Int.toNat v2) (o := 0) (d := default) (y := 1) (xs := [(iv 1)]) (Nat.le_of_ble_eq_true rfl) rfl)]; exact flat_setl c3_len (by first | omega | (simp only [List.length_set]; omega)) (i := Int.toNat v2) (o := 0) (n := 1) (Nat.le_of_ble_eq_true rfl))), .u 0, .T, .i 1 2 (by decide)])
       cases h3 : (decide (((a0.2.getD (Int.toNat v2) default).2.2.2.1 : Int) > v2)) with
       | true =>
        have q3 := of_decide_eq_true h3
        let t4 : List (St Try.prog) := (t3 ++ [.d h3])
        cases h4 : (decide (((a0.2.getD (Int.toNat v2) default).2.2.2.1 : Int) < ((v1.length : Nat) : Int))) with
        | true =>
         have q4 := of_decide_eq_true h4
         have e := Eq.refl (S18_0 a0 (v1, v2)); conv at e => rhs; simp only [S18_0, h0, h1, h2, h3, h4, cond_true, cond_false]
         rw [loopF_inl e]
         refine ba (t4 ++ [.d h4, .i v2 (v1.length), .R c3_len ((v1.set (Int.toNat v2) 1).set (Int.toNat v2) (imx ((v1.set (Int.toNat v2) 1).getD (Int.toNat v2) default) (W (((v1.set (Int.toNat v2) 1).getD (Int.toNat (a0.2.getD (Int.toNat v2) default).2.2.1) default) + 1)))) v2 0 1 (show (splice (splice (flat c3 v1) (0 + Int.toNat v2 * 1) [(iv 1)]) (0 + Int.toNat v2 * 1) [(iv (imx ((v1.set (Int.toNat v2) 1).getD (Int.toNat v2) default) (W (((v1.set (Int.toNat v2) 1).getD (Int.toNat (a0.2.getD (Int.toNat v2) default).2.2.1) default) + 1))))]) = flat c3 ((v1.set (Int.toNat v2) 1).set (Int.toNat v2) (imx ((v1.set (Int.toNat v2) 1).getD (Int.toNat v2) default) (W (((v1.set (Int.toNat v2) 1).getD (Int.toNat (a0.2.getD (Int.toNat v2) default).2.2.1) default) + 1)))) from (by rw [show (splice (flat c3 v1) (0 + Int.toNat v2 * 1) [(iv 1)]) = flat c3 (v1.set (Int.toNat v2) 1) from (flat_set c3_len (by first | omega | (simp only [List.length_set]; omega)) (i := Int.toNat v2) (o := 0) (d := default) (y := 1) (xs := [(iv 1)]) (Nat.le_of_ble_eq_true rfl) rfl)]; exact flat_set c3_len (by first | omega | (simp only [List.length_set]; omega)) (i := Int.toNat v2) (o := 0) (d := default) (y := (imx ((v1.set (Int.toNat v2) 1).getD (Int.toNat v2) default) (W (((v1.set (Int.toNat v2) 1).getD (Int.toNat (a0.2.getD (Int.toNat v2) default).2.2.1) default) + 1)))) (xs := [(iv (imx ((v1.set (Int.toNat v2) 1).getD (Int.toNat v2) default) (W (((v1.set (Int.toNat v2) 1).getD (Int.toNat (a0.2.getD (Int.toNat v2) default).2.2.1) default) + 1))))]) (Nat.le_of_ble_eq_true rfl) rfl)), .i ((a0.2.getD (Int.toNat v2) default).2.2.2.1) (v1.length), .R c3_len ((v1.set (Int.toNat v2) 1).set (Int.toNat v2) (imx ((v1.set (Int.toNat v2) 1).getD (Int.toNat v2) default) (W (((v1.set (Int.toNat v2) 1).getD (Int.toNat (a0.2.getD (Int.toNat v2) default).2.2.1) default) + 1)))) (a0.2.getD (Int.toNat v2) default).2.2.2.1 0 1 (show (splice (splice (flat c3 v1) (0 + Int.toNat v2 * 1) [(iv 1)]) (0 + Int.toNat v2 * 1) [(iv (imx ((v1.set (Int.toNat v2) 1).getD (Int.toNat v2) default) (W (((v1.set (Int.toNat v2) 1).getD (Int.toNat (a0.2.getD (Int.toNat v2) default).2.2.1) default) + 1))))]) = flat c3 ((v1.set (Int.toNat v2) 1).set (Int.toNat v2) (imx ((v1.set (Int.toNat v2) 1).getD (Int.toNat v2) default) (W (((v1.set (Int.toNat v2) 1).getD (Int.toNat (a0.2.getD (Int.toNat v2) default).2.2.1) default) + 1)))) from (by rw [show (splice (flat c3 v1) (0 + Int.toNat v2 * 1) [(iv 1)]) = flat c3 (v1.set (Int.toNat v2) 1) from (flat_set c3_len (by first | omega | (simp only [List.length_set]; omega)) (i := Int.toNat v2) (o := 0) (d := default) (y := 1) (xs := [(iv 1)]) (Nat.le_of_ble_eq_true rfl) rfl)]; exact flat_set c3_len (by first | omega | (simp only [List.length_set]; omega)) (i := Int.toNat v2) (o := 0) (d := default) (y := (imx ((v1.set (Int.toNat v2) 1).getD (Int.toNat v2) default) (W (((v1.set (Int.toNat v2) 1).getD (Int.toNat (a0.2.getD (Int.toNat v2) default).2.2.1) default) + 1)))) (xs := [(iv (imx ((v1.set (Int.toNat v2) 1).getD (Int.toNat v2) default) (W (((v1.set (Int.toNat v2) 1).getD (Int.toNat (a0.2.getD (Int.toNat v2) default).2.2.1) default) + 1))))]) (Nat.le_of_ble_eq_true rfl) rfl)), .i v2 (v1.length), .p (show ((0 + Int.toNat v2 * 1) + 1 ≤ (splice (splice (flat c3 v1) (0 + Int.toNat v2 * 1) [(iv 1)]) (0 + Int.toNat v2 * 1) [(iv (imx ((v1.set (Int.toNat v2) 1).getD (Int.toNat v2) default) (W (((v1.set (Int.toNat v2) 1).getD (Int.toNat (a0.2.getD (Int.toNat v2) default).2.2.1) default) + 1))))]).length) from (by rw [show (splice (splice (flat c3 v1) (0 + Int.toNat v2 * 1) [(iv 1)]) (0 + Int.toNat v2 * 1) [(iv (imx ((v1.set (Int.toNat v2) 1).getD (Int.toNat v2) default) (W (((v1.set (Int.toNat v2) 1).getD (Int.toNat (a0.2.getD (Int.toNat v2) default).2.2.1) default) + 1))))]) = flat c3 ((v1.set (Int.toNat v2) 1).set (Int.toNat v2) (imx ((v1.set (Int.toNat v2) 1).getD (Int.toNat v2) default) (W (((v1.set (Int.toNat v2) 1).getD (Int.toNat (a0.2.getD (Int.toNat v2) default).2.2.1) default) + 1)))) from (by rw [show (splice (flat c3 v1) (0 + Int.toNat v2 * 1) [(iv 1)]) = flat c3 (v1.set (Int.toNat v2) 1) from (flat_set c3_len (by first | omega | (simp only [List.length_set]; omega)) (i := Int.toNat v2) (o := 0) (d := default) (y := 1) (xs := [(iv 1)]) (Nat.le_of_ble_eq_true rfl) rfl)]; exact flat_set c3_len (by first | omega | (simp only [List.length_set]; omega)) (i := Int.toNat v2) (o := 0) (d := default) (y := (imx ((v1.set (Int.toNat v2) 1).getD (Int.toNat v2) default) (W (((v1.set (Int.toNat v2) 1).getD (Int.toNat (a0.2.getD (Int.toNat v2) default).2.2.1) default) + 1)))) (xs := [(iv (imx ((v1.set (Int.toNat v2) 1).getD (Int.toNat v2) default) (W (((v1.set (Int.toNat v2) 1).getD (Int.toNat (a0.2.getD (Int.toNat v2) default).2.2.1) default) + 1))))]) (Nat.le_of_ble_eq_true rfl) rfl)]; exact flat_setl c3_len (by first | omega | (simp only [List.length_set]; omega)) (i := Int.toNat v2) (o := 0) (n := 1) (Nat.le_of_ble_eq_true rfl))), .u 0, .F]) [] [1, 3, 4] [2, 3] hcx (m := n) B18_0 (K18_0) (st18_0 a0 (splice (splice (splice (flat c3 v1) (0 + Int.toNat v2 * 1) [(iv 1)]) (0 + Int.toNat v2 * 1) [(iv (imx ((v1.set (Int.toNat v2) 1).getD (Int.toNat v2) default) (W (((v1.set (Int.toNat v2) 1).getD (Int.toNat (a0.2.getD (Int.toNat v2) default).2.2.1) default) + 1))))]) (0 + Int.toNat v2 * 1) [(iv (imx (((v1.set (Int.toNat v2) 1).set (Int.toNat v2) (imx ((v1.set (Int.toNat v2) 1).getD (Int.toNat v2) default) (W (((v1.set (Int.toNat v2) 1).getD (Int.toNat (a0.2.getD (Int.toNat v2) default).2.2.1) default) + 1)))).getD (Int.toNat v2) default) (W ((((v1.set (Int.toNat v2) 1).set (Int.toNat v2) (imx ((v1.set (Int.toNat v2) 1).getD (Int.toNat v2) default) (W (((v1.set (Int.toNat v2) 1).getD (Int.toNat (a0.2.getD (Int.toNat v2) default).2.2.1) default) + 1)))).getD (Int.toNat (a0.2.getD (Int.toNat v2) default).2.2.2.1) default) + 1))))]) (v1.length) (W (v2 - 1))) (by kernel_rfl) ?_
         have z0 : (splice (splice (splice (flat c3 v1) (0 + Int.toNat v2 * 1) [(iv 1)]) (0 + Int.toNat v2 * 1) [(iv (imx ((v1.set (Int.toNat v2) 1).getD (Int.toNat v2) default) (W (((v1.set (Int.toNat v2) 1).getD (Int.toNat (a0.2.getD (Int.toNat v2) default).2.2.1) default) + 1))))]) (0 + Int.toNat v2 * 1) [(iv (imx (((v1.set (Int.toNat v2) 1).set (Int.toNat v2) (imx ((v1.set (Int.toNat v2) 1).getD (Int.toNat v2) default) (W (((v1.set (Int.toNat v2) 1).getD (Int.toNat (a0.2.getD (Int.toNat v2) default).2.2.1) default) + 1)))).getD (Int.toNat v2) default) (W ((((v1.set (Int.toNat v2) 1).set (Int.toNat v2) (imx ((v1.set (Int.toNat v2) 1).getD (Int.toNat v2) default) (W (((v1.set (Int.toNat v2) 1).getD (Int.toNat (a0.2.getD (Int.toNat v2) default).2.2.1) default) + 1)))).getD (Int.toNat (a0.2.getD (Int.toNat v2) default).2.2.2.1) default) + 1))))]) = flat c3 (((v1.set (Int.toNat v2) 1).set (Int.toNat v2) (imx ((v1.set (Int.toNat v2) 1).getD (Int.toNat v2) default) (W (((v1.set (Int.toNat v2) 1).getD (Int.toNat (a0.2.getD (Int.toNat v2) default).2.2.1) default) + 1)))).set (Int.toNat v2) (imx (((v1.set (Int.toNat v2) 1).set (Int.toNat v2) (imx ((v1.set (Int.toNat v2) 1).getD (Int.toNat v2) default) (W (((v1.set (Int.toNat v2) 1).getD (Int.toNat (a0.2.getD (Int.toNat v2) default).2.2.1) default) + 1)))).getD (Int.toNat v2) default) (W ((((v1.set (Int.toNat v2) 1).set (Int.toNat v2) (imx ((v1.set (Int.toNat v2) 1).getD (Int.toNat v2) default) (W (((v1.set (Int.toNat v2) 1).getD (Int.toNat (a0.2.getD (Int.toNat v2) default).2.2.1) default) + 1)))).getD (Int.toNat (a0.2.getD (Int.toNat v2) default).2.2.2.1) default) + 1)))) := (by rw [show (splice (splice (flat c3 v1) (0 + Int.toNat v2 * 1) [(iv 1)]) (0 + Int.toNat v2 * 1) [(iv (imx ((v1.set (Int.toNat v2) 1).getD (Int.toNat v2) default) (W (((v1.set (Int.toNat v2) 1).getD (Int.toNat (a0.2.getD (Int.toNat v2) default).2.2.1) default) + 1))))]) = flat c3 ((v1.set (Int.toNat v2) 1).set (Int.toNat v2) (imx ((v1.set (Int.toNat v2) 1).getD (Int.toNat v2) default) (W (((v1.set (Int.toNat v2) 1).getD (Int.toNat (a0.2.getD (Int.toNat v2) default).2.2.1) default) + 1)))) from (by rw [show (splice (flat c3 v1) (0 + Int.toNat v2 * 1) [(iv 1)]) = flat c3 (v1.set (Int.toNat v2) 1) from (flat_set c3_len (by first | omega | (simp only [List.length_set]; omega)) (i := Int.toNat v2) (o := 0) (d := default) (y := 1) (xs := [(iv 1)]) (Nat.le_of_ble_eq_true rfl) rfl)]; exact flat_set c3_len (by first | omega | (simp only [List.length_set]; omega)) (i := Int.toNat v2) (o := 0) (d := default) (y := (imx ((v1.set (Int.toNat v2) 1).getD (Int.toNat v2) default) (W (((v1.set (Int.toNat v2) 1).getD (Int.toNat (a0.2.getD (Int.toNat v2) default).2.2.1) default) + 1)))) (xs := [(iv (imx ((v1.set (Int.toNat v2) 1).getD (Int.toNat v2) default) (W (((v1.set (Int.toNat v2) 1).getD (Int.toNat (a0.2.getD (Int.toNat v2) default).2.2.1) default) + 1))))]) (Nat.le_of_ble_eq_true rfl) rfl)]; exact flat_set c3_len (by first | omega | (simp only [List.length_set]; omega)) (i := Int.toNat v2) (o := 0) (d := default) (y := (imx (((v1.set (Int.toNat v2) 1).set (Int.toNat v2) (imx ((v1.set (Int.toNat v2) 1).getD (Int.toNat v2) default) (W (((v1.set (Int.toNat v2) 1).getD (Int.toNat (a0.2.getD (Int.toNat v2) default).2.2.1) default) + 1)))).getD (Int.toNat v2) default) (W ((((v1.set (Int.toNat v2) 1).set (Int.toNat v2) (imx ((v1.set (Int.toNat v2) 1).getD (Int.toNat v2) default) (W (((v1.set (Int.toNat v2) 1).getD (Int.toNat (a0.2.getD (Int.toNat v2) default).2.2.1) default) + 1)))).getD (Int.toNat (a0.2.getD (Int.toNat v2) default).2.2.2.1) default) + 1)))) (xs := [(iv (imx (((v1.set (Int.toNat v2) 1).set (Int.toNat v2) (imx ((v1.set (Int.toNat v2) 1).getD (Int.toNat v2) default) (W (((v1.set (Int.toNat v2) 1).getD (Int.toNat (a0.2.getD (Int.toNat v2) default).2.2.1) default) + 1)))).getD (Int.toNat v2) default) (W ((((v1.set (Int.toNat v2) 1).set (Int.toNat v2) (imx ((v1.set (Int.toNat v2) 1).getD (Int.toNat v2) default) (W (((v1.set (Int.toNat v2) 1).getD (Int.toNat (a0.2.getD (Int.toNat v2) default).2.2.1) default) + 1)))).getD (Int.toNat (a0.2.getD (Int.toNat v2) default).2.2.2.1) default) + 1))))]) (Nat.le_of_ble_eq_true rfl) rfl)
         have z1 : v1.length = (((v1.set (Int.toNat v2) 1).set (Int.toNat v2) (imx ((v1.set (Int.toNat v2) 1).getD (Int.toNat v2) default) (W (((v1.set (Int.toNat v2) 1).getD (Int.toNat (a0.2.getD (Int.toNat v2) default).2.2.1) default) + 1)))).set (Int.toNat v2) (imx (((v1.set (Int.toNat v2) 1).set (Int.toNat v2) (imx ((v1.set (Int.toNat v2) 1).getD (Int.toNat v2) default) (W (((v1.set (Int.toNat v2) 1).getD (Int.toNat (a0.2.getD (Int.toNat v2) default).2.2.1) default) + 1)))).getD (Int.toNat v2) default) (W ((((v1.set (Int.toNat v2) 1).set (Int.toNat v2) (imx ((v1.set (Int.toNat v2) 1).getD (Int.toNat v2) default) (W (((v1.set (Int.toNat v2) 1).getD (Int.toNat (a0.2.getD (Int.toNat v2) default).2.2.1) default) + 1)))).getD (Int.toNat (a0.2.getD (Int.toNat v2) default).2.2.2.1) default) + 1)))).length := by simp
         rw [z0, z1]
         exact ih (((v1.set (Int.toNat v2) 1).set (Int.toNat v2) (imx ((v1.set (Int.toNat v2) 1).getD (Int.toNat v2) default) (W (((v1.set (Int.toNat v2) 1).getD (Int.toNat (a0.2.getD (Int.toNat v2) default).2.2.1) default) + 1)))).set (Int.toNat v2) (imx (((v1.set (Int.toNat v2) 1).set (Int.toNat v2) (imx ((v1.set (Int.toNat v2) 1).getD (Int.toNat v2) default) (W (((v1.set (Int.toNat v2) 1).getD (Int.toNat (a0.2.getD (Int.toNat v2) default).2.2.1) default) + 1)))).getD (Int.toNat v2) default) (W ((((v1.set (Int.toNat v2) 1).set (Int.toNat v2) (imx ((v1.set (Int.toNat v2) 1).getD (Int.toNat v2) default) (W (((v1.set (Int.toNat v2) 1).getD (Int.toNat (a0.2.getD (Int.toNat v2) default).2.2.1) default) + 1)))).getD (Int.toNat (a0.2.getD (Int.toNat v2) default).2.2.2.1) default) + 1)))) (W (v2 - 1)) (by refine ⟨?_, ?_, ?_⟩ <;> (try simp only [List.length_append, List.length_cons, List.length_nil, Int.toNat_zero]) <;> first | omega | assumption | simp) (by (try simp only [List.length_append, List.length_cons, List.length_nil, Int.toNat_zero]); omega)
        | false =>
         have q4 := of_decide_eq_false h4
         have e := Eq.refl (S18_0 a0 (v1, v2)); conv at e => rhs; simp only [S18_0, h0, h1, h2, h3, h4, cond_true, cond_false]
         rw [loopF_inl e]
         refine ba (t4 ++ [.d h4, .u 0, .F]) [] [1, 3, 4] [2, 3] hcx (m := n) B18_0 (K18_0) (st18_0 a0 (splice (splice (flat c3 v1) (0 + Int.toNat v2 * 1) [(iv 1)]) (0 + Int.toNat v2 * 1) [(iv (imx ((v1.set (Int.toNat v2) 1).getD (Int.toNat v2) default) (W (((v1.set (Int.toNat v2) 1).getD (Int.toNat (a0.2.getD (Int.toNat v2) default).2.2.1) default) + 1))))]) (v1.length) (W (v2 - 1))) (by kernel_rfl) ?_
         have z0 : (splice (splice (flat c3 v1) (0 + Int.toNat v2 * 1) [(iv 1)]) (0 + Int.toNat v2 * 1) [(iv (imx ((v1.set (Int.toNat v2) 1).getD (Int.toNat v2) default) (W (((v1.set (Int.toNat v2) 1).getD (Int.toNat (a0.2.getD (Int.toNat v2) default).2.2.1) default) + 1))))]) = flat c3 ((v1.set (Int.toNat v2) 1).set (Int.toNat v2) (imx ((v1.set (Int.toNat v2) 1).getD (Int.toNat v2) default) (W (((v1.set (Int.toNat v2) 1).getD (Int.toNat (a0.2.getD (Int.toNat v2) default).2.2.1) default) + 1)))) := (by rw [show (splice (flat c3 v1) (0 + Int.toNat v2 * 1) [(iv 1)]) = flat c3 (v1.set (Int.toNat v2) 1) from (flat_set c3_len (by first | omega | (simp only [List.length_set]; omega)) (i := Int.toNat v2) (o := 0) (d := default) (y := 1) (xs := [(iv 1)]) (Nat.le_of_ble_eq_true rfl) rfl)]; exact flat_set c3_len (by first | omega | (simp only [List.length_set]; omega)) (i := Int.toNat v2) (o := 0) (d := default) (y := (imx ((v1.set (Int.toNat v2) 1).getD (Int.toNat v2) default) (W (((v1.set (Int.toNat v2) 1).getD (Int.toNat (a0.2.getD (Int.toNat v2) default).2.2.1) default) + 1)))) (xs := [(iv (imx ((v1.set (Int.toNat v2) 1).getD (Int.toNat v2) default) (W (((v1.set (Int.toNat v2) 1).getD (Int.toNat (a0.2.getD (Int.toNat v2) default).2.2.1) default) + 1))))]) (Nat.le_of_ble_eq_true rfl) rfl)
         have z1 : v1.length = ((v1.set (Int.toNat v2) 1).set (Int.toNat v2) (imx ((v1.set (Int.toNat v2) 1).getD (Int.toNat v2) default) (W (((v1.set (Int.toNat v2) 1).getD (Int.toNat (a0.2.getD (Int.toNat v2) default).2.2.1) default) + 1)))).length := by simp
         rw [z0, z1]
         exact ih ((v1.set (Int.toNat v2) 1).set (Int.toNat v2) (imx ((v1.set (Int.toNat v2) 1).getD (Int.toNat v2) default) (W (((v1.set (Int.toNat v2) 1).getD (Int.toNat (a0.2.getD (Int.toNat v2) default).2.2.1) default) + 1)))) (W (v2 - 1)) (by refine ⟨?_, ?_, ?_⟩ <;> (try simp only [List.length_append, List.length_cons, List.length_nil, Int.toNat_zero]) <;> first | omega | assumption | simp) (by (try simp only [List.length_append, List.length_cons, List.length_nil, Int.toNat_zero]); omega)
       | false =>
        have q3 := of_decide_eq_false h3
        have e := Eq.refl (S18_0 a0 (v1, v2)); conv at e => rhs; simp only [S18_0, h0, h1, h2, h3, cond_true, cond_false]
        rw [loopF_inl e]
        refine ba (t3 ++ [.d h3, .u 0, .F]) [] [1, 3, 4] [2, 3] hcx (m := n) B18_0 (K18_0) (st18_0 a0 (splice (splice (flat c3 v1) (0 + Int.toNat v2 * 1) [(iv 1)]) (0 + Int.toNat v2 * 1) [(iv (imx ((v1.set (Int.toNat v2) 1).getD (Int.toNat v2) default) (W (((v1.set (Int.toNat v2) 1).getD (Int.toNat (a0.2.getD (Int.toNat v2) default).2.2.1) default) + 1))))]) (v1.length) (W (v2 - 1))) (by kernel_rfl) ?_
        have z0 : (splice (splice (flat c3 v1) (0 + Int.toNat v2 * 1) [(iv 1)]) (0 + Int.toNat v2 * 1) [(iv (imx ((v1.set (Int.toNat v2) 1).getD (Int.toNat v2) default) (W (((v1.set (Int.toNat v2) 1).getD (Int.toNat (a0.2.getD (Int.toNat v2) default).2.2.1) default) + 1))))]) = flat c3 ((v1.set (Int.toNat v2) 1).set (Int.toNat v2) (imx ((v1.set (Int.toNat v2) 1).getD (Int.toNat v2) default) (W (((v1.set (Int.toNat v2) 1).getD (Int.toNat (a0.2.getD (Int.toNat v2) default).2.2.1) default) + 1)))) := (by rw [show (splice (flat c3 v1) (0 + Int.toNat v2 * 1) [(iv 1)]) = flat c3 (v1.set (Int.toNat v2) 1) from (flat_set c3_len (by first | omega | (simp only [List.length_set]; omega)) (i := Int.toNat v2) (o := 0) (d := default) (y := 1) (xs := [(iv 1)]) (Nat.le_of_ble_eq_true rfl) rfl)]; exact flat_set c3_len (by first | omega | (simp only [List.length_set]; omega)) (i := Int.toNat v2) (o := 0) (d := default) (y := (imx ((v1.set (Int.toNat v2) 1).getD (Int.toNat v2) default) (W (((v1.set (Int.toNat v2) 1).getD (Int.toNat (a0.2.getD (Int.toNat v2) default).2.2.1) default) + 1)))) (xs := [(iv (imx ((v1.set (Int.toNat v2) 1).getD (Int.toNat v2) default) (W (((v1.set (Int.toNat v2) 1).getD (Int.toNat (a0.2.getD (Int.toNat v2) default).2.2.1) default) + 1))))]) (Nat.le_of_ble_eq_true rfl) rfl)
        have z1 : v1.length = ((v1.set (Int.toNat v2) 1).set (Int.toNat v2) (imx ((v1.set (Int.toNat v2) 1).getD (Int.toNat v2) default) (W (((v1.set (Int.toNat v2) 1).getD (Int.toNat (a0.2.getD (Int.toNat v2) default).2.2.1) default) + 1)))).length := by simp
        rw [z0, z1]
        exact ih ((v1.set (Int.toNat v2) 1).set (Int.toNat v2) (imx ((v1.set (Int.toNat v2) 1).getD (Int.toNat v2) default) (W (((v1.set (Int.toNat v2) 1).getD (Int.toNat (a0.2.getD (Int.toNat v2) default).2.2.1) default) + 1)))) (W (v2 - 1)) (by refine ⟨?_, ?_, ?_⟩ <;> (try simp only [List.length_append, List.length_cons, List.length_nil, Int.toNat_zero]) <;> first | omega | assumption | simp) (by (try simp only [List.length_append, List.length_cons, List.length_nil, Int.toNat_zero]); omega)
      | false =>
       have q2 := of_decide_eq_false h2
       let t3 : List (St Try.prog) := (t2 ++ [.d h2, .u 0, .T, .i 1 2 (by decide)])
       cases h3 : (decide (((a0.2.getD (Int.toNat v2) default).2.2.2.1 : Int) > v2)) with
       | true =>
        have q3 := of_decide_eq_true h3
        let t4 : List (St Try.prog) := (t3 ++ [.d h3])
        cases h4 : (decide (((a0.2.getD (Int.toNat v2) default).2.2.2.1 : Int) < ((v1.length : Nat) : Int))) with
        | true =>
         have q4 := of_decide_eq_true h4
         have e := Eq.refl (S18_0 a0 (v1, v2)); conv at e => rhs; simp only [S18_0, h0, h1, h2, h3, h4, cond_true, cond_false]
         rw [loopF_inl e]
         refine ba (t4 ++ [.d h4, .i v2 (v1.length), .R c3_len (v1.set (Int.toNat v2) 1) v2 0 1 (show (splice (flat c3 v1) (0 + Int.toNat v2 * 1) [(iv 1)]) = flat c3 (v1.set (Int.toNat v2) 1) from (flat_set c3_len (by first | omega | (simp only [List.length_set]; omega)) (i := Int.toNat v2) (o := 0) (d := default) (y := 1) (xs := [(iv 1)]) (Nat.le_of_ble_eq_true rfl) rfl)), .i ((a0.2.getD (Int.toNat v2) default).2.2.2.1) (v1.length), .R c3_len (v1.set (Int.toNat v2) 1) (a0.2.getD (Int.toNat v2) default).2.2.2.1 0 1 (show (splice (flat c3 v1) (0 + Int.toNat v2 * 1) [(iv 1)]) = flat c3 (v1.set (Int.toNat v2) 1) from (flat_set c3_len (by first | omega | (simp only [List.length_set]; omega)) (i := Int.toNat v2) (o := 0) (d := default) (y := 1) (xs := [(iv 1)]) (Nat.le_of_ble_eq_true rfl) rfl)), .i v2 (v1.length), .p (show ((0 + Int.toNat v2 * 1) + 1 ≤ (splice (flat c3 v1) (0 + Int.toNat v2 * 1) [(iv 1)]).length) from (by rw [show (splice (flat c3 v1) (0 + Int.toNat v2 * 1) [(iv 1)]) = flat c3 (v1.set (Int.toNat v2) 1) from (flat_set c3_len (by first | omega | (simp only [List.length_set]; omega)) (i := Int.toNat v2) (o := 0) (d := default) (y := 1) (xs := [(iv 1)]) (Nat.le_of_ble_eq_true rfl) rfl)]; exact flat_setl c3_len (by first | omega | (simp only [List.length_set]; omega)) (i := Int.toNat v2) (o := 0) (n := 1) (Nat.le_of_ble_eq_true rfl))), .u 0, .F]) [] [1, 3, 4] [2, 3] hcx (m := n) B18_0 (K18_0) (st18_0 a0 (splice (splice (flat c3 v1) (0 + Int.toNat v2 * 1) [(iv 1)]) (0 + Int.toNat v2 * 1) [(iv (imx ((v1.set (Int.toNat v2) 1).getD (Int.toNat v2) default) (W (((v1.set (Int.toNat v2) 1).getD (Int.toNat (a0.2.getD (Int.toNat v2) default).2.2.2.1) default) + 1))))]) (v1.length) (W (v2 - 1))) (by kernel_rfl) ?_
         have z0 : (splice (splice (flat c3 v1) (0 + Int.toNat v2 * 1) [(iv 1)]) (0 + Int.toNat v2 * 1) [(iv (imx ((v1.set (Int.toNat v2) 1).getD (Int.toNat v2) default) (W (((v1.set (Int.toNat v2) 1).getD (Int.toNat (a0.2.getD (Int.toNat v2) default).2.2.2.1) default) + 1))))]) = flat c3 ((v1.set (Int.toNat v2) 1).set (Int.toNat v2) (imx ((v1.set (Int.toNat v2) 1).getD (Int.toNat v2) default) (W (((v1.set (Int.toNat v2) 1).getD (Int.toNat (a0.2.getD (Int.toNat v2) default).2.2.2.1) default) + 1)))) := (by rw [show (splice (flat c3 v1) (0 + Int.toNat v2 * 1) [(iv 1)]) = flat c3 (v1.set (Int.toNat v2) 1) from (flat_set c3_len (by first | omega | (simp only [List.length_set]; omega)) (i := Int.toNat v2) (o := 0) (d := default) (y := 1) (xs := [(iv 1)]) (Nat.le_of_ble_eq_true rfl) rfl)]; exact flat_set c3_len (by first | omega | (simp only [List.length_set]; omega)) (i := Int.toNat v2) (o := 0) (d := default) (y := (imx ((v1.set (Int.toNat v2) 1).getD (Int.toNat v2) default) (W (((v1.set (Int.toNat v2) 1).getD (Int.toNat (a0.2.getD (Int.toNat v2) default).2.2.2.1) default) + 1)))) (xs := [(iv (imx ((v1.set (Int.toNat v2) 1).getD (Int.toNat v2) default) (W (((v1.set (Int.toNat v2) 1).getD (Int.toNat (a0.2.getD (Int.toNat v2) default).2.2.2.1) default) + 1))))]) (Nat.le_of_ble_eq_true rfl) rfl)
         have z1 : v1.length = ((v1.set (Int.toNat v2) 1).set (Int.toNat v2) (imx ((v1.set (Int.toNat v2) 1).getD (Int.toNat v2) default) (W (((v1.set (Int.toNat v2) 1).getD (Int.toNat (a0.2.getD (Int.toNat v2) default).2.2.2.1) default) + 1)))).length := by simp
         rw [z0, z1]
         exact ih ((v1.set (Int.toNat v2) 1).set (Int.toNat v2) (imx ((v1.set (Int.toNat v2) 1).getD (Int.toNat v2) default) (W (((v1.set (Int.toNat v2) 1).getD (Int.toNat (a0.2.getD (Int.toNat v2) default).2.2.2.1) default) + 1)))) (W (v2 - 1)) (by refine ⟨?_, ?_, ?_⟩ <;> (try simp only [List.length_append, List.length_cons, List.length_nil, Int.toNat_zero]) <;> first | omega | assumption | simp) (by (try simp only [List.length_append, List.length_cons, List.length_nil, Int.toNat_zero]); omega)
        | false =>
         have q4 := of_decide_eq_false h4
         have e := Eq.refl (S18_0 a0 (v1, v2)); conv at e => rhs; simp only [S18_0, h0, h1, h2, h3, h4, cond_true, cond_false]
         rw [loopF_inl e]
         refine ba (t4 ++ [.d h4, .u 0, .F]) [] [1, 3, 4] [2, 3] hcx (m := n) B18_0 (K18_0) (st18_0 a0 (splice (flat c3 v1) (0 + Int.toNat v2 * 1) [(iv 1)]) (v1.length) (W (v2 - 1))) (by kernel_rfl) ?_
         have z0 : (splice (flat c3 v1) (0 + Int.toNat v2 * 1) [(iv 1)]) = flat c3 (v1.set (Int.toNat v2) 1) := (flat_set c3_len (by first | omega | (simp only [List.length_set]; omega)) (i := Int.toNat v2) (o := 0) (d := default) (y := 1) (xs := [(iv 1)]) (Nat.le_of_ble_eq_true rfl) rfl)
         have z1 : v1.length = (v1.set (Int.toNat v2) 1).length := by simp
         rw [z0, z1]
         exact ih (v1.set (Int.toNat v2) 1) (W (v2 - 1)) (by refine ⟨?_, ?_, ?_⟩ <;> (try simp only [List.length_append, List.length_cons, List.length_nil, Int.toNat_zero]) <;> first | omega | assumption | simp) (by (try simp only [List.length_append, List.length_cons, List.length_nil, Int.toNat_zero]); omega)
       | false =>
        have q3 := of_decide_eq_false h3
        have e := Eq.refl (S18_0 a0 (v1, v2)); conv at e => rhs; simp only [S18_0, h0, h1, h2, h3, cond_true, cond_false]
        rw [loopF_inl e]
        refine ba (t3 ++ [.d h3, .u 0, .F]) [] [1, 3, 4] [2, 3] hcx (m := n) B18_0 (K18_0) (st18_0 a0 (splice (flat c3 v1) (0 + Int.toNat v2 * 1) [(iv 1)]) (v1.length) (W (v2 - 1))) (by kernel_rfl) ?_
        have z0 : (splice (flat c3 v1) (0 + Int.toNat v2 * 1) [(iv 1)]) = flat c3 (v1.set (Int.toNat v2) 1) := (flat_set c3_len (by first | omega | (simp only [List.length_set]; omega)) (i := Int.toNat v2) (o := 0) (d := default) (y := 1) (xs := [(iv 1)]) (Nat.le_of_ble_eq_true rfl) rfl)
        have z1 : v1.length = (v1.set (Int.toNat v2) 1).length := by simp
        rw [z0, z1]
        exact ih (v1.set (Int.toNat v2) 1) (W (v2 - 1)) (by refine ⟨?_, ?_, ?_⟩ <;> (try simp only [List.length_append, List.length_cons, List.length_nil, Int.toNat_zero]) <;> first | omega | assumption | simp) (by (try simp only [List.length_append, List.length_cons, List.length_nil, Int.toNat_zero]); omega)
     | false =>
      have q1 := of_decide_eq_false h1
      let t2 : List (St Try.prog) := (t1 ++ [.d h1, .u 0, .T, .i 1 2 (by decide)])
      cases h2 : (decide (((a0.2.getD (Int.toNat v2) default).2.2.2.1 : Int) > v2)) with
      | true =>
       have q2 := of_decide_eq_true h2
       let t3 : List (St Try.prog) := (t2 ++ [.d h2])
       cases h3 : (decide (((a0.2.getD (Int.toNat v2) default).2.2.2.1 : Int) < ((v1.length : Nat) : Int))) with
       | true =>
        have q3 := of_decide_eq_true h3
        have e := Eq.refl (S18_0 a0 (v1, v2)); conv at e => rhs; simp only [S18_0, h0, h1, h2, h3, cond_true, cond_false]
        rw [loopF_inl e]
        refine ba (t3 ++ [.d h3, .i v2 (v1.length), .R c3_len (v1.set (Int.toNat v2) 1) v2 0 1 (show (splice (flat c3 v1) (0 + Int.toNat v2 * 1) [(iv 1)]) = flat c3 (v1.set (Int.toNat v2) 1) from (flat_set c3_len (by first | omega | (simp only [List.length_set]; omega)) (i := Int.toNat v2) (o := 0) (d := default) (y := 1) (xs := [(iv 1)]) (Nat.le_of_ble_eq_true rfl) rfl)), .i ((a0.2.getD (Int.toNat v2) default).2.2.2.1) (v1.length), .R c3_len (v1.set (Int.toNat v2) 1) (a0.2.getD (Int.toNat v2) default).2.2.2.1 0 1 (show (splice (flat c3 v1) (0 + Int.toNat v2 * 1) [(iv 1)]) = flat c3 (v1.set (Int.toNat v2) 1) from (flat_set c3_len (by first | omega | (simp only [List.length_set]; omega)) (i := Int.toNat v2) (o := 0) (d := default) (y := 1) (xs := [(iv 1)]) (Nat.le_of_ble_eq_true rfl) rfl)), .i v2 (v1.length), .p (show ((0 + Int.toNat v2 * 1) + 1 ≤ (splice (flat c3 v1) (0 + Int.toNat v2 * 1) [(iv 1)]).length) from (by rw [show (splice (flat c3 v1) (0 + Int.toNat v2 * 1) [(iv 1)]) = flat c3 (v1.set (Int.toNat v2) 1) from (flat_set c3_len (by first | omega | (simp only [List.length_set]; omega)) (i := Int.toNat v2) (o := 0) (d := default) (y := 1) (xs := [(iv 1)]) (Nat.le_of_ble_eq_true rfl) rfl)]; exact flat_setl c3_len (by first | omega | (simp only [List.length_set]; omega)) (i := Int.toNat v2) (o := 0) (n := 1) (Nat.le_of_ble_eq_true rfl))), .u 0, .F]) [] [1, 3, 4] [2, 3] hcx (m := n) B18_0 (K18_0) (st18_0 a0 (splice (splice (flat c3 v1) (0 + Int.toNat v2 * 1) [(iv 1)]) (0 + Int.toNat v2 * 1) [(iv (imx ((v1.set (Int.toNat v2) 1).getD (Int.toNat v2) default) (W (((v1.set (Int.toNat v2) 1).getD (Int.toNat (a0.2.getD (Int.toNat v2) default).2.2.2.1) default) + 1))))]) (v1.length) (W (v2 - 1))) (by kernel_rfl) ?_
        have z0 : (splice (splice (flat c3 v1) (0 + Int.toNat v2 * 1) [(iv 1)]) (0 + Int.toNat v2 * 1) [(iv (imx ((v1.set (Int.toNat v2) 1).getD (Int.toNat v2) default) (W (((v1.set (Int.toNat v2) 1).getD (Int.toNat (a0.2.getD (Int.toNat v2) default).2.2.2.1) default) + 1))))]) = flat c3 ((v1.set (Int.toNat v2) 1).set (Int.toNat v2) (imx ((v1.set (Int.toNat v2) 1).getD (Int.toNat v2) default) (W (((v1.set (Int.toNat v2) 1).getD (Int.toNat (a0.2.getD (Int.toNat v2) default).2.2.2.1) default) + 1)))) := (by rw [show (splice (flat c3 v1) (0 + Int.toNat v2 * 1) [(iv 1)]) = flat c3 (v1.set (Int.toNat v2) 1) from (flat_set c3_len (by first | omega | (simp only [List.length_set]; omega)) (i := Int.toNat v2) (o := 0) (d := default) (y := 1) (xs := [(iv 1)]) (Nat.le_of_ble_eq_true rfl) rfl)]; exact flat_set c3_len (by first | omega | (simp only [List.length_set]; omega)) (i := Int.toNat v2) (o := 0) (d := default) (y := (imx ((v1.set (Int.toNat v2) 1).getD (Int.toNat v2) default) (W (((v1.set (Int.toNat v2) 1).getD (Int.toNat (a0.2.getD (Int.toNat v2) default).2.2.2.1) default) + 1)))) (xs := [(iv (imx ((v1.set (Int.toNat v2) 1).getD (Int.toNat v2) default) (W (((v1.set (Int.toNat v2) 1).getD (Int.toNat (a0.2.getD (Int.toNat v2) default).2.2.2.1) default) + 1))))]) (Nat.le_of_ble_eq_true rfl) rfl)
        have z1 : v1.length = ((v1.set (Int.toNat v2) 1).set (Int.toNat v2) (imx ((v1.set (Int.toNat v2) 1).getD (Int.toNat v2) default) (W (((v1.set (Int.toNat v2) 1).getD (Int.toNat (a0.2.getD (Int.toNat v2) default).2.2.2.1) default) + 1)))).length := by simp
        rw [z0, z1]
        exact ih ((v1.set (Int.toNat v2) 1).set (Int.toNat v2) (imx ((v1.set (Int.toNat v2) 1).getD (Int.toNat v2) default) (W (((v1.set (Int.toNat v2) 1).getD (Int.toNat (a0.2.getD (Int.toNat v2) default).2.2.2.1) default) + 1)))) (W (v2 - 1)) (by refine ⟨?_, ?_, ?_⟩ <;> (try simp only [List.length_append, List.length_cons, List.length_nil, Int.toNat_zero]) <;> first | omega | assumption | simp) (by (try simp only [List.length_append, List.length_cons, List.length_nil, Int.toNat_zero]); omega)
       | false =>
        have q3 := of_decide_eq_false h3
        have e := Eq.refl (S18_0 a0 (v1, v2)); conv at e => rhs; simp only [S18_0, h0, h1, h2, h3, cond_true, cond_false]
        rw [loopF_inl e]
        refine ba (t3 ++ [.d h3, .u 0, .F]) [] [1, 3, 4] [2, 3] hcx (m := n) B18_0 (K18_0) (st18_0 a0 (splice (flat c3 v1) (0 + Int.toNat v2 * 1) [(iv 1)]) (v1.length) (W (v2 - 1))) (by kernel_rfl) ?_
        have z0 : (splice (flat c3 v1) (0 + Int.toNat v2 * 1) [(iv 1)]) = flat c3 (v1.set (Int.toNat v2) 1) := (flat_set c3_len (by first | omega | (simp only [List.length_set]; omega)) (i := Int.toNat v2) (o := 0) (d := default) (y := 1) (xs := [(iv 1)]) (Nat.le_of_ble_eq_true rfl) rfl)
        have z1 : v1.length = (v1.set (Int.toNat v2) 1).length := by simp
        rw [z0, z1]
        exact ih (v1.set (Int.toNat v2) 1) (W (v2 - 1)) (by refine ⟨?_, ?_, ?_⟩ <;> (try simp only [List.length_append, List.length_cons, List.length_nil, Int.toNat_zero]) <;> first | omega | assumption | simp) (by (try simp only [List.length_append, List.length_cons, List.length_nil, Int.toNat_zero]); omega)
      | false =>
       have q2 := of_decide_eq_false h2
       have e := Eq.refl (S18_0 a0 (v1, v2)); conv at e => rhs; simp only [S18_0, h0, h1, h2, cond_true, cond_false]
       rw [loopF_inl e]
       refine ba (t2 ++ [.d h2, .u 0, .F]) [] [1, 3, 4] [2, 3] hcx (m := n) B18_0 (K18_0) (st18_0 a0 (splice (flat c3 v1) (0 + Int.toNat v2 * 1) [(iv 1)]) (v1.length) (W (v2 - 1))) (by kernel_rfl) ?_
       have z0 : (splice (flat c3 v1) (0 + Int.toNat v2 * 1) [(iv 1)]) = flat c3 (v1.set (Int.toNat v2) 1) := (flat_set c3_len (by first | omega | (simp only [List.length_set]; omega)) (i := Int.toNat v2) (o := 0) (d := default) (y := 1) (xs := [(iv 1)]) (Nat.le_of_ble_eq_true rfl) rfl)
       have z1 : v1.length = (v1.set (Int.toNat v2) 1).length := by simp
       rw [z0, z1]
       exact ih (v1.set (Int.toNat v2) 1) (W (v2 - 1)) (by refine ⟨?_, ?_, ?_⟩ <;> (try simp only [List.length_append, List.length_cons, List.length_nil, Int.toNat_zero]) <;> first | omega | assumption | simp) (by (try simp only [List.length_append, List.length_cons, List.length_nil, Int.toNat_zero]); omega)
    | false =>
     have q0 := of_decide_eq_false h0
     let t1 : List (St Try.prog) := [.d h0]
     cases h1 : ((((v1.length : Nat) : Int) : Int) == 0) with
     | true =>
      have q1 := eq_of_beq h1
      have e := Eq.refl (S18_0 a0 (v1, v2)); conv at e => rhs; simp only [S18_0, h0, h1, cond_true, cond_false]
      rw [loopF_s, e]
      exact rt (t1 ++ [.d h1]) [] [] hcx (by kernel_rfl)
     | false =>
      have q1 := ne_of_beq_false h1
      have e := Eq.refl (S18_0 a0 (v1, v2)); conv at e => rhs; simp only [S18_0, h0, h1, cond_true, cond_false]
      rw [loopF_s, e]
      exact rt (t1 ++ [.d h1, .i 0 (v1.length), .L c3_len v1 0 0 1]) [] [] hcx (by kernel_rfl)

def F18 (a0 : List (Int) × List (Int × Int × Int × Int × (Int × Int × Int) × Int)) : Int :=
  (loopF (S18_0 a0) (Int.toNat ((W (((a0.2.length : Nat) : Int) - 1)) + 1) + 1) ((List.replicate (Int.toNat ((a0.2.length : Nat) : Int)) 0), (W (((a0.2.length : Nat) : Int) - 1))))

theorem C18 (a0 : List (Int) × List (Int × Int × Int × Int × (Int × Int × Int) × Int)) (l0_1 : a0.1.length ≤ 9223372036854775807) (l0_2 : a0.2.length ≤ 9223372036854775807) (hl : a0.2.length ≤ 1048576) : Con Try.prog 18 [(.a [(.s 0 0 a0.1.length 1), (.s 1 0 a0.2.length 8)])] [(.live false true (flat c3 a0.1)), (.live false true (flat c40 a0.2))] (iv (F18 a0)) [] := by
  refine con_s Try.func18 (by kernel_rfl) fun cx hcx => ?_
  have hw_i := W_eq (n := ((a0.2.length : Nat) : Int) - 1) (by omega) (by omega)
  have e := Eq.refl (F18 a0); conv at e => rhs; simp only [F18]
  rw [e]
  refine en [.Z c3 0 [(iv 0)] ((a0.2.length : Nat) : Int) 8] [] [1, 3, 4] [2, 3] hcx B18_0 (K18_0) (st18_0 a0 (flat c3 (List.replicate (Int.toNat ((a0.2.length : Nat) : Int)) 0)) (Int.toNat ((a0.2.length : Nat) : Int)) (W (((a0.2.length : Nat) : Int) - 1))) (Int.toNat ((W (((a0.2.length : Nat) : Int) - 1)) + 1) + 1) (by kernel_rfl) ?_
  have q := L18_0 a0 l0_1 l0_2 hl hcx (Int.toNat ((W (((a0.2.length : Nat) : Int) - 1)) + 1) + 1) (List.replicate (Int.toNat ((a0.2.length : Nat) : Int)) 0) (W (((a0.2.length : Nat) : Int) - 1)) (by refine ⟨?_, ?_, ?_⟩ <;> (try simp only [List.length_append, List.length_cons, List.length_nil, Int.toNat_zero]) <;> first | omega | assumption | simp) (by (try simp only [List.length_append, List.length_cons, List.length_nil, Int.toNat_zero]); omega)
  simp only [List.length_replicate] at q
  exact q

end Go.Proofs.Ytnbpiejjeeomkaa

namespace Go.Proofs.Ytnbpiejjeeomkaa
open Go.Proofs Go.Aw Go.RowKit
set_option maxRecDepth 100000
set_option linter.unusedVariables false
set_option linter.unusedSimpArgs false

def F10 : Bool :=
  (bif (((F11_L F31 1).2 : Int) == 0) then
   (bif (((((F11_L F31 1).1.2.length : Nat) : Int) : Int) == 7) then
    (bif (((F18 ((F11_L F31 1).1.1, (F11_L F31 1).1.2)) : Int) == 3) then
     (bif (((F17 ((F11_L F31 1).1.1, (F11_L F31 1).1.2)) : Int) == 4) then
      (bif ((((F11_L F31 1).1.2.getD (Int.toNat 0) default).2.2.1 : Int) == 1) then
       ((((F11_L F31 1).1.2.getD (Int.toNat 0) default).2.2.2.1 : Int) == 4)
      else
       false)
     else
      false)
    else
     false)
   else
    false)
  else
   false)

theorem C10 : Con Try.prog 10 [] [] (.v (.bool F10)) [] := by
  refine con_s Try.func10 (by kernel_rfl) fun cx hcx => ?_
  have hrl : F31.length = 4 := by kernel_rfl
  have hbl : (F11_L F31 1).1.2.length = 7 := by kernel_rfl
  have hbo : (F11_L F31 1).1.1.length = 4 := by kernel_rfl
  let t0 : List (St Try.prog) := [.c [] (C31), .c [0] (C11_L F31 1 (by (try simp only [List.length_append, List.length_cons, List.length_nil, Int.toNat_zero]); omega) (by (try simp only [List.length_append, List.length_cons, List.length_nil, Int.toNat_zero]); omega))]
  cases h0 : (((F11_L F31 1).2 : Int) == 0) with
  | true =>
   have q0 := eq_of_beq h0
   let t1 : List (St Try.prog) := (t0 ++ [.d h0])
   cases h1 : (((((F11_L F31 1).1.2.length : Nat) : Int) : Int) == 7) with
   | true =>
    have q1 := eq_of_beq h1
    let t2 : List (St Try.prog) := (t1 ++ [.d h1, .c [1, 2] (C18 ((F11_L F31 1).1.1, (F11_L F31 1).1.2) (by (try simp only [List.length_append, List.length_cons, List.length_nil, Int.toNat_zero]); omega) (by (try simp only [List.length_append, List.length_cons, List.length_nil, Int.toNat_zero]); omega) (by (try simp only [List.length_append, List.length_cons, List.length_nil, Int.toNat_zero]); omega))])
    cases h2 : (((F18 ((F11_L F31 1).1.1, (F11_L F31 1).1.2)) : Int) == 3) with
    | true =>
     have q2 := eq_of_beq h2
     let t3 : List (St Try.prog) := (t2 ++ [.d h2, .c [1, 2] (C17 ((F11_L F31 1).1.1, (F11_L F31 1).1.2) (by (try simp only [List.length_append, List.length_cons, List.length_nil, Int.toNat_zero]); omega) (by (try simp only [List.length_append, List.length_cons, List.length_nil, Int.toNat_zero]); omega) (by (try simp only [List.length_append, List.length_cons, List.length_nil, Int.toNat_zero]); omega))])
     cases h3 : (((F17 ((F11_L F31 1).1.1, (F11_L F31 1).1.2)) : Int) == 4) with
     | true =>
      have q3 := eq_of_beq h3
      let t4 : List (St Try.prog) := (t3 ++ [.d h3, .i 0 ((F11_L F31 1).1.2.length), .L c40_len (F11_L F31 1).1.2 0 2 1])
      cases h4 : ((((F11_L F31 1).1.2.getD (Int.toNat 0) default).2.2.1 : Int) == 1) with
      | true =>
       have q4 := eq_of_beq h4
       have e := Eq.refl F10; conv at e => rhs; simp only [F10, h0, h1, h2, h3, h4, cond_true, cond_false]
       rw [e]
       exact rt (t4 ++ [.d h4, .i 0 ((F11_L F31 1).1.2.length), .L c40_len (F11_L F31 1).1.2 0 3 1]) [] [] hcx (by kernel_rfl)
      | false =>
       have q4 := ne_of_beq_false h4
       have e := Eq.refl F10; conv at e => rhs; simp only [F10, h0, h1, h2, h3, h4, cond_true, cond_false]
       rw [e]
       exact rt (t4 ++ [.d h4]) [] [] hcx (by kernel_rfl)
     | false =>
      have q3 := ne_of_beq_false h3
      have e := Eq.refl F10; conv at e => rhs; simp only [F10, h0, h1, h2, h3, cond_true, cond_false]
      rw [e]
      exact rt (t3 ++ [.d h3]) [] [] hcx (by kernel_rfl)
    | false =>
     have q2 := ne_of_beq_false h2
     have e := Eq.refl F10; conv at e => rhs; simp only [F10, h0, h1, h2, cond_true, cond_false]
     rw [e]
     exact rt (t2 ++ [.d h2]) [] [] hcx (by kernel_rfl)
   | false =>
    have q1 := ne_of_beq_false h1
    have e := Eq.refl F10; conv at e => rhs; simp only [F10, h0, h1, cond_true, cond_false]
    rw [e]
    exact rt (t1 ++ [.d h1]) [] [] hcx (by kernel_rfl)
  | false =>
   have q0 := ne_of_beq_false h0
   have e := Eq.refl F10; conv at e => rhs; simp only [F10, h0, cond_true, cond_false]
   rw [e]
   exact rt (t0 ++ [.d h0]) [] [] hcx (by kernel_rfl)

theorem sane_5 : F10 = true := by kernel_rfl

end Go.Proofs.Ytnbpiejjeeomkaa

namespace Go.Proofs.Ytnbpiejjeeomkaa
open Go.Proofs Go.Aw Go.RowKit
set_option maxRecDepth 100000
set_option linter.unusedVariables false
set_option linter.unusedSimpArgs false

def F40 (a0 : Int × Int × Int) (a1 : Int × Int × Int) : Int × Int × Int :=
  ((W (a0.1 - a1.1)), (W (a0.2.1 - a1.2.1)), (W (a0.2.2 - a1.2.2)))

theorem C40 (a0 : Int × Int × Int) (a1 : Int × Int × Int) : Con Try.prog 40 [(.a (k3 a0)), (.a (k3 a1))] [] (.a (k3 (F40 a0 a1))) [] := by
  refine con_s Try.func40 (by kernel_rfl) fun cx hcx => ?_
  have e := Eq.refl (F40 a0 a1); conv at e => rhs; simp only [F40]
  rw [e]
  exact rt [] [] [] hcx (by kernel_rfl)

def F39 (a0 : Int × Int × Int) : Int :=
  (W ((W ((W (a0.1 * a0.1)) + (W (a0.2.1 * a0.2.1)))) + (W (a0.2.2 * a0.2.2))))

theorem C39 (a0 : Int × Int × Int) : Con Try.prog 39 [(.a (k3 a0))] [] (iv (F39 a0)) [] := by
  refine con_s Try.func39 (by kernel_rfl) fun cx hcx => ?_
  have e := Eq.refl (F39 a0); conv at e => rhs; simp only [F39]
  rw [e]
  exact rt [] [] [] hcx (by kernel_rfl)

def F38 (a0 : Int × Int × Int × Int × (Int × Int × Int) × Int) : Bool :=
  (bif (F33 a0.2.2.2.2.2 0 131072) then
   (bif (F33 a0.2.2.2.2.1.1 (-64) 64) then
    (bif (F33 a0.2.2.2.2.1.2.1 (-64) 64) then
     (F33 a0.2.2.2.2.1.2.2 (-64) 64)
    else
     false)
   else
    false)
  else
   false)

theorem C38 (a0 : Int × Int × Int × Int × (Int × Int × Int) × Int) : Con Try.prog 38 [(.a [(iv a0.1), (iv a0.2.1), (iv a0.2.2.1), (iv a0.2.2.2.1), (iv a0.2.2.2.2.1.1), (iv a0.2.2.2.2.1.2.1), (iv a0.2.2.2.2.1.2.2), (iv a0.2.2.2.2.2)])] [] (.v (.bool (F38 a0))) [] := by
  refine con_s Try.func38 (by kernel_rfl) fun cx hcx => ?_
  let t0 : List (St Try.prog) := [.c [] (C33 a0.2.2.2.2.2 0 131072)]
  cases h0 : (F33 a0.2.2.2.2.2 0 131072) with
  | true =>
   let t1 : List (St Try.prog) := (t0 ++ [.d h0, .c [] (C33 a0.2.2.2.2.1.1 (-64) 64)])
   cases h1 : (F33 a0.2.2.2.2.1.1 (-64) 64) with
   | true =>
    let t2 : List (St Try.prog) := (t1 ++ [.d h1, .c [] (C33 a0.2.2.2.2.1.2.1 (-64) 64)])
    cases h2 : (F33 a0.2.2.2.2.1.2.1 (-64) 64) with
    | true =>
     have e := Eq.refl (F38 a0); conv at e => rhs; simp only [F38, h0, h1, h2, cond_true, cond_false]
     rw [e]
     exact rt (t2 ++ [.d h2, .c [] (C33 a0.2.2.2.2.1.2.2 (-64) 64)]) [] [] hcx (by kernel_rfl)
    | false =>
     have e := Eq.refl (F38 a0); conv at e => rhs; simp only [F38, h0, h1, h2, cond_true, cond_false]
     rw [e]
     exact rt (t2 ++ [.d h2]) [] [] hcx (by kernel_rfl)
   | false =>
    have e := Eq.refl (F38 a0); conv at e => rhs; simp only [F38, h0, h1, cond_true, cond_false]
    rw [e]
    exact rt (t1 ++ [.d h1]) [] [] hcx (by kernel_rfl)
  | false =>
   have e := Eq.refl (F38 a0); conv at e => rhs; simp only [F38, h0, cond_true, cond_false]
   rw [e]
   exact rt (t0 ++ [.d h0]) [] [] hcx (by kernel_rfl)

noncomputable def B42_0 : Code := (loopAtD [1, 1, 0, 1] [] (bodyOf Try.f42) []).1
noncomputable def K42_0 : List K := (loopAtD [1, 1, 0, 1] [] (bodyOf Try.f42) []).2

def st42_0 (a0 : Int) (v1 : Int) (v2 : Int) : LS := ⟨slN 22 [(0, (iv a0)), (3, (iv v1)), (4, (iv v2))], []⟩

def S42_0 (a0 : Int) : Int × Int → (Int × Int) ⊕ (Int)
  | (v1, v2) =>
   (bif (decide ((v2 : Int) > 0)) then
    (bif (decide (((W ((W (v1 + v2)) * (W (v1 + v2)))) : Int) ≤ a0)) then
     (.inl ((W (v1 + v2)), (v2 / 2)))
    else
     (.inl (v1, (v2 / 2))))
   else
    (.inr v1))

set_option maxHeartbeats 4000000 in
theorem L42_0 (a0 : Int) {cx : Cx} (hcx : cx.base = 0) : ∀ (n : Nat) (v1 : Int) (v2 : Int), True → Int.toNat v2 < n → Aw.Good Try.prog none 9 (bodyPost Try.prog Try.f42 (RR cx (iv (loopF (S42_0 a0) n (v1, v2))) [] [])) cx [] (.l B42_0 n :: K42_0) (st42_0 a0 v1 v2) := by
  intro n
  induction n with
  | zero => intro v1 v2 hi hn; exact absurd hn (Nat.not_lt_zero _)
  | succ n ih =>
    intro v1 v2 hi hn
    refine good_round ?_
    cases h0 : (decide ((v2 : Int) > 0)) with
    | true =>
     have q0 := of_decide_eq_true h0
     let t1 : List (St Try.prog) := [.d h0]
     cases h1 : (decide (((W ((W (v1 + v2)) * (W (v1 + v2)))) : Int) ≤ a0)) with
     | true =>
      have q1 := of_decide_eq_true h1
      have e := Eq.refl (S42_0 a0 (v1, v2)); conv at e => rhs; simp only [S42_0, h0, h1, cond_true, cond_false]
      rw [loopF_inl e]
      refine ba (t1 ++ [.d h1, .p (show 0 ≤ (1 : Int) from by decide)]) [] [0, 3, 4] [] hcx (m := n) B42_0 (K42_0) (st42_0 a0 (W (v1 + v2)) (Int.fdiv v2 (2 ^ (min (Int.toNat 1) 64)))) (by kernel_rfl) ?_
      have z0 : (Int.fdiv v2 (2 ^ (min (Int.toNat 1) 64))) = (v2 / 2) := shr_eq _ 1 (by decide)
      rw [z0]
      exact ih (W (v1 + v2)) (v2 / 2) trivial (by (try simp only [List.length_append, List.length_cons, List.length_nil, Int.toNat_zero]); omega)
     | false =>
      have q1 := of_decide_eq_false h1
      have e := Eq.refl (S42_0 a0 (v1, v2)); conv at e => rhs; simp only [S42_0, h0, h1, cond_true, cond_false]
      rw [loopF_inl e]
      refine ba (t1 ++ [.d h1, .p (show 0 ≤ (1 : Int) from by decide)]) [] [0, 3, 4] [] hcx (m := n) B42_0 (K42_0) (st42_0 a0 v1 (Int.fdiv v2 (2 ^ (min (Int.toNat 1) 64)))) (by kernel_rfl) ?_
      have z0 : (Int.fdiv v2 (2 ^ (min (Int.toNat 1) 64))) = (v2 / 2) := shr_eq _ 1 (by decide)
      rw [z0]
      exact ih v1 (v2 / 2) trivial (by (try simp only [List.length_append, List.length_cons, List.length_nil, Int.toNat_zero]); omega)
    | false =>
     have q0 := of_decide_eq_false h0
     have e := Eq.refl (S42_0 a0 (v1, v2)); conv at e => rhs; simp only [S42_0, h0, cond_true, cond_false]
     rw [loopF_s, e]
     exact rt [.d h0] [] [] hcx (by kernel_rfl)

def F42 (a0 : Int) : Int :=
  (loopF (S42_0 a0) (Int.toNat 1073741824 + 1) (0, 1073741824))

theorem C42 (a0 : Int) : Con Try.prog 42 [(iv a0)] [] (iv (F42 a0)) [] := by
  refine con_s Try.func42 (by kernel_rfl) fun cx hcx => ?_
  have e := Eq.refl (F42 a0); conv at e => rhs; simp only [F42]
  rw [e]
  refine en [] [] [0, 3, 4] [] hcx B42_0 (K42_0) (st42_0 a0 0 1073741824) (Int.toNat 1073741824 + 1) (by kernel_rfl) ?_
  exact L42_0 a0 hcx (Int.toNat 1073741824 + 1) 0 1073741824 trivial (by (try simp only [List.length_append, List.length_cons, List.length_nil, Int.toNat_zero]); omega)

def F41 (a0 : Int) : Int :=
  (bif (decide (((W ((F42 a0) * (F42 a0))) : Int) < a0)) then
   (W ((F42 a0) + 1))
  else
   (F42 a0))

theorem C41 (a0 : Int) : Con Try.prog 41 [(iv a0)] [] (iv (F41 a0)) [] := by
  refine con_s Try.func41 (by kernel_rfl) fun cx hcx => ?_
  let t0 : List (St Try.prog) := [.c [] (C42 a0)]
  cases h0 : (decide (((W ((F42 a0) * (F42 a0))) : Int) < a0)) with
  | true =>
   have q0 := of_decide_eq_true h0
   have e := Eq.refl (F41 a0); conv at e => rhs; simp only [F41, h0, cond_true, cond_false]
   rw [e]
   exact rt (t0 ++ [.d h0]) [] [] hcx (by kernel_rfl)
  | false =>
   have q0 := of_decide_eq_false h0
   have e := Eq.refl (F41 a0); conv at e => rhs; simp only [F41, h0, cond_true, cond_false]
   rw [e]
   exact rt (t0 ++ [.d h0]) [] [] hcx (by kernel_rfl)

noncomputable def B47_0 : Code := (loopAtD [1, 1, 0, 1] [] (bodyOf Try.f47) []).1
noncomputable def K47_0 : List K := (loopAtD [1, 1, 0, 1] [] (bodyOf Try.f47) []).2

def st47_0 (a0 : Int) (v1 : Int) (v2 : Int) : LS := ⟨slN 22 [(0, (iv a0)), (3, (iv v1)), (4, (iv v2))], []⟩

def S47_0 (a0 : Int) : Int × Int → (Int × Int) ⊕ (Int)
  | (v1, v2) =>
   (bif (decide ((v2 : Int) > 0)) then
    (bif (decide (((W ((W (v1 + v2)) * (W (v1 + v2)))) : Int) ≤ a0)) then
     (.inl ((W (v1 + v2)), (W (Int.tdiv v2 2))))
    else
     (.inl (v1, (W (Int.tdiv v2 2)))))
   else
    (.inr v1))

set_option maxHeartbeats 4000000 in
theorem L47_0 (a0 : Int) {cx : Cx} (hcx : cx.base = 0) : ∀ (n : Nat) (v1 : Int) (v2 : Int), (0 ≤ v2) ∧ (v2 ≤ 1073741824) → Int.toNat v2 < n → Aw.Good Try.prog none 9 (bodyPost Try.prog Try.f47 (RR cx (iv (loopF (S47_0 a0) n (v1, v2))) [] [])) cx [] (.l B47_0 n :: K47_0) (st47_0 a0 v1 v2) := by
  intro n
  induction n with
  | zero => intro v1 v2 hi hn; exact absurd hn (Nat.not_lt_zero _)
  | succ n ih =>
    intro v1 v2 hi hn
    refine good_round ?_
    have hw_t : W (Int.tdiv v2 2) = v2 / 2 := by rw [Int.tdiv_eq_ediv_of_nonneg (by omega)]; exact W_eq (by omega) (by omega)
    cases h0 : (decide ((v2 : Int) > 0)) with
    | true =>
     have q0 := of_decide_eq_true h0
     let t1 : List (St Try.prog) := [.d h0]
     cases h1 : (decide (((W ((W (v1 + v2)) * (W (v1 + v2)))) : Int) ≤ a0)) with
     | true =>
      have q1 := of_decide_eq_true h1
      have e := Eq.refl (S47_0 a0 (v1, v2)); conv at e => rhs; simp only [S47_0, h0, h1, cond_true, cond_false]
      rw [loopF_inl e]
      refine ba (t1 ++ [.d h1, .p (show (2 : Int) ≠ 0 from by decide)]) [] [0, 3, 4] [] hcx (m := n) B47_0 (K47_0) (st47_0 a0 (W (v1 + v2)) (W (Int.tdiv v2 2))) (by kernel_rfl) ?_
      exact ih (W (v1 + v2)) (W (Int.tdiv v2 2)) (by refine ⟨?_, ?_⟩ <;> (try simp only [List.length_append, List.length_cons, List.length_nil, Int.toNat_zero]) <;> first | omega | assumption | simp) (by (try simp only [List.length_append, List.length_cons, List.length_nil, Int.toNat_zero]); omega)
     | false =>
      have q1 := of_decide_eq_false h1
      have e := Eq.refl (S47_0 a0 (v1, v2)); conv at e => rhs; simp only [S47_0, h0, h1, cond_true, cond_false]
      rw [loopF_inl e]
      refine ba (t1 ++ [.d h1, .p (show (2 : Int) ≠ 0 from by decide)]) [] [0, 3, 4] [] hcx (m := n) B47_0 (K47_0) (st47_0 a0 v1 (W (Int.tdiv v2 2))) (by kernel_rfl) ?_
      exact ih v1 (W (Int.tdiv v2 2)) (by refine ⟨?_, ?_⟩ <;> (try simp only [List.length_append, List.length_cons, List.length_nil, Int.toNat_zero]) <;> first | omega | assumption | simp) (by (try simp only [List.length_append, List.length_cons, List.length_nil, Int.toNat_zero]); omega)
    | false =>
     have q0 := of_decide_eq_false h0
     have e := Eq.refl (S47_0 a0 (v1, v2)); conv at e => rhs; simp only [S47_0, h0, cond_true, cond_false]
     rw [loopF_s, e]
     exact rt [.d h0] [] [] hcx (by kernel_rfl)

def F47 (a0 : Int) : Int :=
  (loopF (S47_0 a0) (Int.toNat 1073741824 + 1) (0, 1073741824))

theorem C47 (a0 : Int) : Con Try.prog 47 [(iv a0)] [] (iv (F47 a0)) [] := by
  refine con_s Try.func47 (by kernel_rfl) fun cx hcx => ?_
  have e := Eq.refl (F47 a0); conv at e => rhs; simp only [F47]
  rw [e]
  refine en [] [] [0, 3, 4] [] hcx B47_0 (K47_0) (st47_0 a0 0 1073741824) (Int.toNat 1073741824 + 1) (by kernel_rfl) ?_
  exact L47_0 a0 hcx (Int.toNat 1073741824 + 1) 0 1073741824 (by refine ⟨?_, ?_⟩ <;> (try simp only [List.length_append, List.length_cons, List.length_nil, Int.toNat_zero]) <;> first | omega | assumption | simp) (by (try simp only [List.length_append, List.length_cons, List.length_nil, Int.toNat_zero]); omega)

def F46 (a0 : Int) : Int :=
  (bif (decide (((W ((F47 a0) * (F47 a0))) : Int) < a0)) then
   (W ((F47 a0) + 1))
  else
   (F47 a0))

theorem C46 (a0 : Int) : Con Try.prog 46 [(iv a0)] [] (iv (F46 a0)) [] := by
  refine con_s Try.func46 (by kernel_rfl) fun cx hcx => ?_
  let t0 : List (St Try.prog) := [.c [] (C47 a0)]
  cases h0 : (decide (((W ((F47 a0) * (F47 a0))) : Int) < a0)) with
  | true =>
   have q0 := of_decide_eq_true h0
   have e := Eq.refl (F46 a0); conv at e => rhs; simp only [F46, h0, cond_true, cond_false]
   rw [e]
   exact rt (t0 ++ [.d h0]) [] [] hcx (by kernel_rfl)
  | false =>
   have q0 := of_decide_eq_false h0
   have e := Eq.refl (F46 a0); conv at e => rhs; simp only [F46, h0, cond_true, cond_false]
   rw [e]
   exact rt (t0 ++ [.d h0]) [] [] hcx (by kernel_rfl)

def F43 (a0 : Int) (a1 : Int) (a2 : Int) : Bool :=
  (bif (decide ((a0 : Int) ≥ a1)) then
   (decide ((a0 : Int) ≤ a2))
  else
   false)

theorem C43 (a0 : Int) (a1 : Int) (a2 : Int) : Con Try.prog 43 [(iv a0), (iv a1), (iv a2)] [] (.v (.bool (F43 a0 a1 a2))) [] := by
  refine con_s Try.func43 (by kernel_rfl) fun cx hcx => ?_
  cases h0 : (decide ((a0 : Int) ≥ a1)) with
  | true =>
   have q0 := of_decide_eq_true h0
   have e := Eq.refl (F43 a0 a1 a2); conv at e => rhs; simp only [F43, h0, cond_true, cond_false]
   rw [e]
   exact rt [.d h0] [] [] hcx (by kernel_rfl)
  | false =>
   have q0 := of_decide_eq_false h0
   have e := Eq.refl (F43 a0 a1 a2); conv at e => rhs; simp only [F43, h0, cond_true, cond_false]
   rw [e]
   exact rt [.d h0] [] [] hcx (by kernel_rfl)

def F45 (a0 : Int × Int × Int × Int × (Int × Int × Int) × Int) (a1 : Int × Int × Int × Int × (Int × Int × Int) × Int) : Int :=
  (F64 (F65 a0.2.2.2.2.1 a1.2.2.2.2.1))

theorem C45 (a0 : Int × Int × Int × Int × (Int × Int × Int) × Int) (a1 : Int × Int × Int × Int × (Int × Int × Int) × Int) : Con Try.prog 45 [(.a [(iv a0.1), (iv a0.2.1), (iv a0.2.2.1), (iv a0.2.2.2.1), (iv a0.2.2.2.2.1.1), (iv a0.2.2.2.2.1.2.1), (iv a0.2.2.2.2.1.2.2), (iv a0.2.2.2.2.2)]), (.a [(iv a1.1), (iv a1.2.1), (iv a1.2.2.1), (iv a1.2.2.2.1), (iv a1.2.2.2.2.1.1), (iv a1.2.2.2.2.1.2.1), (iv a1.2.2.2.2.1.2.2), (iv a1.2.2.2.2.2)])] [] (iv (F45 a0 a1)) [] := by
  refine con_s Try.func45 (by kernel_rfl) fun cx hcx => ?_
  have e := Eq.refl (F45 a0 a1); conv at e => rhs; simp only [F45]
  rw [e]
  exact rt [.c [] (C65 a0.2.2.2.2.1 a1.2.2.2.2.1), .c [] (C64 (F65 a0.2.2.2.2.1 a1.2.2.2.2.1))] [] [] hcx (by kernel_rfl)

/-! ### Roots -/
theorem rtTree {n : Int} (h0 : 0 ≤ n) (h : n < 4611686018427387904) : IsRt n (F42 n) := by
  unfold F42
  refine bits_spec (n := n) (fun k b hk hb hkb => ?_) (fun k => ?_) 30 _ 0 (by decide) (by omega) (by decide) (by omega) (by simpa using h)
  · have h2 : decide (b > 0) = true := by simpa using hb
    have hw : W (k + b) = k + b := W_eq (by omega) (by omega)
    have hq := sq_bd (a := k + b) (by omega) hkb
    have hw2 : W ((k + b) * (k + b)) = (k + b) * (k + b) := W_eq (by omega) (by omega)
    simp only [S42_0, h2, cond_true, hw, hw2]
    by_cases hc : (k + b) * (k + b) ≤ n <;> simp [hc]
  · simp [S42_0]
theorem rtBelow {n : Int} (h0 : 0 ≤ n) (h : n < 4611686018427387904) : IsRt n (F47 n) := by
  unfold F47
  refine bits_spec (n := n) (fun k b hk hb hkb => ?_) (fun k => ?_) 30 _ 0 (by decide) (by omega) (by decide) (by omega) (by simpa using h)
  · have h2 : decide (b > 0) = true := by simpa using hb
    have hw : W (k + b) = k + b := W_eq (by omega) (by omega)
    have hq := sq_bd (a := k + b) (by omega) hkb
    have hw2 : W ((k + b) * (k + b)) = (k + b) * (k + b) := W_eq (by omega) (by omega)
    have hd : W (Int.tdiv b 2) = b / 2 := by rw [Int.tdiv_eq_ediv_of_nonneg (by omega)]; exact W_eq (by omega) (by omega)
    simp only [S47_0, h2, cond_true, hw, hw2]
    by_cases hc : (k + b) * (k + b) ≤ n <;> simp [hc, hd]
  · simp [S47_0]

end Go.Proofs.Ytnbpiejjeeomkaa

namespace Go.Proofs.Ytnbpiejjeeomkaa
open Go.Proofs Go.Aw Go.RowKit
set_option maxRecDepth 100000
set_option linter.unusedVariables false
set_option linter.unusedSimpArgs false

/-! ### Spans of far clusters -/
abbrev ND := Int × Int × Int × Int × (Int × Int × Int) × Int
def knw (a : ND) : Prop := (0 ≤ a.2.2.2.2.2 ∧ a.2.2.2.2.2 ≤ 131072) ∧ bd 64 a.2.2.2.2.1
theorem w5_f (n lo hi : Int) : F33 n lo hi = decide (lo ≤ n ∧ n ≤ hi) := by
  unfold F33
  by_cases h1 : lo ≤ n <;> by_cases h2 : n ≤ hi <;> simp [h1, h2]
theorem w5_r (n lo hi : Int) : F43 n lo hi = decide (lo ≤ n ∧ n ≤ hi) := by
  unfold F43
  by_cases h1 : lo ≤ n <;> by_cases h2 : n ≤ hi <;> simp [h1, h2]
open Classical in
theorem kn_f (a : ND) : F38 a = decide (knw a) := by
  unfold F38 knw bd
  simp only [w5_f]
  by_cases h1 : 0 ≤ a.2.2.2.2.2 ∧ a.2.2.2.2.2 ≤ 131072 <;> by_cases h2 : -64 ≤ a.2.2.2.2.1.1 ∧ a.2.2.2.2.1.1 ≤ 64 <;> by_cases h3 : -64 ≤ a.2.2.2.2.1.2.1 ∧ a.2.2.2.2.1.2.1 ≤ 64 <;> by_cases h4 : -64 ≤ a.2.2.2.2.1.2.2 ∧ a.2.2.2.2.1.2.2 ≤ 64 <;> simp [h1, h2, h3, h4]
theorem kn_p {a : ND} (h : (!(F38 a)) = false) : knw a := by
  rw [kn_f] at h; simpa using h
theorem sz_r {n : Int} (h : F63 n ≤ 64) (h2 : n ≥ -64) : -64 ≤ n ∧ n ≤ 64 := by
  unfold F63 at h
  split at h <;> omega
theorem sz_l {n : Int} (h : -64 ≤ n ∧ n ≤ 64) : F63 n ≤ 64 := by
  unfold F63
  rw [W_eq (by omega) (by omega)]
  split <;> omega
theorem w64 : W (0 - 64) = -64 := rfl
theorem small64_iff (x : P3) : F44 x 64 = true ↔ bd 64 x := by
  unfold F44 bd
  rw [w64]
  constructor
  · intro h
    by_cases h1 : F63 x.1 ≤ 64 <;> by_cases h2 : F63 x.2.1 ≤ 64 <;> by_cases h3 : F63 x.2.2 ≤ 64 <;> simp [h1, h2, h3] at h
    exact ⟨sz_r h1 h.1, sz_r h2 h.2.1, sz_r h3 h.2.2⟩
  · intro h
    have h1 := sz_l h.1; have h2 := sz_l h.2.1; have h3 := sz_l h.2.2
    simp [h1, h2, h3, h.1.1, h.2.1.1, h.2.2.1]
theorem dq_f {p q : P3} (hp : bd 64 p) (hq : bd 64 q) : F39 (F40 p q) = ds p q ∧ 0 ≤ ds p q ∧ ds p q ≤ 49152 := by
  have hs : bd 128 (sb p q) := bd_sb hp hq
  have h1 := mul_bd hs.1 hs.1; have h2 := mul_bd hs.2.1 hs.2.1; have h3 := mul_bd hs.2.2 hs.2.2
  have n1 := sq_nn (sb p q).1; have n2 := sq_nn (sb p q).2.1; have n3 := sq_nn (sb p q).2.2
  have e : F40 p q = sb p q := by
    unfold F40
    unfold bd at hp hq
    rw [W_eq (n := p.1 - q.1) (by omega) (by omega), W_eq (n := p.2.1 - q.2.1) (by omega) (by omega), W_eq (n := p.2.2 - q.2.2) (by omega) (by omega)]; rfl
  have e2 : ds p q = (sb p q).1 * (sb p q).1 + (sb p q).2.1 * (sb p q).2.1 + (sb p q).2.2 * (sb p q).2.2 := rfl
  refine ⟨?_, by omega, by omega⟩
  rw [e]
  unfold F39
  rw [W_eq (n := (sb p q).1 * (sb p q).1) (by omega) (by omega), W_eq (n := (sb p q).2.1 * (sb p q).2.1) (by omega) (by omega), W_eq (n := (sb p q).2.2 * (sb p q).2.2) (by omega) (by omega), sum3 (by omega) (by omega) (by omega)]; rfl
theorem dq_r {p q : P3} (hp : bd 64 p) (hq : bd 64 q) : F64 (F65 p q) = ds p q := dist_r (hp.mono (by omega)) (hq.mono (by omega))
theorem rt2 {n : Int} (h0 : 0 ≤ n) (h : n ≤ 288230376151711744) : F47 n = F42 n ∧ F46 n = F41 n ∧ 0 ≤ F42 n ∧ F42 n ≤ F41 n ∧ F41 n ≤ 536870913 := by
  have r1 := rtTree h0 (by omega)
  have r2 := rtBelow h0 (by omega)
  have e := r2.eq r1
  have hl := r1.le (m := 536870912) (by omega) (by omega)
  have hn := r1.1
  have hq := sq_bd (a := F42 n) hn (by omega)
  refine ⟨e, ?_, hn, ?_, ?_⟩
  · unfold F46 F41; rw [e]
  · unfold F41
    rw [W_eq (n := F42 n * F42 n) (by omega) (by omega), W_eq (n := F42 n + 1) (by omega) (by omega), Bool.cond_eq_ite]
    split <;> omega
  · unfold F41
    rw [W_eq (n := F42 n * F42 n) (by omega) (by omega), W_eq (n := F42 n + 1) (by omega) (by omega), Bool.cond_eq_ite]
    split <;> omega
theorem unit_eq {n : Int} (h : 0 ≤ n ∧ n ≤ 131072) : W (n * 1099511627776) = n * 1099511627776 ∧ W (W (n * 1048576) * 1048576) = n * 1099511627776 := by
  refine ⟨W_eq (by omega) (by omega), ?_⟩
  rw [W_eq (n := n * 1048576) (by omega) (by omega), show n * 1048576 * 1048576 = n * 1099511627776 by omega, W_eq (by omega) (by omega)]
section
variable {a b : ND}
theorem far_nz (ha : knw a) (hb : knw b) (h2 : decide (F42 (W ((F39 (F40 a.2.2.2.2.1 b.2.2.2.2.1)) * 1099511627776)) ≤ W ((F41 (W (a.2.2.2.2.2 * 1099511627776))) + (F41 (W (b.2.2.2.2.2 * 1099511627776))))) = false) :
    W ((F41 (W ((F39 (F40 a.2.2.2.2.1 b.2.2.2.2.1)) * 1099511627776))) + (W ((F41 (W (a.2.2.2.2.2 * 1099511627776))) + (F41 (W (b.2.2.2.2.2 * 1099511627776)))))) ≠ 0 ∧
    W ((F42 (W ((F39 (F40 a.2.2.2.2.1 b.2.2.2.2.1)) * 1099511627776))) - (W ((F41 (W (a.2.2.2.2.2 * 1099511627776))) + (F41 (W (b.2.2.2.2.2 * 1099511627776)))))) ≠ 0 := by
  have h2 := of_decide_eq_false h2
  obtain ⟨e, d0, d1⟩ := dq_f ha.2 hb.2
  rw [e, (unit_eq (n := ds a.2.2.2.2.1 b.2.2.2.2.1) (by omega)).1, (unit_eq ha.1).1, (unit_eq hb.1).1] at h2 ⊢
  have hD := rt2 (n := ds a.2.2.2.2.1 b.2.2.2.2.1 * 1099511627776) (by omega) (by omega)
  have hA := rt2 (n := a.2.2.2.2.2 * 1099511627776) (by have := ha.1; omega) (by have := ha.1; omega)
  have hB := rt2 (n := b.2.2.2.2.2 * 1099511627776) (by have := hb.1; omega) (by have := hb.1; omega)
  rw [W_eq (n := F41 (a.2.2.2.2.2 * 1099511627776) + F41 (b.2.2.2.2.2 * 1099511627776)) (by omega) (by omega)] at h2 ⊢
  rw [W_eq (by omega) (by omega), W_eq (by omega) (by omega)]
  omega
theorem far_nzr (ha : (!(F43 a.2.2.2.2.2 0 131072)) = false) (hb : (!(F43 b.2.2.2.2.2 0 131072)) = false) (ha2 : (!(F44 a.2.2.2.2.1 64)) = false) (hb2 : (!(F44 b.2.2.2.2.1 64)) = false)
    (h2 : decide (F47 (W ((W ((F45 a b) * 1048576)) * 1048576)) ≤ W ((F46 (W ((W (a.2.2.2.2.2 * 1048576)) * 1048576))) + (F46 (W ((W (b.2.2.2.2.2 * 1048576)) * 1048576))))) = false) :
    W ((F46 (W ((W ((F45 a b) * 1048576)) * 1048576))) + (W ((F46 (W ((W (a.2.2.2.2.2 * 1048576)) * 1048576))) + (F46 (W ((W (b.2.2.2.2.2 * 1048576)) * 1048576)))))) ≠ 0 ∧
    W ((F47 (W ((W ((F45 a b) * 1048576)) * 1048576))) - (W ((F46 (W ((W (a.2.2.2.2.2 * 1048576)) * 1048576))) + (F46 (W ((W (b.2.2.2.2.2 * 1048576)) * 1048576)))))) ≠ 0 := by
  have h2 := of_decide_eq_false h2
  rw [w5_r] at ha hb
  have ha1 : 0 ≤ a.2.2.2.2.2 ∧ a.2.2.2.2.2 ≤ 131072 := by simpa using ha
  have hb1 : 0 ≤ b.2.2.2.2.2 ∧ b.2.2.2.2.2 ≤ 131072 := by simpa using hb
  have hpa := (small64_iff _).1 (show F44 a.2.2.2.2.1 64 = true by simpa using ha2)
  have hpb := (small64_iff _).1 (show F44 b.2.2.2.2.1 64 = true by simpa using hb2)
  obtain ⟨_, d0, d1⟩ := dq_f hpa hpb
  have e : F45 a b = ds a.2.2.2.2.1 b.2.2.2.2.1 := dq_r hpa hpb
  have hD := rt2 (n := ds a.2.2.2.2.1 b.2.2.2.2.1 * 1099511627776) (by omega) (by omega)
  have hA := rt2 (n := a.2.2.2.2.2 * 1099511627776) (by omega) (by omega)
  have hB := rt2 (n := b.2.2.2.2.2 * 1099511627776) (by omega) (by omega)
  rw [e, (unit_eq (n := ds a.2.2.2.2.1 b.2.2.2.2.1) (by omega)).2, (unit_eq ha1).2, (unit_eq hb1).2] at h2 ⊢
  rw [hA.2.1, hB.2.1, hD.1] at h2 ⊢
  rw [hD.2.1]
  rw [W_eq (n := F41 (a.2.2.2.2.2 * 1099511627776) + F41 (b.2.2.2.2.2 * 1099511627776)) (by omega) (by omega)] at h2 ⊢
  rw [W_eq (by omega) (by omega), W_eq (by omega) (by omega)]
  omega
end

def F21 (a0 : Int × Int × Int × Int × (Int × Int × Int) × Int) (a1 : Int × Int × Int × Int × (Int × Int × Int) × Int) : (Int × Int) × Int :=
  (bif (!(F38 a0)) then
   ((0, 0), 1)
  else
   (bif (!(F38 a1)) then
    ((0, 0), 1)
   else
    (bif (decide (((F42 (W ((F39 (F40 a0.2.2.2.2.1 a1.2.2.2.2.1)) * 1099511627776))) : Int) ≤ (W ((F41 (W (a0.2.2.2.2.2 * 1099511627776))) + (F41 (W (a1.2.2.2.2.2 * 1099511627776))))))) then
     ((0, 0), 10)
    else
     (((W (Int.tdiv 1099511627776 (W ((F41 (W ((F39 (F40 a0.2.2.2.2.1 a1.2.2.2.2.1)) * 1099511627776))) + (W ((F41 (W (a0.2.2.2.2.2 * 1099511627776))) + (F41 (W (a1.2.2.2.2.2 * 1099511627776))))))))), (W (Int.tdiv (W ((W (1099511627776 + (W ((F42 (W ((F39 (F40 a0.2.2.2.2.1 a1.2.2.2.2.1)) * 1099511627776))) - (W ((F41 (W (a0.2.2.2.2.2 * 1099511627776))) + (F41 (W (a1.2.2.2.2.2 * 1099511627776))))))))) - 1)) (W ((F42 (W ((F39 (F40 a0.2.2.2.2.1 a1.2.2.2.2.1)) * 1099511627776))) - (W ((F41 (W (a0.2.2.2.2.2 * 1099511627776))) + (F41 (W (a1.2.2.2.2.2 * 1099511627776)))))))))), 0))))

theorem C21 (a0 : Int × Int × Int × Int × (Int × Int × Int) × Int) (a1 : Int × Int × Int × Int × (Int × Int × Int) × Int) : Con Try.prog 21 [(.a [(iv a0.1), (iv a0.2.1), (iv a0.2.2.1), (iv a0.2.2.2.1), (iv a0.2.2.2.2.1.1), (iv a0.2.2.2.2.1.2.1), (iv a0.2.2.2.2.1.2.2), (iv a0.2.2.2.2.2)]), (.a [(iv a1.1), (iv a1.2.1), (iv a1.2.2.1), (iv a1.2.2.2.1), (iv a1.2.2.2.2.1.1), (iv a1.2.2.2.2.1.2.1), (iv a1.2.2.2.2.1.2.2), (iv a1.2.2.2.2.2)])] [] (.t [(.a (k2 (F21 a0 a1).1)), (iv (F21 a0 a1).2)]) [] := by
  refine con_s Try.func21 (by kernel_rfl) fun cx hcx => ?_
  try have hnz := far_nz (kn_p h0) (kn_p h1) h2
  try have hnz1 := (fun _ => hnz.1) h2
  try have hnz2 := (fun _ => hnz.2) h2
  let t0 : List (St Try.prog) := [.c [] (C38 a0)]
  cases h0 : (!(F38 a0)) with
  | true =>
   try have hnz := far_nz (kn_p h0) (kn_p h1) h2
   try have hnz1 := (fun _ => hnz.1) h2
   try have hnz2 := (fun _ => hnz.2) h2
   have e := Eq.refl (F21 a0 a1); conv at e => rhs; simp only [F21, h0, cond_true, cond_false]
   rw [e]
   exact rt (t0 ++ [.d h0]) [] [] hcx (by kernel_rfl)
  | false =>
   try have hnz := far_nz (kn_p h0) (kn_p h1) h2
   try have hnz1 := (fun _ => hnz.1) h2
   try have hnz2 := (fun _ => hnz.2) h2
   let t1 : List (St Try.prog) := (t0 ++ [.d h0, .c [] (C38 a1)])
   cases h1 : (!(F38 a1)) with
   | true =>
    try have hnz := far_nz (kn_p h0) (kn_p h1) h2
    try have hnz1 := (fun _ => hnz.1) h2
    try have hnz2 := (fun _ => hnz.2) h2
    have e := Eq.refl (F21 a0 a1); conv at e => rhs; simp only [F21, h0, h1, cond_true, cond_false]
    rw [e]
    exact rt (t1 ++ [.d h1]) [] [] hcx (by kernel_rfl)
   | false =>
    try have hnz := far_nz (kn_p h0) (kn_p h1) h2
    try have hnz1 := (fun _ => hnz.1) h2
    try have hnz2 := (fun _ => hnz.2) h2
    let t2 : List (St Try.prog) := (t1 ++ [.d h1, .c [] (C40 a0.2.2.2.2.1 a1.2.2.2.2.1), .c [] (C39 (F40 a0.2.2.2.2.1 a1.2.2.2.2.1)), .c [] (C41 (W (a0.2.2.2.2.2 * 1099511627776))), .c [] (C41 (W (a1.2.2.2.2.2 * 1099511627776))), .c [] (C42 (W ((F39 (F40 a0.2.2.2.2.1 a1.2.2.2.2.1)) * 1099511627776)))])
    cases h2 : (decide (((F42 (W ((F39 (F40 a0.2.2.2.2.1 a1.2.2.2.2.1)) * 1099511627776))) : Int) ≤ (W ((F41 (W (a0.2.2.2.2.2 * 1099511627776))) + (F41 (W (a1.2.2.2.2.2 * 1099511627776))))))) with
    | true =>
     have q2 := of_decide_eq_true h2
     try have hnz := far_nz (kn_p h0) (kn_p h1) h2
     try have hnz1 := (fun _ => hnz.1) h2
     try have hnz2 := (fun _ => hnz.2) h2
     have e := Eq.refl (F21 a0 a1); conv at e => rhs; simp only [F21, h0, h1, h2, cond_true, cond_false]
     rw [e]
     exact rt (t2 ++ [.d h2]) [] [] hcx (by kernel_rfl)
    | false =>
     have q2 := of_decide_eq_false h2
     try have hnz := far_nz (kn_p h0) (kn_p h1) h2
     try have hnz1 := (fun _ => hnz.1) h2
     try have hnz2 := (fun _ => hnz.2) h2
     have e := Eq.refl (F21 a0 a1); conv at e => rhs; simp only [F21, h0, h1, h2, cond_true, cond_false]
     rw [e]
     exact rt (t2 ++ [.d h2, .c [] (C42 (W ((F39 (F40 a0.2.2.2.2.1 a1.2.2.2.2.1)) * 1099511627776))), .c [] (C41 (W ((F39 (F40 a0.2.2.2.2.1 a1.2.2.2.2.1)) * 1099511627776))), .p (show ((W ((F41 (W ((F39 (F40 a0.2.2.2.2.1 a1.2.2.2.2.1)) * 1099511627776))) + (W ((F41 (W (a0.2.2.2.2.2 * 1099511627776))) + (F41 (W (a1.2.2.2.2.2 * 1099511627776))))))) : Int) ≠ 0 from by first | omega | (rw [W_eq] <;> omega) | exact u64_nn _), .p (show ((W ((F42 (W ((F39 (F40 a0.2.2.2.2.1 a1.2.2.2.2.1)) * 1099511627776))) - (W ((F41 (W (a0.2.2.2.2.2 * 1099511627776))) + (F41 (W (a1.2.2.2.2.2 * 1099511627776))))))) : Int) ≠ 0 from by first | omega | (rw [W_eq] <;> omega) | exact u64_nn _)]) [] [] hcx (by kernel_rfl)

def F22 (a0 : Int × Int × Int × Int × (Int × Int × Int) × Int) (a1 : Int × Int × Int × Int × (Int × Int × Int) × Int) : (Int × Int) × Int :=
  (bif (!(F43 a0.2.2.2.2.2 0 131072)) then
   ((0, 0), 1)
  else
   (bif (!(F43 a1.2.2.2.2.2 0 131072)) then
    ((0, 0), 1)
   else
    (bif (!(F44 a0.2.2.2.2.1 64)) then
     ((0, 0), 1)
    else
     (bif (!(F44 a1.2.2.2.2.1 64)) then
      ((0, 0), 1)
     else
      (bif (decide (((F47 (W ((W ((F45 a0 a1) * 1048576)) * 1048576))) : Int) ≤ (W ((F46 (W ((W (a0.2.2.2.2.2 * 1048576)) * 1048576))) + (F46 (W ((W (a1.2.2.2.2.2 * 1048576)) * 1048576))))))) then
       ((0, 0), 10)
      else
       (((W (Int.tdiv 1099511627776 (W ((F46 (W ((W ((F45 a0 a1) * 1048576)) * 1048576))) + (W ((F46 (W ((W (a0.2.2.2.2.2 * 1048576)) * 1048576))) + (F46 (W ((W (a1.2.2.2.2.2 * 1048576)) * 1048576))))))))), (W (Int.tdiv (W ((W ((W (1099511627776 + (F47 (W ((W ((F45 a0 a1) * 1048576)) * 1048576))))) - (W ((F46 (W ((W (a0.2.2.2.2.2 * 1048576)) * 1048576))) + (F46 (W ((W (a1.2.2.2.2.2 * 1048576)) * 1048576))))))) - 1)) (W ((F47 (W ((W ((F45 a0 a1) * 1048576)) * 1048576))) - (W ((F46 (W ((W (a0.2.2.2.2.2 * 1048576)) * 1048576))) + (F46 (W ((W (a1.2.2.2.2.2 * 1048576)) * 1048576)))))))))), 0))))))

theorem C22 (a0 : Int × Int × Int × Int × (Int × Int × Int) × Int) (a1 : Int × Int × Int × Int × (Int × Int × Int) × Int) : Con Try.prog 22 [(.a [(iv a0.1), (iv a0.2.1), (iv a0.2.2.1), (iv a0.2.2.2.1), (iv a0.2.2.2.2.1.1), (iv a0.2.2.2.2.1.2.1), (iv a0.2.2.2.2.1.2.2), (iv a0.2.2.2.2.2)]), (.a [(iv a1.1), (iv a1.2.1), (iv a1.2.2.1), (iv a1.2.2.2.1), (iv a1.2.2.2.2.1.1), (iv a1.2.2.2.2.1.2.1), (iv a1.2.2.2.2.1.2.2), (iv a1.2.2.2.2.2)])] [] (.t [(.a (k2 (F22 a0 a1).1)), (iv (F22 a0 a1).2)]) [] := by
  refine con_s Try.func22 (by kernel_rfl) fun cx hcx => ?_
  try have hnz := far_nzr h0 h1 h2 h3 h4
  try have hnz1 := (fun _ => hnz.1) h4
  try have hnz2 := (fun _ => hnz.2) h4
  let t0 : List (St Try.prog) := [.c [] (C43 a0.2.2.2.2.2 0 131072)]
  cases h0 : (!(F43 a0.2.2.2.2.2 0 131072)) with
  | true =>
   try have hnz := far_nzr h0 h1 h2 h3 h4
   try have hnz1 := (fun _ => hnz.1) h4
   try have hnz2 := (fun _ => hnz.2) h4
   have e := Eq.refl (F22 a0 a1); conv at e => rhs; simp only [F22, h0, cond_true, cond_false]
   rw [e]
   exact rt (t0 ++ [.d h0]) [] [] hcx (by kernel_rfl)
  | false =>
   try have hnz := far_nzr h0 h1 h2 h3 h4
   try have hnz1 := (fun _ => hnz.1) h4
   try have hnz2 := (fun _ => hnz.2) h4
   let t1 : List (St Try.prog) := (t0 ++ [.d h0, .c [] (C43 a1.2.2.2.2.2 0 131072)])
   cases h1 : (!(F43 a1.2.2.2.2.2 0 131072)) with
   | true =>
    try have hnz := far_nzr h0 h1 h2 h3 h4
    try have hnz1 := (fun _ => hnz.1) h4
    try have hnz2 := (fun _ => hnz.2) h4
    have e := Eq.refl (F22 a0 a1); conv at e => rhs; simp only [F22, h0, h1, cond_true, cond_false]
    rw [e]
    exact rt (t1 ++ [.d h1]) [] [] hcx (by kernel_rfl)
   | false =>
    try have hnz := far_nzr h0 h1 h2 h3 h4
    try have hnz1 := (fun _ => hnz.1) h4
    try have hnz2 := (fun _ => hnz.2) h4
    let t2 : List (St Try.prog) := (t1 ++ [.d h1, .c [] (C44 a0.2.2.2.2.1 64)])
    cases h2 : (!(F44 a0.2.2.2.2.1 64)) with
    | true =>
     try have hnz := far_nzr h0 h1 h2 h3 h4
     try have hnz1 := (fun _ => hnz.1) h4
     try have hnz2 := (fun _ => hnz.2) h4
     have e := Eq.refl (F22 a0 a1); conv at e => rhs; simp only [F22, h0, h1, h2, cond_true, cond_false]
     rw [e]
     exact rt (t2 ++ [.d h2]) [] [] hcx (by kernel_rfl)
    | false =>
     try have hnz := far_nzr h0 h1 h2 h3 h4
     try have hnz1 := (fun _ => hnz.1) h4
     try have hnz2 := (fun _ => hnz.2) h4
     let t3 : List (St Try.prog) := (t2 ++ [.d h2, .c [] (C44 a1.2.2.2.2.1 64)])
     cases h3 : (!(F44 a1.2.2.2.2.1 64)) with
     | true =>
      try have hnz := far_nzr h0 h1 h2 h3 h4
      try have hnz1 := (fun _ => hnz.1) h4
      try have hnz2 := (fun _ => hnz.2) h4
      have e := Eq.refl (F22 a0 a1); conv at e => rhs; simp only [F22, h0, h1, h2, h3, cond_true, cond_false]
      rw [e]
      exact rt (t3 ++ [.d h3]) [] [] hcx (by kernel_rfl)
     | false =>
      try have hnz := far_nzr h0 h1 h2 h3 h4
      try have hnz1 := (fun _ => hnz.1) h4
      try have hnz2 := (fun _ => hnz.2) h4
      let t4 : List (St Try.prog) := (t3 ++ [.d h3, .c [] (C45 a0 a1), .c [] (C46 (W ((W (a0.2.2.2.2.2 * 1048576)) * 1048576))), .c [] (C46 (W ((W (a1.2.2.2.2.2 * 1048576)) * 1048576))), .c [] (C47 (W ((W ((F45 a0 a1) * 1048576)) * 1048576))), .c [] (C46 (W ((W ((F45 a0 a1) * 1048576)) * 1048576)))])
      cases h4 : (decide (((F47 (W ((W ((F45 a0 a1) * 1048576)) * 1048576))) : Int) ≤ (W ((F46 (W ((W (a0.2.2.2.2.2 * 1048576)) * 1048576))) + (F46 (W ((W (a1.2.2.2.2.2 * 1048576)) * 1048576))))))) with
      | true =>
       have q4 := of_decide_eq_true h4
       try have hnz := far_nzr h0 h1 h2 h3 h4
       try have hnz1 := (fun _ => hnz.1) h4
       try have hnz2 := (fun _ => hnz.2) h4
       have e := Eq.refl (F22 a0 a1); conv at e => rhs; simp only [F22, h0, h1, h2, h3, h4, cond_true, cond_false]
       rw [e]
       exact rt (t4 ++ [.d h4]) [] [] hcx (by kernel_rfl)
      | false =>
       have q4 := of_decide_eq_false h4
       try have hnz := far_nzr h0 h1 h2 h3 h4
       try have hnz1 := (fun _ => hnz.1) h4
       try have hnz2 := (fun _ => hnz.2) h4
       have e := Eq.refl (F22 a0 a1); conv at e => rhs; simp only [F22, h0, h1, h2, h3, h4, cond_true, cond_false]
       rw [e]
       exact rt (t4 ++ [.d h4, .p (show ((W ((F46 (W ((W ((F45 a0 a1) * 1048576)) * 1048576))) + (W ((F46 (W ((W (a0.2.2.2.2.2 * 1048576)) * 1048576))) + (F46 (W ((W (a1.2.2.2.2.2 * 1048576)) * 1048576))))))) : Int) ≠ 0 from by first | omega | (rw [W_eq] <;> omega) | exact u64_nn _), .p (show ((W ((F47 (W ((W ((F45 a0 a1) * 1048576)) * 1048576))) - (W ((F46 (W ((W (a0.2.2.2.2.2 * 1048576)) * 1048576))) + (F46 (W ((W (a1.2.2.2.2.2 * 1048576)) * 1048576))))))) : Int) ≠ 0 from by first | omega | (rw [W_eq] <;> omega) | exact u64_nn _)]) [] [] hcx (by kernel_rfl)

def F5 (a0 : Int × Int × Int × Int × (Int × Int × Int) × Int) (a1 : Int × Int × Int × Int × (Int × Int × Int) × Int) : Bool :=
  (bif ((((F21 a0 a1).1.1 : Int) == (F22 a0 a1).1.1) && ((((F21 a0 a1).1.2 : Int) == (F22 a0 a1).1.2) && true)) then
   (bif (((F21 a0 a1).2 : Int) == (F22 a0 a1).2) then
    (bif ((((F21 a1 a0).1.1 : Int) == (F21 a0 a1).1.1) && ((((F21 a1 a0).1.2 : Int) == (F21 a0 a1).1.2) && true)) then
     (bif (((F21 a1 a0).2 : Int) == (F21 a0 a1).2) then
      F10
     else
      false)
    else
     false)
   else
    false)
  else
   false)

theorem C5 (a0 : Int × Int × Int × Int × (Int × Int × Int) × Int) (a1 : Int × Int × Int × Int × (Int × Int × Int) × Int) : Con Try.prog 5 [(.a [(iv a0.1), (iv a0.2.1), (iv a0.2.2.1), (iv a0.2.2.2.1), (iv a0.2.2.2.2.1.1), (iv a0.2.2.2.2.1.2.1), (iv a0.2.2.2.2.1.2.2), (iv a0.2.2.2.2.2)]), (.a [(iv a1.1), (iv a1.2.1), (iv a1.2.2.1), (iv a1.2.2.2.1), (iv a1.2.2.2.2.1.1), (iv a1.2.2.2.2.1.2.1), (iv a1.2.2.2.2.1.2.2), (iv a1.2.2.2.2.2)])] [] (.v (.bool (F5 a0 a1))) [] := by
  refine con_s Try.func5 (by kernel_rfl) fun cx hcx => ?_
  let t0 : List (St Try.prog) := [.c [] (C21 a0 a1), .c [] (C22 a0 a1), .c [] (C21 a1 a0)]
  cases h0 : ((((F21 a0 a1).1.1 : Int) == (F22 a0 a1).1.1) && ((((F21 a0 a1).1.2 : Int) == (F22 a0 a1).1.2) && true)) with
  | true =>
   let t1 : List (St Try.prog) := (t0 ++ [.d h0])
   cases h1 : (((F21 a0 a1).2 : Int) == (F22 a0 a1).2) with
   | true =>
    have q1 := eq_of_beq h1
    let t2 : List (St Try.prog) := (t1 ++ [.d h1])
    cases h2 : ((((F21 a1 a0).1.1 : Int) == (F21 a0 a1).1.1) && ((((F21 a1 a0).1.2 : Int) == (F21 a0 a1).1.2) && true)) with
    | true =>
     let t3 : List (St Try.prog) := (t2 ++ [.d h2])
     cases h3 : (((F21 a1 a0).2 : Int) == (F21 a0 a1).2) with
     | true =>
      have q3 := eq_of_beq h3
      have e := Eq.refl (F5 a0 a1); conv at e => rhs; simp only [F5, h0, h1, h2, h3, cond_true, cond_false]
      rw [e]
      exact rt (t3 ++ [.d h3, .c [] (C10)]) [] [] hcx (by kernel_rfl)
     | false =>
      have q3 := ne_of_beq_false h3
      have e := Eq.refl (F5 a0 a1); conv at e => rhs; simp only [F5, h0, h1, h2, h3, cond_true, cond_false]
      rw [e]
      exact rt (t3 ++ [.d h3]) [] [] hcx (by kernel_rfl)
    | false =>
     have e := Eq.refl (F5 a0 a1); conv at e => rhs; simp only [F5, h0, h1, h2, cond_true, cond_false]
     rw [e]
     exact rt (t2 ++ [.d h2]) [] [] hcx (by kernel_rfl)
   | false =>
    have q1 := ne_of_beq_false h1
    have e := Eq.refl (F5 a0 a1); conv at e => rhs; simp only [F5, h0, h1, cond_true, cond_false]
    rw [e]
    exact rt (t1 ++ [.d h1]) [] [] hcx (by kernel_rfl)
  | false =>
   have e := Eq.refl (F5 a0 a1); conv at e => rhs; simp only [F5, h0, cond_true, cond_false]
   rw [e]
   exact rt (t0 ++ [.d h0]) [] [] hcx (by kernel_rfl)

end Go.Proofs.Ytnbpiejjeeomkaa
