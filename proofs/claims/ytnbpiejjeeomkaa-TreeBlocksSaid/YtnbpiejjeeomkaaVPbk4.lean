/-
  Parts of the proofs of the laws: the executor, what functions of the program compute, and that it is what the statements ask. No premise.
-/
import Derived.Test.YtnbpiejjeeomkaaVPbk3
import Derived.Shelf.SlSortCmp.Xorshift
set_option linter.unusedVariables false
set_option linter.unusedSimpArgs false
set_option maxHeartbeats 4000000
open Int (toNat)
namespace Go.Proofs.Ytnbpiejjeeomkaa
open Go.Proofs Go.Aw Go.RowKit
set_option maxRecDepth 100000

theorem o2_or (a0 : List Int) (o n : Nat) (a1 a2 a3 : Int) (c : SBC) :
   ((F124_W_b77 a0 o n a1 a2 a3 c).1 = a1 ∧ (F124_W_b77 a0 o n a1 a2 a3 c).2.1 = a2) ∨ ((F124_W_b77 a0 o n a1 a2 a3 c).1 = a2 ∧ (F124_W_b77 a0 o n a1 a2 a3 c).2.1 = a1) := by
 unfold F124_W_b77
 rw [Bool.cond_eq_ite]
 split
 · exact .inr ⟨rfl, rfl⟩
 · exact .inl ⟨rfl, rfl⟩
theorem o2_irr (a0 v : List Int) (o n : Nat) (a1 a2 a3 : Int) (c : SBC) : F124_W_b77 a0 o n a1 a2 a3 ((c.1.1, c.1.2.1, (v, c.1.2.2.2)), c.2) = F124_W_b77 a0 o n a1 a2 a3 c := rfl

def F123_W_b77 (a0 : List (Int)) (a0_o : Nat) (a0_n : Nat) (a1 : Int) (a2 : Int) (a3 : Int) (a4 : Int) (a5 : TyB × Int) : Int × Int :=
 ((F124_W_b77 a0 a0_o a0_n (F124_W_b77 a0 a0_o a0_n a1 a2 a4 ((a5.1.1, a5.1.2.1, (a0, a5.1.2.2.2)), a5.2)).1 (F124_W_b77 a0 a0_o a0_n (F124_W_b77 a0 a0_o a0_n a1 a2 a4 ((a5.1.1, a5.1.2.1, (a0, a5.1.2.2.2)), a5.2)).2.1 a3 (F124_W_b77 a0 a0_o a0_n a1 a2 a4 ((a5.1.1, a5.1.2.1, (a0, a5.1.2.2.2)), a5.2)).2.2 ((a5.1.1, a5.1.2.1, (a0, a5.1.2.2.2)), a5.2)).1 (F124_W_b77 a0 a0_o a0_n (F124_W_b77 a0 a0_o a0_n a1 a2 a4 ((a5.1.1, a5.1.2.1, (a0, a5.1.2.2.2)), a5.2)).2.1 a3 (F124_W_b77 a0 a0_o a0_n a1 a2 a4 ((a5.1.1, a5.1.2.1, (a0, a5.1.2.2.2)), a5.2)).2.2 ((a5.1.1, a5.1.2.1, (a0, a5.1.2.2.2)), a5.2)).2.2 ((a5.1.1, a5.1.2.1, (a0, a5.1.2.2.2)), a5.2)).2.1, (F124_W_b77 a0 a0_o a0_n (F124_W_b77 a0 a0_o a0_n a1 a2 a4 ((a5.1.1, a5.1.2.1, (a0, a5.1.2.2.2)), a5.2)).1 (F124_W_b77 a0 a0_o a0_n (F124_W_b77 a0 a0_o a0_n a1 a2 a4 ((a5.1.1, a5.1.2.1, (a0, a5.1.2.2.2)), a5.2)).2.1 a3 (F124_W_b77 a0 a0_o a0_n a1 a2 a4 ((a5.1.1, a5.1.2.1, (a0, a5.1.2.2.2)), a5.2)).2.2 ((a5.1.1, a5.1.2.1, (a0, a5.1.2.2.2)), a5.2)).1 (F124_W_b77 a0 a0_o a0_n (F124_W_b77 a0 a0_o a0_n a1 a2 a4 ((a5.1.1, a5.1.2.1, (a0, a5.1.2.2.2)), a5.2)).2.1 a3 (F124_W_b77 a0 a0_o a0_n a1 a2 a4 ((a5.1.1, a5.1.2.1, (a0, a5.1.2.2.2)), a5.2)).2.2 ((a5.1.1, a5.1.2.1, (a0, a5.1.2.2.2)), a5.2)).2.2 ((a5.1.1, a5.1.2.1, (a0, a5.1.2.2.2)), a5.2)).2.2)

theorem C123_W_b77 (a0 : List (Int)) (a0_o : Nat) (a0_n : Nat) (a1 : Int) (a2 : Int) (a3 : Int) (a4 : Int) (a5 : TyB × Int) (l0 : a0.length ≤ 9223372036854775807) (l5_1_1 : a5.1.1.length ≤ 9223372036854775807) (l5_1_2_2_1 : a5.1.2.2.1.length ≤ 9223372036854775807) (l5_1_2_2_2 : a5.1.2.2.2.length ≤ 9223372036854775807) (hw : a0_o + a0_n ≤ a0.length ∧ a0.length ≤ 1048576) (hr : InR a5.1.1.length a0) (hab : 0 ≤ a1 ∧ a1 < ↑a0_n ∧ 0 ≤ a2 ∧ a2 < ↑a0_n ∧ 0 ≤ a3 ∧ a3 < ↑a0_n) : Con Try.prog 123 [(.s 0 (0 + a0_o * 1) a0_n 1), (iv a1), (iv a2), (iv a3), (.p 1 0), (.f 1000077 [(.a [(.p 2 0), (iv a5.2)])])] [(.live false true (flat c3 a0)), (.live true false [(iv a4)]), (.live false false [(.s 3 0 a5.1.1.length 10), (iv a5.1.2.1), (.s 0 0 a0.length 1), (.s 4 0 a5.1.2.2.2.length 8)]), (.live false true (flat c81 a5.1.1)), (.live false true (flat c40 a5.1.2.2.2))] (iv (F123_W_b77 a0 a0_o a0_n a1 a2 a3 a4 a5).1) [] [.un, (.live true false [(iv (F123_W_b77 a0 a0_o a0_n a1 a2 a3 a4 a5).2)]), .un, .un, .un] := by
 refine con_s Try.func123 (by kernel_rfl) fun cx hcx => ?_
 have ho1 := o2_or a0 a0_o a0_n a1 a2 a4 ((a5.1.1, a5.1.2.1, (a0, a5.1.2.2.2)), a5.2)
 have ho2 := o2_or a0 a0_o a0_n (F124_W_b77 a0 a0_o a0_n a1 a2 a4 ((a5.1.1, a5.1.2.1, (a0, a5.1.2.2.2)), a5.2)).2.1 a3 (F124_W_b77 a0 a0_o a0_n a1 a2 a4 ((a5.1.1, a5.1.2.1, (a0, a5.1.2.2.2)), a5.2)).2.2 ((a5.1.1, a5.1.2.1, (a0, a5.1.2.2.2)), a5.2)
 have e := Eq.refl (F123_W_b77 a0 a0_o a0_n a1 a2 a3 a4 a5); conv at e => rhs; simp only [F123_W_b77]
 rw [e]
 try dsimp only [thenF]
 try dsimp only
 exact rtm [.c [0, 1, 2, 3, 4] (C124_W_b77 a0 a0_o a0_n a1 a2 a4 ((a5.1.1, a5.1.2.1, (a0, a5.1.2.2.2)), a5.2) (by (try simp only [Lt]); omega) (by (try simp only [Lt]); omega) (by (try simp only [Lt]); omega) (by (try simp only [Lt]); omega) (by (try simp only [Lt]); omega) (by (try simp only [Lt]); omega) (by (try simp only [Lt]); omega)), .c [0, 1, 2, 3, 4] (C124_W_b77 a0 a0_o a0_n (F124_W_b77 a0 a0_o a0_n a1 a2 a4 ((a5.1.1, a5.1.2.1, (a0, a5.1.2.2.2)), a5.2)).2.1 a3 (F124_W_b77 a0 a0_o a0_n a1 a2 a4 ((a5.1.1, a5.1.2.1, (a0, a5.1.2.2.2)), a5.2)).2.2 ((a5.1.1, a5.1.2.1, (a0, a5.1.2.2.2)), a5.2) (by (try simp only [Lt]); omega) (by (try simp only [Lt]); omega) (by (try simp only [Lt]); omega) (by (try simp only [Lt]); omega) (by (try simp only [Lt]); omega) (by (try simp only [Lt]); omega) (by (try simp only [Lt]); omega)), .c [0, 1, 2, 3, 4] (C124_W_b77 a0 a0_o a0_n (F124_W_b77 a0 a0_o a0_n a1 a2 a4 ((a5.1.1, a5.1.2.1, (a0, a5.1.2.2.2)), a5.2)).1 (F124_W_b77 a0 a0_o a0_n (F124_W_b77 a0 a0_o a0_n a1 a2 a4 ((a5.1.1, a5.1.2.1, (a0, a5.1.2.2.2)), a5.2)).2.1 a3 (F124_W_b77 a0 a0_o a0_n a1 a2 a4 ((a5.1.1, a5.1.2.1, (a0, a5.1.2.2.2)), a5.2)).2.2 ((a5.1.1, a5.1.2.1, (a0, a5.1.2.2.2)), a5.2)).1 (F124_W_b77 a0 a0_o a0_n (F124_W_b77 a0 a0_o a0_n a1 a2 a4 ((a5.1.1, a5.1.2.1, (a0, a5.1.2.2.2)), a5.2)).2.1 a3 (F124_W_b77 a0 a0_o a0_n a1 a2 a4 ((a5.1.1, a5.1.2.1, (a0, a5.1.2.2.2)), a5.2)).2.2 ((a5.1.1, a5.1.2.1, (a0, a5.1.2.2.2)), a5.2)).2.2 ((a5.1.1, a5.1.2.1, (a0, a5.1.2.2.2)), a5.2) (by (try simp only [Lt]); omega) (by (try simp only [Lt]); omega) (by (try simp only [Lt]); omega) (by (try simp only [Lt]); omega) (by (try simp only [Lt]); omega) (by (try simp only [Lt]); omega) (by (try simp only [Lt]); omega))] [] [1] [] hcx (by kernel_rfl)

def F122_W_b77 (a0 : List (Int)) (a0_o : Nat) (a0_n : Nat) (a1 : Int) (a2 : Int) (a3 : TyB × Int) : Int × Int :=
 ((F123_W_b77 a0 a0_o a0_n (W (a1 - 1)) a1 (W (a1 + 1)) a2 ((a3.1.1, a3.1.2.1, (a0, a3.1.2.2.2)), a3.2)).1, (F123_W_b77 a0 a0_o a0_n (W (a1 - 1)) a1 (W (a1 + 1)) a2 ((a3.1.1, a3.1.2.1, (a0, a3.1.2.2.2)), a3.2)).2)

theorem C122_W_b77 (a0 : List (Int)) (a0_o : Nat) (a0_n : Nat) (a1 : Int) (a2 : Int) (a3 : TyB × Int) (l0 : a0.length ≤ 9223372036854775807) (l3_1_1 : a3.1.1.length ≤ 9223372036854775807) (l3_1_2_2_1 : a3.1.2.2.1.length ≤ 9223372036854775807) (l3_1_2_2_2 : a3.1.2.2.2.length ≤ 9223372036854775807) (hw : a0_o + a0_n ≤ a0.length ∧ a0.length ≤ 1048576) (hr : InR a3.1.1.length a0) (hab : 1 ≤ a1 ∧ a1 + 1 < ↑a0_n) : Con Try.prog 122 [(.s 0 (0 + a0_o * 1) a0_n 1), (iv a1), (.p 1 0), (.f 1000077 [(.a [(.p 2 0), (iv a3.2)])])] [(.live false true (flat c3 a0)), (.live true false [(iv a2)]), (.live false false [(.s 3 0 a3.1.1.length 10), (iv a3.1.2.1), (.s 0 0 a0.length 1), (.s 4 0 a3.1.2.2.2.length 8)]), (.live false true (flat c81 a3.1.1)), (.live false true (flat c40 a3.1.2.2.2))] (iv (F122_W_b77 a0 a0_o a0_n a1 a2 a3).1) [] [.un, (.live true false [(iv (F122_W_b77 a0 a0_o a0_n a1 a2 a3).2)]), .un, .un, .un] := by
 refine con_s Try.func122 (by kernel_rfl) fun cx hcx => ?_
 have hw_0 : W (a1 - 1) = a1 - 1 := (W_eq (n := a1 - 1) (by omega) (by omega)).trans (by omega)
 have hw_1 : W (a1 + 1) = a1 + 1 := (W_eq (n := a1 + 1) (by omega) (by omega)).trans (by omega)
 have e := Eq.refl (F122_W_b77 a0 a0_o a0_n a1 a2 a3); conv at e => rhs; simp only [F122_W_b77]
 rw [e]
 try dsimp only [thenF]
 try dsimp only
 exact rtm [.c [0, 1, 2, 3, 4] (C123_W_b77 a0 a0_o a0_n (W (a1 - 1)) a1 (W (a1 + 1)) a2 ((a3.1.1, a3.1.2.1, (a0, a3.1.2.2.2)), a3.2) (by (try simp only [Lt]); omega) (by (try simp only [Lt]); omega) (by (try simp only [Lt]); omega) (by (try simp only [Lt]); omega) (by (try simp only [Lt]); omega) (by (try simp only [Lt]); omega) (by (try simp only [Lt]); omega))] [] [1] [] hcx (by kernel_rfl)

theorem md_or (a0 : List Int) (o n : Nat) (a1 a2 a3 s : Int) (c : SBC) : (F123_W_b77 a0 o n a1 a2 a3 s c).1 = a1 ∨ (F123_W_b77 a0 o n a1 a2 a3 s c).1 = a2 ∨ (F123_W_b77 a0 o n a1 a2 a3 s c).1 = a3 := by
 unfold F123_W_b77
 dsimp only
 simp only [o2_irr]
 rcases o2_or a0 o n a1 a2 s c with ⟨h1, h2⟩ | ⟨h1, h2⟩ <;> rcases o2_or a0 o n (F124_W_b77 a0 o n a1 a2 s c).2.1 a3 (F124_W_b77 a0 o n a1 a2 s c).2.2 c with ⟨g1, g2⟩ | ⟨g1, g2⟩ <;>
   rcases o2_or a0 o n (F124_W_b77 a0 o n a1 a2 s c).1 (F124_W_b77 a0 o n (F124_W_b77 a0 o n a1 a2 s c).2.1 a3 (F124_W_b77 a0 o n a1 a2 s c).2.2 c).1 (F124_W_b77 a0 o n (F124_W_b77 a0 o n a1 a2 s c).2.1 a3 (F124_W_b77 a0 o n a1 a2 s c).2.2 c).2.2 c with ⟨k1, k2⟩ | ⟨k1, k2⟩ <;> rw [k2] <;> simp_all
theorem ma_or (a0 : List Int) (o n : Nat) (a1 s : Int) (c : SBC) : (F122_W_b77 a0 o n a1 s c).1 = W (a1 - 1) ∨ (F122_W_b77 a0 o n a1 s c).1 = a1 ∨ (F122_W_b77 a0 o n a1 s c).1 = W (a1 + 1) := md_or _ _ _ _ _ _ _ _
theorem q4_eq {x : Int} (h : 0 ≤ x ∧ x ≤ 1048576) : W (Int.tdiv x 4) = x / 4 := by rw [Int.tdiv_eq_ediv_of_nonneg h.1, W_eq (by omega) (by omega)]
theorem ma_rng {a0 : List Int} {o n : Nat} {a1 s : Int} {c : SBC} (h : 1 ≤ a1 ∧ a1 + 1 < (n : Int) ∧ (n : Int) ≤ 1048576) : 0 ≤ (F122_W_b77 a0 o n a1 s c).1 ∧ (F122_W_b77 a0 o n a1 s c).1 < n := by
 have hm := ma_or a0 o n a1 s c
 rw [W_eq (n := a1 - 1) (by omega) (by omega), W_eq (n := a1 + 1) (by omega) (by omega)] at hm
 omega


def A110_W_b77_1 (a0 : List (Int)) (a0_o : Nat) (a0_n : Nat) (a1 : Int) (a2 : Int) (a3 : TyB × Int) := (F122_W_b77 a0 a0_o a0_n (W (a1 + (W ((W (Int.tdiv (W (a2 - a1)) 4)) * 1)))) 0 ((a3.1.1, a3.1.2.1, (a0, a3.1.2.2.2)), a3.2))

def A110_W_b77_2 (a0 : List (Int)) (a0_o : Nat) (a0_n : Nat) (a1 : Int) (a2 : Int) (a3 : TyB × Int) := (F122_W_b77 a0 a0_o a0_n (W (a1 + (W ((W (Int.tdiv (W (a2 - a1)) 4)) * 2)))) (A110_W_b77_1 a0 a0_o a0_n a1 a2 a3).2 ((a3.1.1, a3.1.2.1, (a0, a3.1.2.2.2)), a3.2))

def A110_W_b77_3 (a0 : List (Int)) (a0_o : Nat) (a0_n : Nat) (a1 : Int) (a2 : Int) (a3 : TyB × Int) := (F122_W_b77 a0 a0_o a0_n (W (a1 + (W ((W (Int.tdiv (W (a2 - a1)) 4)) * 3)))) (A110_W_b77_2 a0 a0_o a0_n a1 a2 a3).2 ((a3.1.1, a3.1.2.1, (a0, a3.1.2.2.2)), a3.2))

def A110_W_b77_4 (a0 : List (Int)) (a0_o : Nat) (a0_n : Nat) (a1 : Int) (a2 : Int) (a3 : TyB × Int) := (F123_W_b77 a0 a0_o a0_n (A110_W_b77_1 a0 a0_o a0_n a1 a2 a3).1 (A110_W_b77_2 a0 a0_o a0_n a1 a2 a3).1 (A110_W_b77_3 a0 a0_o a0_n a1 a2 a3).1 (A110_W_b77_3 a0 a0_o a0_n a1 a2 a3).2 ((a3.1.1, a3.1.2.1, (a0, a3.1.2.2.2)), a3.2))

def A110_W_b77_5 (a0 : List (Int)) (a0_o : Nat) (a0_n : Nat) (a1 : Int) (a2 : Int) (a3 : TyB × Int) := (F123_W_b77 a0 a0_o a0_n (W (a1 + (W ((W (Int.tdiv (W (a2 - a1)) 4)) * 1)))) (W (a1 + (W ((W (Int.tdiv (W (a2 - a1)) 4)) * 2)))) (W (a1 + (W ((W (Int.tdiv (W (a2 - a1)) 4)) * 3)))) 0 ((a3.1.1, a3.1.2.1, (a0, a3.1.2.2.2)), a3.2))

def F110_W_b77 (a0 : List (Int)) (a0_o : Nat) (a0_n : Nat) (a1 : Int) (a2 : Int) (a3 : TyB × Int) : Int × Int :=
 (bif (decide (((W (a2 - a1)) : Int) ≥ 8)) then
  (bif (decide (((W (a2 - a1)) : Int) ≥ 50)) then
   (bif (((A110_W_b77_4 a0 a0_o a0_n a1 a2 a3).2 : Int) == 0) then
    ((A110_W_b77_4 a0 a0_o a0_n a1 a2 a3).1, 1)
   else
    (bif (((A110_W_b77_4 a0 a0_o a0_n a1 a2 a3).2 : Int) == 12) then
     ((A110_W_b77_4 a0 a0_o a0_n a1 a2 a3).1, 2)
    else
     ((A110_W_b77_4 a0 a0_o a0_n a1 a2 a3).1, 0)))
  else
   (bif (((A110_W_b77_5 a0 a0_o a0_n a1 a2 a3).2 : Int) == 0) then
    ((A110_W_b77_5 a0 a0_o a0_n a1 a2 a3).1, 1)
   else
    (bif (((A110_W_b77_5 a0 a0_o a0_n a1 a2 a3).2 : Int) == 12) then
     ((A110_W_b77_5 a0 a0_o a0_n a1 a2 a3).1, 2)
    else
     ((A110_W_b77_5 a0 a0_o a0_n a1 a2 a3).1, 0))))
 else
  ((W (a1 + (W ((W (Int.tdiv (W (a2 - a1)) 4)) * 2)))), 1))

theorem C110_W_b77 (a0 : List (Int)) (a0_o : Nat) (a0_n : Nat) (a1 : Int) (a2 : Int) (a3 : TyB × Int) (l0 : a0.length ≤ 9223372036854775807) (l3_1_1 : a3.1.1.length ≤ 9223372036854775807) (l3_1_2_2_1 : a3.1.2.2.1.length ≤ 9223372036854775807) (l3_1_2_2_2 : a3.1.2.2.2.length ≤ 9223372036854775807) (hw : a0_o + a0_n ≤ a0.length ∧ a0.length ≤ 1048576) (hr : InR a3.1.1.length a0) (hab : 0 ≤ a1 ∧ a1 < a2 ∧ a2 ≤ ↑a0_n) : Con Try.prog 110 [(.s 0 (0 + a0_o * 1) a0_n 1), (iv a1), (iv a2), (.f 1000077 [(.a [(.p 1 0), (iv a3.2)])])] [(.live false true (flat c3 a0)), (.live false false [(.s 2 0 a3.1.1.length 10), (iv a3.1.2.1), (.s 0 0 a0.length 1), (.s 3 0 a3.1.2.2.2.length 8)]), (.live false true (flat c81 a3.1.1)), (.live false true (flat c40 a3.1.2.2.2))] (.t (k2 (F110_W_b77 a0 a0_o a0_n a1 a2 a3))) [] := by
 refine con_s Try.func110 (by kernel_rfl) fun cx hcx => ?_
 have hw_0 : W (a2 - a1) = a2 - a1 := (W_eq (n := a2 - a1) (by omega) (by omega)).trans (by omega)
 have hq4 := q4_eq (x := W (a2 - a1)) (by omega)
 have hc_1 : (W (a1 + (W ((W (Int.tdiv (W (a2 - a1)) 4)) * 1)))) = a1 + (a2 - a1) / 4 * 1 := by rw [hq4, hw_0]; exact (W_eq (by rw [W_eq (by omega) (by omega)]; omega) (by rw [W_eq (by omega) (by omega)]; omega)).trans (by rw [W_eq (by omega) (by omega)])
 have hc_2 : (W (a1 + (W ((W (Int.tdiv (W (a2 - a1)) 4)) * 2)))) = a1 + (a2 - a1) / 4 * 2 := by rw [hq4, hw_0]; exact (W_eq (by rw [W_eq (by omega) (by omega)]; omega) (by rw [W_eq (by omega) (by omega)]; omega)).trans (by rw [W_eq (by omega) (by omega)])
 have hc_3 : (W (a1 + (W ((W (Int.tdiv (W (a2 - a1)) 4)) * 3)))) = a1 + (a2 - a1) / 4 * 3 := by rw [hq4, hw_0]; exact (W_eq (by rw [W_eq (by omega) (by omega)]; omega) (by rw [W_eq (by omega) (by omega)]; omega)).trans (by rw [W_eq (by omega) (by omega)])
 try have hb1 : 0 ≤ (A110_W_b77_1 a0 a0_o a0_n a1 a2 a3).1 ∧ (A110_W_b77_1 a0 a0_o a0_n a1 a2 a3).1 < ↑a0_n := (fun _ => ma_rng (by omega)) h1
 try have hb2 : 0 ≤ (A110_W_b77_2 a0 a0_o a0_n a1 a2 a3).1 ∧ (A110_W_b77_2 a0 a0_o a0_n a1 a2 a3).1 < ↑a0_n := (fun _ => ma_rng (by omega)) h1
 try have hb3 : 0 ≤ (A110_W_b77_3 a0 a0_o a0_n a1 a2 a3).1 ∧ (A110_W_b77_3 a0 a0_o a0_n a1 a2 a3).1 < ↑a0_n := (fun _ => ma_rng (by omega)) h1
 let t0 : List (St Try.prog) := [.p (show (4 : Int) ≠ 0 from by decide), .p (show (4 : Int) ≠ 0 from by decide), .p (show (4 : Int) ≠ 0 from by decide)]
 cases h0 : (decide (((W (a2 - a1)) : Int) ≥ 8)) with
 | true =>
  have q0 := odt h0
  try have hb1 : 0 ≤ (A110_W_b77_1 a0 a0_o a0_n a1 a2 a3).1 ∧ (A110_W_b77_1 a0 a0_o a0_n a1 a2 a3).1 < ↑a0_n := (fun _ => ma_rng (by omega)) h1
  try have hb2 : 0 ≤ (A110_W_b77_2 a0 a0_o a0_n a1 a2 a3).1 ∧ (A110_W_b77_2 a0 a0_o a0_n a1 a2 a3).1 < ↑a0_n := (fun _ => ma_rng (by omega)) h1
  try have hb3 : 0 ≤ (A110_W_b77_3 a0 a0_o a0_n a1 a2 a3).1 ∧ (A110_W_b77_3 a0 a0_o a0_n a1 a2 a3).1 < ↑a0_n := (fun _ => ma_rng (by omega)) h1
  let t1 : List (St Try.prog) := (t0 ++ [.d h0])
  cases h1 : (decide (((W (a2 - a1)) : Int) ≥ 50)) with
  | true =>
   have q1 := odt h1
   try have hb1 : 0 ≤ (A110_W_b77_1 a0 a0_o a0_n a1 a2 a3).1 ∧ (A110_W_b77_1 a0 a0_o a0_n a1 a2 a3).1 < ↑a0_n := (fun _ => ma_rng (by omega)) h1
   try have hb2 : 0 ≤ (A110_W_b77_2 a0 a0_o a0_n a1 a2 a3).1 ∧ (A110_W_b77_2 a0 a0_o a0_n a1 a2 a3).1 < ↑a0_n := (fun _ => ma_rng (by omega)) h1
   try have hb3 : 0 ≤ (A110_W_b77_3 a0 a0_o a0_n a1 a2 a3).1 ∧ (A110_W_b77_3 a0 a0_o a0_n a1 a2 a3).1 < ↑a0_n := (fun _ => ma_rng (by omega)) h1
   let t2 : List (St Try.prog) := (t1 ++ [.d h1, .c [0, 4, 1, 2, 3] (C122_W_b77 a0 a0_o a0_n (W (a1 + (W ((W (Int.tdiv (W (a2 - a1)) 4)) * 1)))) 0 ((a3.1.1, a3.1.2.1, (a0, a3.1.2.2.2)), a3.2) (by (try simp only [Lt]); omega) (by (try simp only [Lt]); omega) (by (try simp only [Lt]); omega) (by (try simp only [Lt]); omega) (by (try simp only [Lt]); omega) (by (try simp only [Lt]); omega) (by (try simp only [Lt]); omega)), .c [0, 4, 1, 2, 3] (C122_W_b77 a0 a0_o a0_n (W (a1 + (W ((W (Int.tdiv (W (a2 - a1)) 4)) * 2)))) (A110_W_b77_1 a0 a0_o a0_n a1 a2 a3).2 ((a3.1.1, a3.1.2.1, (a0, a3.1.2.2.2)), a3.2) (by (try simp only [Lt]); omega) (by (try simp only [Lt]); omega) (by (try simp only [Lt]); omega) (by (try simp only [Lt]); omega) (by (try simp only [Lt]); omega) (by (try simp only [Lt]); omega) (by (try simp only [Lt]); omega)), .c [0, 4, 1, 2, 3] (C122_W_b77 a0 a0_o a0_n (W (a1 + (W ((W (Int.tdiv (W (a2 - a1)) 4)) * 3)))) (A110_W_b77_2 a0 a0_o a0_n a1 a2 a3).2 ((a3.1.1, a3.1.2.1, (a0, a3.1.2.2.2)), a3.2) (by (try simp only [Lt]); omega) (by (try simp only [Lt]); omega) (by (try simp only [Lt]); omega) (by (try simp only [Lt]); omega) (by (try simp only [Lt]); omega) (by (try simp only [Lt]); omega) (by (try simp only [Lt]); omega)), .c [0, 4, 1, 2, 3] (C123_W_b77 a0 a0_o a0_n (A110_W_b77_1 a0 a0_o a0_n a1 a2 a3).1 (A110_W_b77_2 a0 a0_o a0_n a1 a2 a3).1 (A110_W_b77_3 a0 a0_o a0_n a1 a2 a3).1 (A110_W_b77_3 a0 a0_o a0_n a1 a2 a3).2 ((a3.1.1, a3.1.2.1, (a0, a3.1.2.2.2)), a3.2) (by (try simp only [Lt]); omega) (by (try simp only [Lt]); omega) (by (try simp only [Lt]); omega) (by (try simp only [Lt]); omega) (by (try simp only [Lt]); omega) (by (try simp only [Lt]); omega) (by (try simp only [Lt]); omega))])
   cases h2 : (((A110_W_b77_4 a0 a0_o a0_n a1 a2 a3).2 : Int) == 0) with
   | true =>
    have q2 := eq_of_beq h2
    try have hb1 : 0 ≤ (A110_W_b77_1 a0 a0_o a0_n a1 a2 a3).1 ∧ (A110_W_b77_1 a0 a0_o a0_n a1 a2 a3).1 < ↑a0_n := (fun _ => ma_rng (by omega)) h1
    try have hb2 : 0 ≤ (A110_W_b77_2 a0 a0_o a0_n a1 a2 a3).1 ∧ (A110_W_b77_2 a0 a0_o a0_n a1 a2 a3).1 < ↑a0_n := (fun _ => ma_rng (by omega)) h1
    try have hb3 : 0 ≤ (A110_W_b77_3 a0 a0_o a0_n a1 a2 a3).1 ∧ (A110_W_b77_3 a0 a0_o a0_n a1 a2 a3).1 < ↑a0_n := (fun _ => ma_rng (by omega)) h1
    have e := Eq.refl (F110_W_b77 a0 a0_o a0_n a1 a2 a3); conv at e => rhs; simp only [F110_W_b77, h0, h1, h2, cdb]
    rw [e]
    exact rt (t2 ++ [.d h2]) [] [] hcx (by kernel_rfl)
   | false =>
    have q2 := ne_of_beq_false h2
    try have hb1 : 0 ≤ (A110_W_b77_1 a0 a0_o a0_n a1 a2 a3).1 ∧ (A110_W_b77_1 a0 a0_o a0_n a1 a2 a3).1 < ↑a0_n := (fun _ => ma_rng (by omega)) h1
    try have hb2 : 0 ≤ (A110_W_b77_2 a0 a0_o a0_n a1 a2 a3).1 ∧ (A110_W_b77_2 a0 a0_o a0_n a1 a2 a3).1 < ↑a0_n := (fun _ => ma_rng (by omega)) h1
    try have hb3 : 0 ≤ (A110_W_b77_3 a0 a0_o a0_n a1 a2 a3).1 ∧ (A110_W_b77_3 a0 a0_o a0_n a1 a2 a3).1 < ↑a0_n := (fun _ => ma_rng (by omega)) h1
    let t3 : List (St Try.prog) := (t2 ++ [.d h2])
    cases h3 : (((A110_W_b77_4 a0 a0_o a0_n a1 a2 a3).2 : Int) == 12) with
    | true =>
     have q3 := eq_of_beq h3
     try have hb1 : 0 ≤ (A110_W_b77_1 a0 a0_o a0_n a1 a2 a3).1 ∧ (A110_W_b77_1 a0 a0_o a0_n a1 a2 a3).1 < ↑a0_n := (fun _ => ma_rng (by omega)) h1
     try have hb2 : 0 ≤ (A110_W_b77_2 a0 a0_o a0_n a1 a2 a3).1 ∧ (A110_W_b77_2 a0 a0_o a0_n a1 a2 a3).1 < ↑a0_n := (fun _ => ma_rng (by omega)) h1
     try have hb3 : 0 ≤ (A110_W_b77_3 a0 a0_o a0_n a1 a2 a3).1 ∧ (A110_W_b77_3 a0 a0_o a0_n a1 a2 a3).1 < ↑a0_n := (fun _ => ma_rng (by omega)) h1
     have e := Eq.refl (F110_W_b77 a0 a0_o a0_n a1 a2 a3); conv at e => rhs; simp only [F110_W_b77, h0, h1, h2, h3, cdb]
     rw [e]
     exact rt (t3 ++ [.d h3]) [] [] hcx (by kernel_rfl)
    | false =>
     have q3 := ne_of_beq_false h3
     try have hb1 : 0 ≤ (A110_W_b77_1 a0 a0_o a0_n a1 a2 a3).1 ∧ (A110_W_b77_1 a0 a0_o a0_n a1 a2 a3).1 < ↑a0_n := (fun _ => ma_rng (by omega)) h1
     try have hb2 : 0 ≤ (A110_W_b77_2 a0 a0_o a0_n a1 a2 a3).1 ∧ (A110_W_b77_2 a0 a0_o a0_n a1 a2 a3).1 < ↑a0_n := (fun _ => ma_rng (by omega)) h1
     try have hb3 : 0 ≤ (A110_W_b77_3 a0 a0_o a0_n a1 a2 a3).1 ∧ (A110_W_b77_3 a0 a0_o a0_n a1 a2 a3).1 < ↑a0_n := (fun _ => ma_rng (by omega)) h1
     have e := Eq.refl (F110_W_b77 a0 a0_o a0_n a1 a2 a3); conv at e => rhs; simp only [F110_W_b77, h0, h1, h2, h3, cdb]
     rw [e]
     exact rt (t3 ++ [.d h3]) [] [] hcx (by kernel_rfl)
  | false =>
   have q1 := odf h1
   try have hb1 : 0 ≤ (A110_W_b77_1 a0 a0_o a0_n a1 a2 a3).1 ∧ (A110_W_b77_1 a0 a0_o a0_n a1 a2 a3).1 < ↑a0_n := (fun _ => ma_rng (by omega)) h1
   try have hb2 : 0 ≤ (A110_W_b77_2 a0 a0_o a0_n a1 a2 a3).1 ∧ (A110_W_b77_2 a0 a0_o a0_n a1 a2 a3).1 < ↑a0_n := (fun _ => ma_rng (by omega)) h1
   try have hb3 : 0 ≤ (A110_W_b77_3 a0 a0_o a0_n a1 a2 a3).1 ∧ (A110_W_b77_3 a0 a0_o a0_n a1 a2 a3).1 < ↑a0_n := (fun _ => ma_rng (by omega)) h1
   let t2 : List (St Try.prog) := (t1 ++ [.d h1, .c [0, 4, 1, 2, 3] (C123_W_b77 a0 a0_o a0_n (W (a1 + (W ((W (Int.tdiv (W (a2 - a1)) 4)) * 1)))) (W (a1 + (W ((W (Int.tdiv (W (a2 - a1)) 4)) * 2)))) (W (a1 + (W ((W (Int.tdiv (W (a2 - a1)) 4)) * 3)))) 0 ((a3.1.1, a3.1.2.1, (a0, a3.1.2.2.2)), a3.2) (by (try simp only [Lt]); omega) (by (try simp only [Lt]); omega) (by (try simp only [Lt]); omega) (by (try simp only [Lt]); omega) (by (try simp only [Lt]); omega) (by (try simp only [Lt]); omega) (by (try simp only [Lt]); omega))])
   cases h2 : (((A110_W_b77_5 a0 a0_o a0_n a1 a2 a3).2 : Int) == 0) with
   | true =>
    have q2 := eq_of_beq h2
    try have hb1 : 0 ≤ (A110_W_b77_1 a0 a0_o a0_n a1 a2 a3).1 ∧ (A110_W_b77_1 a0 a0_o a0_n a1 a2 a3).1 < ↑a0_n := (fun _ => ma_rng (by omega)) h1
    try have hb2 : 0 ≤ (A110_W_b77_2 a0 a0_o a0_n a1 a2 a3).1 ∧ (A110_W_b77_2 a0 a0_o a0_n a1 a2 a3).1 < ↑a0_n := (fun _ => ma_rng (by omega)) h1
    try have hb3 : 0 ≤ (A110_W_b77_3 a0 a0_o a0_n a1 a2 a3).1 ∧ (A110_W_b77_3 a0 a0_o a0_n a1 a2 a3).1 < ↑a0_n := (fun _ => ma_rng (by omega)) h1
    have e := Eq.refl (F110_W_b77 a0 a0_o a0_n a1 a2 a3); conv at e => rhs; simp only [F110_W_b77, h0, h1, h2, cdb]
    rw [e]
    exact rt (t2 ++ [.d h2]) [] [] hcx (by kernel_rfl)
   | false =>
    have q2 := ne_of_beq_false h2
    try have hb1 : 0 ≤ (A110_W_b77_1 a0 a0_o a0_n a1 a2 a3).1 ∧ (A110_W_b77_1 a0 a0_o a0_n a1 a2 a3).1 < ↑a0_n := (fun _ => ma_rng (by omega)) h1
    try have hb2 : 0 ≤ (A110_W_b77_2 a0 a0_o a0_n a1 a2 a3).1 ∧ (A110_W_b77_2 a0 a0_o a0_n a1 a2 a3).1 < ↑a0_n := (fun _ => ma_rng (by omega)) h1
    try have hb3 : 0 ≤ (A110_W_b77_3 a0 a0_o a0_n a1 a2 a3).1 ∧ (A110_W_b77_3 a0 a0_o a0_n a1 a2 a3).1 < ↑a0_n := (fun _ => ma_rng (by omega)) h1
    let t3 : List (St Try.prog) := (t2 ++ [.d h2])
    cases h3 : (((A110_W_b77_5 a0 a0_o a0_n a1 a2 a3).2 : Int) == 12) with
    | true =>
     have q3 := eq_of_beq h3
     try have hb1 : 0 ≤ (A110_W_b77_1 a0 a0_o a0_n a1 a2 a3).1 ∧ (A110_W_b77_1 a0 a0_o a0_n a1 a2 a3).1 < ↑a0_n := (fun _ => ma_rng (by omega)) h1
     try have hb2 : 0 ≤ (A110_W_b77_2 a0 a0_o a0_n a1 a2 a3).1 ∧ (A110_W_b77_2 a0 a0_o a0_n a1 a2 a3).1 < ↑a0_n := (fun _ => ma_rng (by omega)) h1
     try have hb3 : 0 ≤ (A110_W_b77_3 a0 a0_o a0_n a1 a2 a3).1 ∧ (A110_W_b77_3 a0 a0_o a0_n a1 a2 a3).1 < ↑a0_n := (fun _ => ma_rng (by omega)) h1
     have e := Eq.refl (F110_W_b77 a0 a0_o a0_n a1 a2 a3); conv at e => rhs; simp only [F110_W_b77, h0, h1, h2, h3, cdb]
     rw [e]
     exact rt (t3 ++ [.d h3]) [] [] hcx (by kernel_rfl)
    | false =>
     have q3 := ne_of_beq_false h3
     try have hb1 : 0 ≤ (A110_W_b77_1 a0 a0_o a0_n a1 a2 a3).1 ∧ (A110_W_b77_1 a0 a0_o a0_n a1 a2 a3).1 < ↑a0_n := (fun _ => ma_rng (by omega)) h1
     try have hb2 : 0 ≤ (A110_W_b77_2 a0 a0_o a0_n a1 a2 a3).1 ∧ (A110_W_b77_2 a0 a0_o a0_n a1 a2 a3).1 < ↑a0_n := (fun _ => ma_rng (by omega)) h1
     try have hb3 : 0 ≤ (A110_W_b77_3 a0 a0_o a0_n a1 a2 a3).1 ∧ (A110_W_b77_3 a0 a0_o a0_n a1 a2 a3).1 < ↑a0_n := (fun _ => ma_rng (by omega)) h1
     have e := Eq.refl (F110_W_b77 a0 a0_o a0_n a1 a2 a3); conv at e => rhs; simp only [F110_W_b77, h0, h1, h2, h3, cdb]
     rw [e]
     exact rt (t3 ++ [.d h3]) [] [] hcx (by kernel_rfl)
 | false =>
  have q0 := odf h0
  try have hb1 : 0 ≤ (A110_W_b77_1 a0 a0_o a0_n a1 a2 a3).1 ∧ (A110_W_b77_1 a0 a0_o a0_n a1 a2 a3).1 < ↑a0_n := (fun _ => ma_rng (by omega)) h1
  try have hb2 : 0 ≤ (A110_W_b77_2 a0 a0_o a0_n a1 a2 a3).1 ∧ (A110_W_b77_2 a0 a0_o a0_n a1 a2 a3).1 < ↑a0_n := (fun _ => ma_rng (by omega)) h1
  try have hb3 : 0 ≤ (A110_W_b77_3 a0 a0_o a0_n a1 a2 a3).1 ∧ (A110_W_b77_3 a0 a0_o a0_n a1 a2 a3).1 < ↑a0_n := (fun _ => ma_rng (by omega)) h1
  have e := Eq.refl (F110_W_b77 a0 a0_o a0_n a1 a2 a3); conv at e => rhs; simp only [F110_W_b77, h0, cdb]
  rw [e]
  exact rt (t0 ++ [.d h0, .T]) [] [] hcx (by kernel_rfl)


def bitslay_ren : Go.Shelf.Ren := ⟨fun | 15 => 94 | 28 => 115 | 29 => 116 | n => n, fun | 39 => 89 | 3 => 3 | 53 => 125 | 55 => 127 | 4 => 4 | 5 => 5 | 9 => 9 | n => n, fun | n => n⟩
theorem bitslay : Go.Proofs.SlLaysF0.n15 Try.prog bitslay_ren := {
 mixed := by kernel_rfl
 f15 := Try.func94.trans (congrArg some (by kernel_rfl))
 f28 := Try.func115.trans (congrArg some (by kernel_rfl))
 f29 := Try.func116.trans (congrArg some (by kernel_rfl))
 t3 := Try.underlying3
 a3 := Try.isAgg3
 z3 := Try.sizeOf3
 v3 := Try.zeroValue3
 t4 := Try.underlying4
 a4 := Try.isAgg4
 z4 := Try.sizeOf4
 v4 := Try.zeroValue4
 t5 := Try.underlying5
 a5 := Try.isAgg5
 z5 := Try.sizeOf5
 v5 := Try.zeroValue5
 t9 := Try.underlying9
 a9 := Try.isAgg9
 z9 := Try.sizeOf9
 v9 := Try.zeroValue9
 t39 := Try.underlying89
 a39 := Try.isAgg89
 z39 := Try.sizeOf89
 v39 := Try.zeroValue89
 t53 := Try.underlying125
 a53 := Try.isAgg125
 z53 := Try.sizeOf125
 v53 := Try.zeroValue125
 t55 := Try.underlying127
 a55 := Try.isAgg127
 z55 := Try.sizeOf127
 v55 := Try.zeroValue127 }

def F94 (n : Int) : Int := (Lib.bitLen n.toNat : Nat)
theorem C94 (a0 : Int) (hn : 0 ≤ a0 ∧ a0 ≤ 18446744073709551615) : Con Try.prog 94 [.v (.int .u64 a0)] [] (iv (F94 a0)) [] := by
 refine ⟨ent Try.func94 (by kernel_rfl) rfl, fun ρ W vs hr hb hpl hap hfz => ?_⟩
 match vs, hr with
 | [], hr => simp [Rels] at hr
 | _ :: _ :: _, hr => simp [Rels] at hr
 | [v1], hr =>
 simp only [Rels, and_true, Rel] at hr
 subst hr
 have h := Any.bits_Len (SlLaysF0.n15.bits (ρ := bitslay_ren) bitslay) a0 W hn.1 hn.2
 refine h.mono fun e w' ⟨he, hw⟩ => ?_
 subst hw
 have un1 : ∀ m j, postB m ([] : List BK) [] j = .un := fun m j => by unfold postB; simp
 exact ⟨ρ, _, he, fun _ _ => rfl, by simp only [iv, Rel]; rfl, Kept.refl _ _, fun j => by rw [un1]; trivial, fun j => by rw [un1]; trivial, fun i j b n b' n' _ o1 => by rw [un1] at o1; exact o1.elim, ρ.le_refl, fun b o hb => ⟨(hfz b o hb).1, fun j m o1 => by rw [un1] at o1; exact o1.elim, .inl hb⟩⟩

def F120 (a0 : Int) : Int :=
 (IntKind.wrap .u64 (1 * 2 ^ (min (toNat (F94 (IntKind.wrap .u64 a0))) 64)))

theorem C120 (a0 : Int) (hn : 0 ≤ a0 ∧ a0 ≤ 1048576) : Con Try.prog 120 [(iv a0)] [] (.v (.int .u64 (F120 a0))) [] := by
 refine con_s Try.func120 (by kernel_rfl) fun cx hcx => ?_
 have e := Eq.refl (F120 a0); conv at e => rhs; simp only [F120]
 rw [e]
 exact rt [.c [] (C94 (IntKind.wrap .u64 a0)  (by rw [IntKind.wrap_u64]; omega)), .p (show 0 ≤ ((F94 (IntKind.wrap .u64 a0)) : Int) from by first | omega | exact Int.natCast_nonneg _)] [] [] hcx (by kernel_rfl)

def F121 (a0 : Int) : Int × Int :=
 ((IntKind.wrap .u64 ((BitVec.ofInt 64 (IntKind.wrap .u64 ((BitVec.ofInt 64 (IntKind.wrap .u64 ((BitVec.ofInt 64 a0 ^^^ BitVec.ofInt 64 (IntKind.wrap .u64 (a0 * 2 ^ (min (toNat 13) 64)))).toNat : Int)) ^^^ BitVec.ofInt 64 (Int.fdiv (IntKind.wrap .u64 ((BitVec.ofInt 64 a0 ^^^ BitVec.ofInt 64 (IntKind.wrap .u64 (a0 * 2 ^ (min (toNat 13) 64)))).toNat : Int)) (2 ^ (min (toNat 7) 64)))).toNat : Int)) ^^^ BitVec.ofInt 64 (IntKind.wrap .u64 ((IntKind.wrap .u64 ((BitVec.ofInt 64 (IntKind.wrap .u64 ((BitVec.ofInt 64 a0 ^^^ BitVec.ofInt 64 (IntKind.wrap .u64 (a0 * 2 ^ (min (toNat 13) 64)))).toNat : Int)) ^^^ BitVec.ofInt 64 (Int.fdiv (IntKind.wrap .u64 ((BitVec.ofInt 64 a0 ^^^ BitVec.ofInt 64 (IntKind.wrap .u64 (a0 * 2 ^ (min (toNat 13) 64)))).toNat : Int)) (2 ^ (min (toNat 7) 64)))).toNat : Int)) * 2 ^ (min (toNat 17) 64)))).toNat : Int)), (IntKind.wrap .u64 ((BitVec.ofInt 64 (IntKind.wrap .u64 ((BitVec.ofInt 64 (IntKind.wrap .u64 ((BitVec.ofInt 64 a0 ^^^ BitVec.ofInt 64 (IntKind.wrap .u64 (a0 * 2 ^ (min (toNat 13) 64)))).toNat : Int)) ^^^ BitVec.ofInt 64 (Int.fdiv (IntKind.wrap .u64 ((BitVec.ofInt 64 a0 ^^^ BitVec.ofInt 64 (IntKind.wrap .u64 (a0 * 2 ^ (min (toNat 13) 64)))).toNat : Int)) (2 ^ (min (toNat 7) 64)))).toNat : Int)) ^^^ BitVec.ofInt 64 (IntKind.wrap .u64 ((IntKind.wrap .u64 ((BitVec.ofInt 64 (IntKind.wrap .u64 ((BitVec.ofInt 64 a0 ^^^ BitVec.ofInt 64 (IntKind.wrap .u64 (a0 * 2 ^ (min (toNat 13) 64)))).toNat : Int)) ^^^ BitVec.ofInt 64 (Int.fdiv (IntKind.wrap .u64 ((BitVec.ofInt 64 a0 ^^^ BitVec.ofInt 64 (IntKind.wrap .u64 (a0 * 2 ^ (min (toNat 13) 64)))).toNat : Int)) (2 ^ (min (toNat 7) 64)))).toNat : Int)) * 2 ^ (min (toNat 17) 64)))).toNat : Int)))

theorem C121 (a0 : Int) : Con Try.prog 121 [(.p 0 0)] [(.live true false [(.v (.int .u64 a0))])] (.v (.int .u64 (F121 a0).1)) [] [(.live true false [(.v (.int .u64 (F121 a0).2))])] := by
 refine con_s Try.func121 (by kernel_rfl) fun cx hcx => ?_
 have e := Eq.refl (F121 a0); conv at e => rhs; simp only [F121]
 rw [e]
 try dsimp only [thenF]
 try dsimp only
 exact rtm [.p (show 0 ≤ (13 : Int) from by decide), .p (show 0 ≤ (7 : Int) from by decide), .p (show 0 ≤ (17 : Int) from by decide)] [] [0] [] hcx (by kernel_rfl)


theorem np2_eq {n : Nat} (h : n ≤ 1048576) : F120 (n : Int) = ((1 <<< Go.Sort.bitsLen n : Nat) : Int) := by
 unfold F120 F94
 have hk : Go.Sort.bitsLen n ≤ 62 := (Go.Sort.bitsLen_le_iff n 62).2 (by omega)
 rw [show IntKind.wrap .u64 (n : Int) = n by rw [IntKind.wrap_u64]; omega, itn, itn, bitLen_eq _ (by omega), Nat.min_eq_left (by omega), Int.one_mul]
 exact wrap_two_pow _ hk
theorem np2_le {n : Nat} (h1 : 1 ≤ n) (h : n ≤ 1048576) : 1 ≤ 1 <<< Go.Sort.bitsLen n ∧ 1 <<< Go.Sort.bitsLen n ≤ 2 * n := by
 have hp : 1 ≤ Go.Sort.bitsLen n := by
   rcases Nat.eq_zero_or_pos (Go.Sort.bitsLen n) with h0 | h0
   · have := (Go.Sort.bitsLen_le_iff n 0).1 (by omega); omega
   · exact h0
 have h2 : ¬ n < 2 ^ (Go.Sort.bitsLen n - 1) := fun h3 => by
   have := (Go.Sort.bitsLen_le_iff n (Go.Sort.bitsLen n - 1)).2 h3; omega
 rw [Nat.one_shiftLeft]
 obtain ⟨k, hk⟩ : ∃ k, Go.Sort.bitsLen n = k + 1 := ⟨Go.Sort.bitsLen n - 1, by omega⟩
 rw [hk] at h2 ⊢
 rw [show k + 1 - 1 = k by omega] at h2
 rw [Nat.pow_succ]
 have : 1 ≤ 2 ^ k := Nat.one_le_two_pow
 omega
def brkO (x M : Int) : Int := W (IntKind.wrap .u64 ((BitVec.ofInt 64 x &&& BitVec.ofInt 64 (IntKind.wrap .u64 (M - 1))).toNat : Int))
theorem brkO_nat (x : Int) {M : Nat} (h : 1 ≤ M ∧ M ≤ 1099511627776) : brkO x (M : Int) = (((BitVec.ofInt 64 x).toNat &&& (M - 1) : Nat) : Int) := by
 unfold brkO
 have e : (BitVec.ofInt 64 (IntKind.wrap .u64 ((M : Int) - 1))).toNat = M - 1 := by
   rw [IntKind.wrap_u64, BitVec.toNat_ofInt]; omega
 have hle : (BitVec.ofInt 64 x).toNat &&& (M - 1) ≤ M - 1 := Nat.and_le_right
 rw [BitVec.toNat_and, e, show IntKind.wrap .u64 ((((BitVec.ofInt 64 x).toNat &&& (M - 1) : Nat)) : Int) = (((BitVec.ofInt 64 x).toNat &&& (M - 1) : Nat) : Int) by rw [IntKind.wrap_u64]; omega]
 exact W_eq (by omega) (by omega)
theorem brkO_rng (x : Int) {n : Int} (h : 1 ≤ n ∧ n ≤ 1048576) : 0 ≤ brkO x (F120 n) ∧ brkO x (F120 n) < 2 * n := by
 obtain ⟨n, rfl⟩ : ∃ k : Nat, n = k := ⟨n.toNat, by omega⟩
 have h2 := np2_le (n := n) (by omega) (by omega)
 rw [np2_eq (by omega), brkO_nat x ⟨h2.1, by omega⟩]
 have hle : (BitVec.ofInt 64 x).toNat &&& (1 <<< Go.Sort.bitsLen n - 1) ≤ 1 <<< Go.Sort.bitsLen n - 1 := Nat.and_le_right
 omega

noncomputable def B109_W_b77_0 : Code := (loopAtD [1, 1, 0, 1, 1, 1] [] (bodyOf Try.f109) []).1
noncomputable def K109_W_b77_0 : List K := (loopAtD [1, 1, 0, 1, 1, 1] [] (bodyOf Try.f109) []).2

def st109_W_b77_0 (a0 : List (Int)) (a0_o : Nat) (a0_n : Nat) (a1 : Int) (a2 : Int) (a3 : TyB × Int) (v1c : List SV) (v1n : Nat) (v2 v3 : Int) : LS := ⟨slN 67 [(0, (.s 0 (0 + a0_o * 1) a0_n 1)), (1, (iv a1)), (8, (iv (W (a2 - a1)))), (9, (.p 4 0)), (10, (.v (.int .u64 (F120 (W (a2 - a1)))))), (11, (iv v2))], [(.live true true v1c), (.live false false [(.s 2 0 a3.1.1.length 10), (iv a3.1.2.1), (.s 0 0 v1n 1), (.s 3 0 a3.1.2.2.2.length 8)]), (.live false true (flat c81 a3.1.1)), (.live false true (flat c40 a3.1.2.2.2)), (.live true false [(.v (.int .u64 v3))])]⟩

def S109_W_b77_0 (a0 : List (Int)) (a0_o : Nat) (a0_n : Nat) (a1 : Int) (a2 : Int) (a3 : TyB × Int) : List (Int) × Int × Int → (List (Int) × Int × Int) ⊕ (List (Int))
 | (v1, v2, v3) =>
  (bif (decide ((v2 : Int) ≤ (W ((W (a1 + (W ((W (Int.tdiv (W (a2 - a1)) 4)) * 2)))) + 1)))) then
   (bif (decide (((W (IntKind.wrap .u64 ((BitVec.ofInt 64 (F121 v3).1 &&& BitVec.ofInt 64 (IntKind.wrap .u64 ((F120 (W (a2 - a1))) - 1))).toNat : Int))) : Int) ≥ (W (a2 - a1)))) then
    (.inl (((v1.set (a0_o + toNat v2) (v1.getD (a0_o + toNat (W (a1 + (W ((W (IntKind.wrap .u64 ((BitVec.ofInt 64 (F121 v3).1 &&& BitVec.ofInt 64 (IntKind.wrap .u64 ((F120 (W (a2 - a1))) - 1))).toNat : Int))) - (W (a2 - a1))))))) default)).set (a0_o + toNat (W (a1 + (W ((W (IntKind.wrap .u64 ((BitVec.ofInt 64 (F121 v3).1 &&& BitVec.ofInt 64 (IntKind.wrap .u64 ((F120 (W (a2 - a1))) - 1))).toNat : Int))) - (W (a2 - a1))))))) (v1.getD (a0_o + toNat v2) default)), (v2 + 1), (F121 v3).2))
   else
    (.inl (((v1.set (a0_o + toNat v2) (v1.getD (a0_o + toNat (W (a1 + (W (IntKind.wrap .u64 ((BitVec.ofInt 64 (F121 v3).1 &&& BitVec.ofInt 64 (IntKind.wrap .u64 ((F120 (W (a2 - a1))) - 1))).toNat : Int)))))) default)).set (a0_o + toNat (W (a1 + (W (IntKind.wrap .u64 ((BitVec.ofInt 64 (F121 v3).1 &&& BitVec.ofInt 64 (IntKind.wrap .u64 ((F120 (W (a2 - a1))) - 1))).toNat : Int)))))) (v1.getD (a0_o + toNat v2) default)), (v2 + 1), (F121 v3).2)))
  else
   (.inr v1))

theorem L109_W_b77_0 (a0 : List (Int)) (a0_o : Nat) (a0_n : Nat) (a1 : Int) (a2 : Int) (a3 : TyB × Int) (l0 : a0.length ≤ 9223372036854775807) (l3_1_1 : a3.1.1.length ≤ 9223372036854775807) (l3_1_2_2_1 : a3.1.2.2.1.length ≤ 9223372036854775807) (l3_1_2_2_2 : a3.1.2.2.2.length ≤ 9223372036854775807) (hw : a0_o + a0_n ≤ a0.length ∧ a0.length ≤ 1048576) (hr : InR a3.1.1.length a0) (hab : 0 ≤ a1 ∧ a1 ≤ a2 ∧ a2 ≤ ↑a0_n) {cx : Cx} (hcx : cx.base = 4) : ∀ (n : Nat) (v1 : List (Int)) (v2 v3 : Int), (v1.length = a0.length) ∧ (InR a3.1.1.length v1) ∧ (8 ≤ a2 - a1) ∧ (a1 + (a2 - a1) / 4 * 2 - 1 ≤ v2) ∧ (v2 ≤ a1 + (a2 - a1) / 4 * 2 + 2) → toNat (a1 + (a2 - a1) / 4 * 2 + 2 - v2) < n → Aw.Good Try.prog none 9 (bodyPost Try.prog Try.f109 (RR cx (.t []) [] [(.live true true (flat c3 (loopF (S109_W_b77_0 a0 a0_o a0_n a1 a2 a3) n (v1, v2, v3)))), .un, .un, .un])) cx [] (.l B109_W_b77_0 n :: K109_W_b77_0) (st109_W_b77_0 a0 a0_o a0_n a1 a2 a3 (flat c3 v1) v1.length v2 v3) := by
 intro n
 induction n with
 | zero => intro v1 v2 v3 hi hn; exact absurd hn (nlz _)
 | succ n ih =>
   intro v1 v2 v3 hi hn
   refine good_round ?_
   have hw_0 : W (a2 - a1) = a2 - a1 := (W_eq (n := a2 - a1) (by omega) (by omega)).trans (by omega)
   have hq4 := q4_eq (x := W (a2 - a1)) (by omega)
   have hc_2 : (W (a1 + (W ((W (Int.tdiv (W (a2 - a1)) 4)) * 2)))) = a1 + (a2 - a1) / 4 * 2 := by rw [hq4, hw_0]; exact (W_eq (by rw [W_eq (by omega) (by omega)]; omega) (by rw [W_eq (by omega) (by omega)]; omega)).trans (by rw [W_eq (by omega) (by omega)])
   have hc_4 := W_eq (n := (W (a1 + (W ((W (Int.tdiv (W (a2 - a1)) 4)) * 2)))) + 1) (by omega) (by omega)
   have hw_i := W_eq (n := v2 + 1) (by omega) (by omega)
   have hot : 0 ≤ (W (IntKind.wrap .u64 ((BitVec.ofInt 64 (F121 v3).1 &&& BitVec.ofInt 64 (IntKind.wrap .u64 ((F120 (W (a2 - a1))) - 1))).toNat : Int))) ∧ (W (IntKind.wrap .u64 ((BitVec.ofInt 64 (F121 v3).1 &&& BitVec.ofInt 64 (IntKind.wrap .u64 ((F120 (W (a2 - a1))) - 1))).toNat : Int))) < 2 * (W (a2 - a1)) := brkO_rng (F121 v3).1 (n := W (a2 - a1)) (by omega)
   have hwo1 := W_eq (n := (W (IntKind.wrap .u64 ((BitVec.ofInt 64 (F121 v3).1 &&& BitVec.ofInt 64 (IntKind.wrap .u64 ((F120 (W (a2 - a1))) - 1))).toNat : Int))) - (W (a2 - a1))) (by omega) (by omega)
   try have hwo2 := (fun _ => W_eq (n := a1 + (W ((W (IntKind.wrap .u64 ((BitVec.ofInt 64 (F121 v3).1 &&& BitVec.ofInt 64 (IntKind.wrap .u64 ((F120 (W (a2 - a1))) - 1))).toNat : Int))) - (W (a2 - a1))))) (by omega) (by omega)) h1
   try have hwo3 := (fun _ => W_eq (n := a1 + (W (IntKind.wrap .u64 ((BitVec.ofInt 64 (F121 v3).1 &&& BitVec.ofInt 64 (IntKind.wrap .u64 ((F120 (W (a2 - a1))) - 1))).toNat : Int)))) (by omega) (by omega)) h1
   let t0 : List (St Try.prog) := [.p (show (4 : Int) ≠ 0 from by decide)]
   cases h0 : (decide ((v2 : Int) ≤ (W ((W (a1 + (W ((W (Int.tdiv (W (a2 - a1)) 4)) * 2)))) + 1)))) with
   | true =>
    have q0 := odt h0
    try have hwo2 := (fun _ => W_eq (n := a1 + (W ((W (IntKind.wrap .u64 ((BitVec.ofInt 64 (F121 v3).1 &&& BitVec.ofInt 64 (IntKind.wrap .u64 ((F120 (W (a2 - a1))) - 1))).toNat : Int))) - (W (a2 - a1))))) (by omega) (by omega)) h1
    try have hwo3 := (fun _ => W_eq (n := a1 + (W (IntKind.wrap .u64 ((BitVec.ofInt 64 (F121 v3).1 &&& BitVec.ofInt 64 (IntKind.wrap .u64 ((F120 (W (a2 - a1))) - 1))).toNat : Int)))) (by omega) (by omega)) h1
    let t1 : List (St Try.prog) := (t0 ++ [.d h0, .c [4] (C121 v3)])
    cases h1 : (decide (((W (IntKind.wrap .u64 ((BitVec.ofInt 64 (F121 v3).1 &&& BitVec.ofInt 64 (IntKind.wrap .u64 ((F120 (W (a2 - a1))) - 1))).toNat : Int))) : Int) ≥ (W (a2 - a1)))) with
    | true =>
     have q1 := odt h1
     try have hwo2 := (fun _ => W_eq (n := a1 + (W ((W (IntKind.wrap .u64 ((BitVec.ofInt 64 (F121 v3).1 &&& BitVec.ofInt 64 (IntKind.wrap .u64 ((F120 (W (a2 - a1))) - 1))).toNat : Int))) - (W (a2 - a1))))) (by omega) (by omega)) h1
     try have hwo3 := (fun _ => W_eq (n := a1 + (W (IntKind.wrap .u64 ((BitVec.ofInt 64 (F121 v3).1 &&& BitVec.ofInt 64 (IntKind.wrap .u64 ((F120 (W (a2 - a1))) - 1))).toNat : Int)))) (by omega) (by omega)) h1
     have e := Eq.refl (S109_W_b77_0 a0 a0_o a0_n a1 a2 a3 (v1, v2, v3)); conv at e => rhs; simp only [S109_W_b77_0, h0, h1, cdb]
     rw [loopF_inl e]
     refine ba (t1 ++ [.d h1, .i (W (a1 + (W ((W (IntKind.wrap .u64 ((BitVec.ofInt 64 (F121 v3).1 &&& BitVec.ofInt 64 (IntKind.wrap .u64 ((F120 (W (a2 - a1))) - 1))).toNat : Int))) - (W (a2 - a1)))))) a0_n, stLw c3_len v1 a0_o (W (a1 + (W ((W (IntKind.wrap .u64 ((BitVec.ofInt 64 (F121 v3).1 &&& BitVec.ofInt 64 (IntKind.wrap .u64 ((F120 (W (a2 - a1))) - 1))).toNat : Int))) - (W (a2 - a1)))))) 0 1, .i v2 a0_n, stLw c3_len v1 a0_o v2 0 1, .i v2 a0_n, .p (show ((0 + a0_o * 1 + toNat v2 * 1) + 1 ≤ (flat c3 v1).length) from (flat_setwl c3_len (by first | omega | (simp only [Lt]; omega)) (o := 0) (Nb rfl))), .i (W (a1 + (W ((W (IntKind.wrap .u64 ((BitVec.ofInt 64 (F121 v3).1 &&& BitVec.ofInt 64 (IntKind.wrap .u64 ((F120 (W (a2 - a1))) - 1))).toNat : Int))) - (W (a2 - a1)))))) a0_n, .p (show ((0 + a0_o * 1 + toNat (W (a1 + (W ((W (IntKind.wrap .u64 ((BitVec.ofInt 64 (F121 v3).1 &&& BitVec.ofInt 64 (IntKind.wrap .u64 ((F120 (W (a2 - a1))) - 1))).toNat : Int))) - (W (a2 - a1)))))) * 1) + 1 ≤ (splice (flat c3 v1) (0 + a0_o * 1 + toNat v2 * 1) [(iv (v1.getD (a0_o + toNat (W (a1 + (W ((W (IntKind.wrap .u64 ((BitVec.ofInt 64 (F121 v3).1 &&& BitVec.ofInt 64 (IntKind.wrap .u64 ((F120 (W (a2 - a1))) - 1))).toNat : Int))) - (W (a2 - a1))))))) default))]).length) from (by rw [show (splice (flat c3 v1) (0 + a0_o * 1 + toNat v2 * 1) [(iv (v1.getD (a0_o + toNat (W (a1 + (W ((W (IntKind.wrap .u64 ((BitVec.ofInt 64 (F121 v3).1 &&& BitVec.ofInt 64 (IntKind.wrap .u64 ((F120 (W (a2 - a1))) - 1))).toNat : Int))) - (W (a2 - a1))))))) default))]) = flat c3 (v1.set (a0_o + toNat v2) (v1.getD (a0_o + toNat (W (a1 + (W ((W (IntKind.wrap .u64 ((BitVec.ofInt 64 (F121 v3).1 &&& BitVec.ofInt 64 (IntKind.wrap .u64 ((F120 (W (a2 - a1))) - 1))).toNat : Int))) - (W (a2 - a1))))))) default)) from (flat_setw c3_len (by first | omega | (simp only [Lt]; omega)) (o := 0) (d := default) (Nb rfl) rfl)]; exact flat_setwl c3_len (by first | omega | (simp only [Lt]; omega)) (o := 0) (Nb rfl)))]) [] [0, 1, 8, 9, 10, 11] [4] hcx (m := n) B109_W_b77_0 (K109_W_b77_0) (st109_W_b77_0 a0 a0_o a0_n a1 a2 a3 (splice (splice (flat c3 v1) (0 + a0_o * 1 + toNat v2 * 1) [(iv (v1.getD (a0_o + toNat (W (a1 + (W ((W (IntKind.wrap .u64 ((BitVec.ofInt 64 (F121 v3).1 &&& BitVec.ofInt 64 (IntKind.wrap .u64 ((F120 (W (a2 - a1))) - 1))).toNat : Int))) - (W (a2 - a1))))))) default))]) (0 + a0_o * 1 + toNat (W (a1 + (W ((W (IntKind.wrap .u64 ((BitVec.ofInt 64 (F121 v3).1 &&& BitVec.ofInt 64 (IntKind.wrap .u64 ((F120 (W (a2 - a1))) - 1))).toNat : Int))) - (W (a2 - a1)))))) * 1) [(iv (v1.getD (a0_o + toNat v2) default))]) (v1.length) (W (v2 + 1)) ((F121 v3).2)) (by kernel_rfl) ?_
     have z0 : (W (v2 + 1)) = (v2 + 1) := W_eq (by omega) (by omega)
     have z1 : (splice (splice (flat c3 v1) (0 + a0_o * 1 + toNat v2 * 1) [(iv (v1.getD (a0_o + toNat (W (a1 + (W ((W (IntKind.wrap .u64 ((BitVec.ofInt 64 (F121 v3).1 &&& BitVec.ofInt 64 (IntKind.wrap .u64 ((F120 (W (a2 - a1))) - 1))).toNat : Int))) - (W (a2 - a1))))))) default))]) (0 + a0_o * 1 + toNat (W (a1 + (W ((W (IntKind.wrap .u64 ((BitVec.ofInt 64 (F121 v3).1 &&& BitVec.ofInt 64 (IntKind.wrap .u64 ((F120 (W (a2 - a1))) - 1))).toNat : Int))) - (W (a2 - a1)))))) * 1) [(iv (v1.getD (a0_o + toNat v2) default))]) = flat c3 ((v1.set (a0_o + toNat v2) (v1.getD (a0_o + toNat (W (a1 + (W ((W (IntKind.wrap .u64 ((BitVec.ofInt 64 (F121 v3).1 &&& BitVec.ofInt 64 (IntKind.wrap .u64 ((F120 (W (a2 - a1))) - 1))).toNat : Int))) - (W (a2 - a1))))))) default)).set (a0_o + toNat (W (a1 + (W ((W (IntKind.wrap .u64 ((BitVec.ofInt 64 (F121 v3).1 &&& BitVec.ofInt 64 (IntKind.wrap .u64 ((F120 (W (a2 - a1))) - 1))).toNat : Int))) - (W (a2 - a1))))))) (v1.getD (a0_o + toNat v2) default)) := (by rw [show (splice (flat c3 v1) (0 + a0_o * 1 + toNat v2 * 1) [(iv (v1.getD (a0_o + toNat (W (a1 + (W ((W (IntKind.wrap .u64 ((BitVec.ofInt 64 (F121 v3).1 &&& BitVec.ofInt 64 (IntKind.wrap .u64 ((F120 (W (a2 - a1))) - 1))).toNat : Int))) - (W (a2 - a1))))))) default))]) = flat c3 (v1.set (a0_o + toNat v2) (v1.getD (a0_o + toNat (W (a1 + (W ((W (IntKind.wrap .u64 ((BitVec.ofInt 64 (F121 v3).1 &&& BitVec.ofInt 64 (IntKind.wrap .u64 ((F120 (W (a2 - a1))) - 1))).toNat : Int))) - (W (a2 - a1))))))) default)) from (flat_setw c3_len (by first | omega | (simp only [Lt]; omega)) (o := 0) (d := default) (Nb rfl) rfl)]; exact flat_setw c3_len (by first | omega | (simp only [Lt]; omega)) (o := 0) (d := default) (Nb rfl) rfl)
     have z2 : v1.length = ((v1.set (a0_o + toNat v2) (v1.getD (a0_o + toNat (W (a1 + (W ((W (IntKind.wrap .u64 ((BitVec.ofInt 64 (F121 v3).1 &&& BitVec.ofInt 64 (IntKind.wrap .u64 ((F120 (W (a2 - a1))) - 1))).toNat : Int))) - (W (a2 - a1))))))) default)).set (a0_o + toNat (W (a1 + (W ((W (IntKind.wrap .u64 ((BitVec.ofInt 64 (F121 v3).1 &&& BitVec.ofInt 64 (IntKind.wrap .u64 ((F120 (W (a2 - a1))) - 1))).toNat : Int))) - (W (a2 - a1))))))) (v1.getD (a0_o + toNat v2) default)).length := by simp
     rw [z0, z1, z2]
     exact ih ((v1.set (a0_o + toNat v2) (v1.getD (a0_o + toNat (W (a1 + (W ((W (IntKind.wrap .u64 ((BitVec.ofInt 64 (F121 v3).1 &&& BitVec.ofInt 64 (IntKind.wrap .u64 ((F120 (W (a2 - a1))) - 1))).toNat : Int))) - (W (a2 - a1))))))) default)).set (a0_o + toNat (W (a1 + (W ((W (IntKind.wrap .u64 ((BitVec.ofInt 64 (F121 v3).1 &&& BitVec.ofInt 64 (IntKind.wrap .u64 ((F120 (W (a2 - a1))) - 1))).toNat : Int))) - (W (a2 - a1))))))) (v1.getD (a0_o + toNat v2) default)) (v2 + 1) ((F121 v3).2) (by and_intros <;> (try simp only [Lt]) <;> first | omega | assumption | exact hi.2.1 | exact hi.2.2.1 | exact InR.swap hi.2.1 (by omega) (by omega) | exact InR.swap hr (by omega) (by omega)) (by (try simp only [Ls]); omega)
    | false =>
     have q1 := odf h1
     try have hwo2 := (fun _ => W_eq (n := a1 + (W ((W (IntKind.wrap .u64 ((BitVec.ofInt 64 (F121 v3).1 &&& BitVec.ofInt 64 (IntKind.wrap .u64 ((F120 (W (a2 - a1))) - 1))).toNat : Int))) - (W (a2 - a1))))) (by omega) (by omega)) h1
     try have hwo3 := (fun _ => W_eq (n := a1 + (W (IntKind.wrap .u64 ((BitVec.ofInt 64 (F121 v3).1 &&& BitVec.ofInt 64 (IntKind.wrap .u64 ((F120 (W (a2 - a1))) - 1))).toNat : Int)))) (by omega) (by omega)) h1
     have e := Eq.refl (S109_W_b77_0 a0 a0_o a0_n a1 a2 a3 (v1, v2, v3)); conv at e => rhs; simp only [S109_W_b77_0, h0, h1, cdb]
     rw [loopF_inl e]
     refine ba (t1 ++ [.d h1, .i (W (a1 + (W (IntKind.wrap .u64 ((BitVec.ofInt 64 (F121 v3).1 &&& BitVec.ofInt 64 (IntKind.wrap .u64 ((F120 (W (a2 - a1))) - 1))).toNat : Int))))) a0_n, stLw c3_len v1 a0_o (W (a1 + (W (IntKind.wrap .u64 ((BitVec.ofInt 64 (F121 v3).1 &&& BitVec.ofInt 64 (IntKind.wrap .u64 ((F120 (W (a2 - a1))) - 1))).toNat : Int))))) 0 1, .i v2 a0_n, stLw c3_len v1 a0_o v2 0 1, .i v2 a0_n, .p (show ((0 + a0_o * 1 + toNat v2 * 1) + 1 ≤ (flat c3 v1).length) from (flat_setwl c3_len (by first | omega | (simp only [Lt]; omega)) (o := 0) (Nb rfl))), .i (W (a1 + (W (IntKind.wrap .u64 ((BitVec.ofInt 64 (F121 v3).1 &&& BitVec.ofInt 64 (IntKind.wrap .u64 ((F120 (W (a2 - a1))) - 1))).toNat : Int))))) a0_n, .p (show ((0 + a0_o * 1 + toNat (W (a1 + (W (IntKind.wrap .u64 ((BitVec.ofInt 64 (F121 v3).1 &&& BitVec.ofInt 64 (IntKind.wrap .u64 ((F120 (W (a2 - a1))) - 1))).toNat : Int))))) * 1) + 1 ≤ (splice (flat c3 v1) (0 + a0_o * 1 + toNat v2 * 1) [(iv (v1.getD (a0_o + toNat (W (a1 + (W (IntKind.wrap .u64 ((BitVec.ofInt 64 (F121 v3).1 &&& BitVec.ofInt 64 (IntKind.wrap .u64 ((F120 (W (a2 - a1))) - 1))).toNat : Int)))))) default))]).length) from (by rw [show (splice (flat c3 v1) (0 + a0_o * 1 + toNat v2 * 1) [(iv (v1.getD (a0_o + toNat (W (a1 + (W (IntKind.wrap .u64 ((BitVec.ofInt 64 (F121 v3).1 &&& BitVec.ofInt 64 (IntKind.wrap .u64 ((F120 (W (a2 - a1))) - 1))).toNat : Int)))))) default))]) = flat c3 (v1.set (a0_o + toNat v2) (v1.getD (a0_o + toNat (W (a1 + (W (IntKind.wrap .u64 ((BitVec.ofInt 64 (F121 v3).1 &&& BitVec.ofInt 64 (IntKind.wrap .u64 ((F120 (W (a2 - a1))) - 1))).toNat : Int)))))) default)) from (flat_setw c3_len (by first | omega | (simp only [Lt]; omega)) (o := 0) (d := default) (Nb rfl) rfl)]; exact flat_setwl c3_len (by first | omega | (simp only [Lt]; omega)) (o := 0) (Nb rfl)))]) [] [0, 1, 8, 9, 10, 11] [4] hcx (m := n) B109_W_b77_0 (K109_W_b77_0) (st109_W_b77_0 a0 a0_o a0_n a1 a2 a3 (splice (splice (flat c3 v1) (0 + a0_o * 1 + toNat v2 * 1) [(iv (v1.getD (a0_o + toNat (W (a1 + (W (IntKind.wrap .u64 ((BitVec.ofInt 64 (F121 v3).1 &&& BitVec.ofInt 64 (IntKind.wrap .u64 ((F120 (W (a2 - a1))) - 1))).toNat : Int)))))) default))]) (0 + a0_o * 1 + toNat (W (a1 + (W (IntKind.wrap .u64 ((BitVec.ofInt 64 (F121 v3).1 &&& BitVec.ofInt 64 (IntKind.wrap .u64 ((F120 (W (a2 - a1))) - 1))).toNat : Int))))) * 1) [(iv (v1.getD (a0_o + toNat v2) default))]) (v1.length) (W (v2 + 1)) ((F121 v3).2)) (by kernel_rfl) ?_
     have z0 : (W (v2 + 1)) = (v2 + 1) := W_eq (by omega) (by omega)
     have z1 : (splice (splice (flat c3 v1) (0 + a0_o * 1 + toNat v2 * 1) [(iv (v1.getD (a0_o + toNat (W (a1 + (W (IntKind.wrap .u64 ((BitVec.ofInt 64 (F121 v3).1 &&& BitVec.ofInt 64 (IntKind.wrap .u64 ((F120 (W (a2 - a1))) - 1))).toNat : Int)))))) default))]) (0 + a0_o * 1 + toNat (W (a1 + (W (IntKind.wrap .u64 ((BitVec.ofInt 64 (F121 v3).1 &&& BitVec.ofInt 64 (IntKind.wrap .u64 ((F120 (W (a2 - a1))) - 1))).toNat : Int))))) * 1) [(iv (v1.getD (a0_o + toNat v2) default))]) = flat c3 ((v1.set (a0_o + toNat v2) (v1.getD (a0_o + toNat (W (a1 + (W (IntKind.wrap .u64 ((BitVec.ofInt 64 (F121 v3).1 &&& BitVec.ofInt 64 (IntKind.wrap .u64 ((F120 (W (a2 - a1))) - 1))).toNat : Int)))))) default)).set (a0_o + toNat (W (a1 + (W (IntKind.wrap .u64 ((BitVec.ofInt 64 (F121 v3).1 &&& BitVec.ofInt 64 (IntKind.wrap .u64 ((F120 (W (a2 - a1))) - 1))).toNat : Int)))))) (v1.getD (a0_o + toNat v2) default)) := (by rw [show (splice (flat c3 v1) (0 + a0_o * 1 + toNat v2 * 1) [(iv (v1.getD (a0_o + toNat (W (a1 + (W (IntKind.wrap .u64 ((BitVec.ofInt 64 (F121 v3).1 &&& BitVec.ofInt 64 (IntKind.wrap .u64 ((F120 (W (a2 - a1))) - 1))).toNat : Int)))))) default))]) = flat c3 (v1.set (a0_o + toNat v2) (v1.getD (a0_o + toNat (W (a1 + (W (IntKind.wrap .u64 ((BitVec.ofInt 64 (F121 v3).1 &&& BitVec.ofInt 64 (IntKind.wrap .u64 ((F120 (W (a2 - a1))) - 1))).toNat : Int)))))) default)) from (flat_setw c3_len (by first | omega | (simp only [Lt]; omega)) (o := 0) (d := default) (Nb rfl) rfl)]; exact flat_setw c3_len (by first | omega | (simp only [Lt]; omega)) (o := 0) (d := default) (Nb rfl) rfl)
     have z2 : v1.length = ((v1.set (a0_o + toNat v2) (v1.getD (a0_o + toNat (W (a1 + (W (IntKind.wrap .u64 ((BitVec.ofInt 64 (F121 v3).1 &&& BitVec.ofInt 64 (IntKind.wrap .u64 ((F120 (W (a2 - a1))) - 1))).toNat : Int)))))) default)).set (a0_o + toNat (W (a1 + (W (IntKind.wrap .u64 ((BitVec.ofInt 64 (F121 v3).1 &&& BitVec.ofInt 64 (IntKind.wrap .u64 ((F120 (W (a2 - a1))) - 1))).toNat : Int)))))) (v1.getD (a0_o + toNat v2) default)).length := by simp
     rw [z0, z1, z2]
     exact ih ((v1.set (a0_o + toNat v2) (v1.getD (a0_o + toNat (W (a1 + (W (IntKind.wrap .u64 ((BitVec.ofInt 64 (F121 v3).1 &&& BitVec.ofInt 64 (IntKind.wrap .u64 ((F120 (W (a2 - a1))) - 1))).toNat : Int)))))) default)).set (a0_o + toNat (W (a1 + (W (IntKind.wrap .u64 ((BitVec.ofInt 64 (F121 v3).1 &&& BitVec.ofInt 64 (IntKind.wrap .u64 ((F120 (W (a2 - a1))) - 1))).toNat : Int)))))) (v1.getD (a0_o + toNat v2) default)) (v2 + 1) ((F121 v3).2) (by and_intros <;> (try simp only [Lt]) <;> first | omega | assumption | exact hi.2.1 | exact hi.2.2.1 | exact InR.swap hi.2.1 (by omega) (by omega) | exact InR.swap hr (by omega) (by omega)) (by (try simp only [Ls]); omega)
   | false =>
    have q0 := odf h0
    try have hwo2 := (fun _ => W_eq (n := a1 + (W ((W (IntKind.wrap .u64 ((BitVec.ofInt 64 (F121 v3).1 &&& BitVec.ofInt 64 (IntKind.wrap .u64 ((F120 (W (a2 - a1))) - 1))).toNat : Int))) - (W (a2 - a1))))) (by omega) (by omega)) h1
    try have hwo3 := (fun _ => W_eq (n := a1 + (W (IntKind.wrap .u64 ((BitVec.ofInt 64 (F121 v3).1 &&& BitVec.ofInt 64 (IntKind.wrap .u64 ((F120 (W (a2 - a1))) - 1))).toNat : Int)))) (by omega) (by omega)) h1
    have e := Eq.refl (S109_W_b77_0 a0 a0_o a0_n a1 a2 a3 (v1, v2, v3)); conv at e => rhs; simp only [S109_W_b77_0, h0, cdb]
    rw [loopF_s, e]
    try dsimp only [thenF]
    try dsimp only
    exact rtn (t0 ++ [.d h0]) [] [0] [] hcx (by kernel_rfl)

def F109_W_b77 (a0 : List (Int)) (a0_o : Nat) (a0_n : Nat) (a1 : Int) (a2 : Int) (a3 : TyB × Int) : List (Int) :=
 (bif (decide (((W (a2 - a1)) : Int) ≥ 8)) then
  (loopF (S109_W_b77_0 a0 a0_o a0_n a1 a2 a3) (toNat (a1 + (a2 - a1) / 4 * 2 + 2 - (W ((W (a1 + (W ((W (Int.tdiv (W (a2 - a1)) 4)) * 2)))) - 1))) + 1) (a0, (W ((W (a1 + (W ((W (Int.tdiv (W (a2 - a1)) 4)) * 2)))) - 1)), (IntKind.wrap .u64 (W (a2 - a1)))))
 else
  a0)

theorem C109_W_b77 (a0 : List (Int)) (a0_o : Nat) (a0_n : Nat) (a1 : Int) (a2 : Int) (a3 : TyB × Int) (l0 : a0.length ≤ 9223372036854775807) (l3_1_1 : a3.1.1.length ≤ 9223372036854775807) (l3_1_2_2_1 : a3.1.2.2.1.length ≤ 9223372036854775807) (l3_1_2_2_2 : a3.1.2.2.2.length ≤ 9223372036854775807) (hw : a0_o + a0_n ≤ a0.length ∧ a0.length ≤ 1048576) (hr : InR a3.1.1.length a0) (hab : 0 ≤ a1 ∧ a1 ≤ a2 ∧ a2 ≤ ↑a0_n) : Con Try.prog 109 [(.s 0 (0 + a0_o * 1) a0_n 1), (iv a1), (iv a2), (.f 1000077 [(.a [(.p 1 0), (iv a3.2)])])] [(.live true true (flat c3 a0)), (.live false false [(.s 2 0 a3.1.1.length 10), (iv a3.1.2.1), (.s 0 0 a0.length 1), (.s 3 0 a3.1.2.2.2.length 8)]), (.live false true (flat c81 a3.1.1)), (.live false true (flat c40 a3.1.2.2.2))] (.t []) [] [(.live true true (flat c3 (F109_W_b77 a0 a0_o a0_n a1 a2 a3))), .un, .un, .un] := by
 refine con_s Try.func109 (by kernel_rfl) fun cx hcx => ?_
 have hw_0 : W (a2 - a1) = a2 - a1 := (W_eq (n := a2 - a1) (by omega) (by omega)).trans (by omega)
 have hq4 := q4_eq (x := W (a2 - a1)) (by omega)
 have hc_2 : (W (a1 + (W ((W (Int.tdiv (W (a2 - a1)) 4)) * 2)))) = a1 + (a2 - a1) / 4 * 2 := by rw [hq4, hw_0]; exact (W_eq (by rw [W_eq (by omega) (by omega)]; omega) (by rw [W_eq (by omega) (by omega)]; omega)).trans (by rw [W_eq (by omega) (by omega)])
 have hc_3 := W_eq (n := (W (a1 + (W ((W (Int.tdiv (W (a2 - a1)) 4)) * 2)))) - 1) (by omega) (by omega)
 cases h0 : (decide (((W (a2 - a1)) : Int) ≥ 8)) with
 | true =>
  have q0 := odt h0
  have e := Eq.refl (F109_W_b77 a0 a0_o a0_n a1 a2 a3); conv at e => rhs; simp only [F109_W_b77, h0, cdb]
  rw [e]
  refine en [.d h0, .c [] (C120 (W (a2 - a1))  (by omega)), .p (show (4 : Int) ≠ 0 from by decide)] [] [0, 1, 8, 9, 10, 11] [4] hcx B109_W_b77_0 (K109_W_b77_0) (st109_W_b77_0 a0 a0_o a0_n a1 a2 a3 (flat c3 a0) (a0.length) (W ((W (a1 + (W ((W (Int.tdiv (W (a2 - a1)) 4)) * 2)))) - 1)) (IntKind.wrap .u64 (W (a2 - a1)))) (toNat (a1 + (a2 - a1) / 4 * 2 + 2 - (W ((W (a1 + (W ((W (Int.tdiv (W (a2 - a1)) 4)) * 2)))) - 1))) + 1) (by kernel_rfl) ?_
  exact L109_W_b77_0 a0 a0_o a0_n a1 a2 a3 l0 l3_1_1 l3_1_2_2_1 l3_1_2_2_2 hw hr hab hcx (toNat (a1 + (a2 - a1) / 4 * 2 + 2 - (W ((W (a1 + (W ((W (Int.tdiv (W (a2 - a1)) 4)) * 2)))) - 1))) + 1) a0 (W ((W (a1 + (W ((W (Int.tdiv (W (a2 - a1)) 4)) * 2)))) - 1)) (IntKind.wrap .u64 (W (a2 - a1))) (by and_intros <;> (try simp only [Lt]) <;> first | omega | assumption | exact hi.2.1 | exact hi.2.2.1 | exact InR.swap hi.2.1 (by omega) (by omega) | exact InR.swap hr (by omega) (by omega)) (by (try simp only [Ls]); omega)
 | false =>
  have q0 := odf h0
  have e := Eq.refl (F109_W_b77 a0 a0_o a0_n a1 a2 a3); conv at e => rhs; simp only [F109_W_b77, h0, cdb]
  rw [e]
  try dsimp only [thenF]
  try dsimp only
  exact rtn [.d h0] [] [0] [] hcx (by kernel_rfl)


section
variable {o n : Nat} {l l0 : List Int} {c : SBC}
theorem insInner_size (lt : Int → Int → Bool) (a : Nat) : ∀ (j : Nat) (d : Array Int), (Go.Sort.insInner lt a j d).size = d.size
 | 0, d => rfl
 | j + 1, d => by
   rw [Go.Sort.insInner]
   split
   · rw [insInner_size lt a j, swp_size]
   · rfl
theorem ins1_eq (hl : o + n ≤ l.length) (hn : n ≤ 1048576) {a : Nat} {a2 : Int} : ∀ (m : Nat) (d : Array Int) (j : Nat) (w : Int), d.size = n → j < n → j - a < m →
   loopF (S107_W_b77_1 l0 o n (a : Int) a2 c) m (wp l o d, w, (j : Int)) = .inl (wp l o (Go.Sort.insInner (ltc c) a j d), w + 1)
 | 0, _, _, _, _, _, h => absurd h (nlz _)
 | m + 1, d, 0, w, hd, hj, hm => by
   refine loopF_inr ?_
   simp only [S107_W_b77_1]
   rw [dqf (by omega), cond_false]; rfl
 | m + 1, d, j + 1, w, hd, hj, hm => by
   have hl' : o + d.size ≤ l.length := by omega
   have e1 : W (((j + 1 : Nat) : Int) - 1) = ((j : Nat) : Int) := wN (by omega) (by omega)
   rw [Go.Sort.insInner]
   by_cases h1 : j + 1 > a
   · have e : S107_W_b77_1 l0 o n (a : Int) a2 c (wp l o d, w, ((j + 1 : Nat) : Int)) = bif ltc c d[j + 1]! d[j]! then .inl (wp l o (Go.Sort.swp d (j + 1) j), w, (j : Int)) else .inr (.inl (wp l o d, w + 1)) := by
       simp only [S107_W_b77_1, e1, itn, ord_irr, ltc_def]
       rw [dqt (by omega), cond_true, wp_swp hl' (i := j + 1) (j := j) (by omega) (by omega), wp_get hl' (i := j + 1) (by omega), wp_get hl' (i := j) (by omega)]
     rw [dqt h1, Bool.true_and]
     cases q : ltc c d[j + 1]! d[j]! with
     | true =>
       rw [q, cond_true] at e
       rw [loopF_inl e]
       exact ins1_eq hl hn m _ j w (by rw [swp_size]; exact hd) (by omega) (by omega)
     | false => rw [q, cond_false] at e; exact loopF_inr e
   · rw [dqf h1, Bool.false_and]
     refine loopF_inr ?_
     simp only [S107_W_b77_1]
     rw [dqf (by omega), cond_false]; rfl
theorem ins0_eq (hl : o + n ≤ l.length) (hn : n ≤ 1048576) {a b : Nat} (hb : b ≤ n) : ∀ (m : Nat) (d : Array Int) (i : Nat), d.size = n → b - i < m →
   loopF (S107_W_b77_0 l0 o n (a : Int) (b : Int) c) m (wp l o d, (i : Int)) = wp l o (Go.Sort.insOuter (ltc c) a b i d)
 | 0, _, _, _, h => absurd h (nlz _)
 | m + 1, d, i, hd, hm => by
   rw [Go.Sort.insOuter]
   by_cases h1 : i < b
   · rw [if_pos h1]
     have e : S107_W_b77_0 l0 o n (a : Int) (b : Int) c (wp l o d, (i : Int)) = loopF (S107_W_b77_1 l0 o n (a : Int) (b : Int) c) (toNat ((i : Int) - a) + 1) (wp l o d, (i : Int), (i : Int)) := by
       simp only [S107_W_b77_0]; rw [dqt (by omega), cond_true]
     rw [loopF_inl (e.trans (ins1_eq hl hn _ d i _ hd (by omega) (by omega)))]
     exact ins0_eq hl hn hb m _ (i + 1) (by rw [insInner_size]; exact hd) (by omega)
   · rw [if_neg h1]
     refine loopF_inr ?_
     simp only [S107_W_b77_0]; rw [dqf (by omega), cond_false]
theorem ins_eq {d : Array Int} (hl : o + n ≤ l.length) (hn : n ≤ 1048576) {a b : Nat} (hb : b ≤ n) (ha : a ≤ n) (hd : d.size = n) : F107_W_b77 (wp l o d) o n (a : Int) (b : Int) c = wp l o (Go.Sort.insertionSort (ltc c) d a b) := by
 unfold F107_W_b77
 rw [wN (n := a + 1) (by omega) (by omega)]
 exact ins0_eq hl hn hb _ d (a + 1) hd (by omega)
theorem rv_eq (hl : o + n ≤ l.length) (hn : n ≤ 1048576) {a1 a2 : Int} : ∀ (m : Nat) (d : Array Int) (i j : Nat), d.size = n → i ≤ n → j < n → j - i < m →
   loopF (S111_W_b77_0 l0 o n a1 a2 c) m (wp l o d, (i : Int), (j : Int)) = wp l o (Go.Sort.reverseLoop i j d)
 | 0, _, _, _, _, _, _, h => absurd h (nlz _)
 | m + 1, d, i, j, hd, hi, hj, hm => by
   have hl' : o + d.size ≤ l.length := by omega
   rw [Go.Sort.reverseLoop]
   by_cases h1 : i < j
   · rw [if_pos h1]
     have e : S111_W_b77_0 l0 o n a1 a2 c (wp l o d, (i : Int), (j : Int)) = .inl (wp l o (Go.Sort.swp d i j), ((i + 1 : Nat) : Int), ((j - 1 : Nat) : Int)) := by
       simp only [S111_W_b77_0, itn]
       rw [dqt (by omega), cond_true, wp_swp hl' (i := i) (j := j) (by omega) (by omega), wN (x := (j : Int) - 1) (n := j - 1) (by omega) (by omega)]
       rfl
     rw [loopF_inl e]
     exact rv_eq hl hn m _ (i + 1) (j - 1) (by rw [swp_size]; exact hd) (by omega) (by omega) (by omega)
   · rw [if_neg h1]
     refine loopF_inr ?_
     simp only [S111_W_b77_0]; rw [dqf (by omega), cond_false]
theorem rvr_eq {d : Array Int} (hl : o + n ≤ l.length) (hn : n ≤ 1048576) {a b : Nat} (hab : a < b) (hb : b ≤ n) (hd : d.size = n) : F111_W_b77 (wp l o d) o n (a : Int) (b : Int) c = wp l o (Go.Sort.reverseRange d a b) := by
 unfold F111_W_b77
 rw [wN (x := (b : Int) - 1) (n := b - 1) (by omega) (by omega)]
 exact rv_eq hl hn _ d a (b - 1) hd (by omega) (by omega) (by omega)
theorem hp1_eq (hl : o + n ≤ l.length) (hn : n ≤ 1048576) {a : Nat} {a2 : Int} : ∀ (k m : Nat) (d : Array Int), d.size = n → a + k ≤ n → k < m →
   loopF (S108_W_b77_1 l0 o n (a : Int) a2 c) m (wp l o d, (k : Int) - 1) = wp l o (Go.Sort.heapPop (ltc c) a k d) ∧ (Go.Sort.heapPop (ltc c) a k d).size = n
 | 0, m + 1, d, hd, _, _ => by
   refine ⟨loopF_inr ?_, hd⟩
   simp only [S108_W_b77_1]
   rw [dqf (by omega), cond_false]; rfl
 | k + 1, m + 1, d, hd, hk, hm => by
   have hl' : o + d.size ≤ l.length := by omega
   have hs := sd_wp (c := ((c.1.1, c.1.2.1, (wp l o (Go.Sort.swp d a (a + k)), c.1.2.2.2)), c.2)) (l := l) (d := Go.Sort.swp d a (a + k)) (hi := k) (first := a) (lo := 0) hl hn (by omega) (by omega) (by rw [swp_size]; exact hd)
   have e : S108_W_b77_1 l0 o n (a : Int) a2 c (wp l o d, ((k + 1 : Nat) : Int) - 1) = .inl (wp l o (Go.Sort.siftDown (ltc c) k a 0 (Go.Sort.swp d a (a + k))), (k : Int) - 1) := by
     rw [show ((k + 1 : Nat) : Int) - 1 = (k : Int) by omega]
     simp only [S108_W_b77_1, itn, wN (x := (a : Int) + (k : Int)) (n := a + k) (by omega) (by omega)]
     rw [dqt (by omega), cond_true, wp_swp hl' (i := a) (j := a + k) (by omega) (by omega), W_eq (n := (k : Int) - 1) (by omega) (by omega)]
     exact congrArg (fun z => Sum.inl (z, (k : Int) - 1)) hs.1
   rw [loopF_inl e]
   exact hp1_eq hl hn k m _ hs.2 (by omega) (by omega)
theorem hp0_eq (hl : o + n ≤ l.length) (hn : n ≤ 1048576) {a b : Nat} (hab : a ≤ b) (hb : b ≤ n) : ∀ (k m : Nat) (d : Array Int), d.size = n → k ≤ 1048576 → k < m →
   loopF (S108_W_b77_0 l0 o n (a : Int) (b : Int) c) m (wp l o d, (k : Int) - 1) = wp l o (Go.Sort.heapPop (ltc c) a (b - a) (Go.Sort.heapBuild (ltc c) (b - a) a k d)) ∧ (Go.Sort.heapPop (ltc c) a (b - a) (Go.Sort.heapBuild (ltc c) (b - a) a k d)).size = n
 | 0, m + 1, d, hd, _, _ => by
   have e2 : W ((W ((b : Int) - (a : Int))) - 1) = ((b - a : Nat) : Int) - 1 := by rw [wN (x := (b : Int) - (a : Int)) (n := b - a) (by omega) (by omega)]; exact W_eq (by omega) (by omega)
   have h1 := hp1_eq (l := l) (l0 := l0) (c := c) (a := a) (a2 := (b : Int)) hl hn (b - a) (toNat (((b - a : Nat) : Int) - 1 + 1) + 1) d hd (by omega) (by omega)
   refine ⟨loopF_inr ?_, h1.2⟩
   simp only [S108_W_b77_0, e2]
   rw [dqf (by omega), cond_false, h1.1]; rfl
 | k + 1, m + 1, d, hd, hk, hm => by
   have hs := sd_wp (c := ((c.1.1, c.1.2.1, (wp l o d, c.1.2.2.2)), c.2)) (l := l) (d := d) (hi := b - a) (first := a) (lo := k) hl hn (by omega) (by omega) hd
   have e : S108_W_b77_0 l0 o n (a : Int) (b : Int) c (wp l o d, ((k + 1 : Nat) : Int) - 1) = .inl (wp l o (Go.Sort.siftDown (ltc c) (b - a) a k d), (k : Int) - 1) := by
     rw [show ((k + 1 : Nat) : Int) - 1 = (k : Int) by omega]
     simp only [S108_W_b77_0, wN (x := (b : Int) - (a : Int)) (n := b - a) (by omega) (by omega)]
     rw [dqt (by omega), cond_true, W_eq (n := (k : Int) - 1) (by omega) (by omega)]
     exact congrArg (fun z => Sum.inl (z, (k : Int) - 1)) hs.1
   rw [loopF_inl e]
   exact hp0_eq hl hn hab hb k m _ hs.2 (by omega) (by omega)
theorem hso_eq {d : Array Int} (hl : o + n ≤ l.length) (hn : n ≤ 1048576) {a b : Nat} (hab : a ≤ b) (hb : b ≤ n) (hd : d.size = n) : F108_W_b77 (wp l o d) o n (a : Int) (b : Int) c = wp l o (Go.Sort.heapSort (ltc c) d a b) := by
 unfold F108_W_b77
 have hm : W (Int.tdiv (W ((W ((b : Int) - (a : Int))) - 1)) 2) = (((b - a - 1) / 2 + 1 : Nat) : Int) - 1 := by
   rw [wN (x := (b : Int) - (a : Int)) (n := b - a) (by omega) (by omega)]
   rcases hp_mid (n := ((b - a : Nat) : Int)) (by omega) with h | ⟨h, h2⟩
   · by_cases h0 : b - a = 0
     · rw [h0]; decide
     · rw [h]; omega
   · rw [h2]; omega
 rw [hm]
 exact (hp0_eq (l := l) hl hn hab hb ((b - a - 1) / 2 + 1) _ d hd (by omega) (by omega)).1
end

end Go.Proofs.Ytnbpiejjeeomkaa

namespace Go.Proofs.Ytnbpiejjeeomkaa
open Go.Proofs Go.Aw Go.RowKit
set_option maxRecDepth 100000

section
open Go.Sort
variable {o n : Nat} {l l0 : List Int} {c : SBC} {a3 b : Int} {a : Nat} {d : Array Int}
theorem ltc_irr (c : SBC) (v : List Int) (x y : Int) : decide (F77 ((c.1.1, c.1.2.1, (v, c.1.2.2.2)), c.2) x y < 0) = ltc c x y := rfl
theorem scanDown_succ (p : Int → Bool) (d : Array Int) (i j : Nat) (h : 1 ≤ j) : scanDown p d i j = if i ≤ j && p d[j]! then scanDown p d i (j - 1) else j := by
 obtain ⟨j, rfl⟩ : ∃ k, j = k + 1 := ⟨j - 1, by omega⟩
 rw [scanDown]; rfl

theorem par0_eq (hl : o + n ≤ l.length) (hn : n ≤ 1048576) (hd : d.size = n) (ha : a < n) {j : Nat} (hj : j < n) : ∀ (m i : Nat), i ≤ 1048577 → j + 2 - i < m →
   loopF (S114_W_b77_0 l0 o n (a : Int) b a3 c) m (wp l o d, (i : Int), (j : Int)) = (loopF (S114_W_b77_1 l0 o n (a : Int) b a3 c) (toNat ((j : Int) + 2 - (scanUp (fun x => ltc c x d[a]!) d j i : Nat)) + 1) (wp l o d, ((scanUp (fun x => ltc c x d[a]!) d j i : Nat) : Int), (j : Int)))
 | 0, _, _, h => absurd h (nlz _)
 | m + 1, i, hi, hm => by
   have hl' : o + d.size ≤ l.length := by omega
   rw [scanUp]
   by_cases h1 : i ≤ j
   · rw [dqt h1, Bool.true_and]
     have e : S114_W_b77_0 l0 o n (a : Int) b a3 c (wp l o d, (i : Int), (j : Int)) = bif (ltc c d[i]! d[a]!) then .inl (wp l o d, ((i + 1 : Nat) : Int), (j : Int)) else .inr (loopF (S114_W_b77_1 l0 o n (a : Int) b a3 c) (toNat ((j : Int) + 2 - (i : Int)) + 1) (wp l o d, (i : Int), (j : Int))) := by
       simp only [S114_W_b77_0, itn, ltc_irr]
       rw [dqt (show (i : Int) ≤ (j : Int) by omega), cond_true, wp_get hl' (i := i) (by omega), wp_get hl' (i := a) (by omega)]
       rfl
     cases q : ltc c d[i]! d[a]! with
     | true =>
       rw [q] at e
       rw [loopF_inl (e.trans (by rfl)), if_pos (show (true) = true from rfl)]
       exact par0_eq hl hn hd ha hj m (i + 1) (by omega) (by omega)
     | false =>
       rw [q] at e
       rw [if_neg (show ¬ (false) = true from by decide)]
       exact loopF_inr (e.trans (by rfl))
   · rw [dqf h1, Bool.false_and, if_neg Bool.false_ne_true]
     refine loopF_inr ?_
     simp only [S114_W_b77_0]
     rw [dqf (show ¬ (i : Int) ≤ (j : Int) by omega), cond_false]

theorem par1_eq (hl : o + n ≤ l.length) (hn : n ≤ 1048576) (hd : d.size = n) (ha : a < n) {i : Nat} (hi : 1 ≤ i ∧ i ≤ n + 1) : ∀ (m j : Nat), j < n → i ≤ j + 2 → j + 2 - i < m →
   loopF (S114_W_b77_1 l0 o n (a : Int) b a3 c) m (wp l o d, (i : Int), (j : Int)) = (if i > scanDown (fun x => !ltc c x d[a]!) d i j then (((scanDown (fun x => !ltc c x d[a]!) d i j : Nat) : Int), true, wp l o (swp d (scanDown (fun x => !ltc c x d[a]!) d i j) a)) else loopF (S114_W_b77_2 l0 o n (a : Int) b a3 c) (toNat (((scanDown (fun x => !ltc c x d[a]!) d i j - 1 : Nat) : Int) + 2 - ((i + 1 : Nat) : Int)) + 1) (wp l o (swp d i (scanDown (fun x => !ltc c x d[a]!) d i j)), ((i + 1 : Nat) : Int), ((scanDown (fun x => !ltc c x d[a]!) d i j - 1 : Nat) : Int)))
 | 0, _, _, _, h => absurd h (nlz _)
 | m + 1, j, hj, hij, hm => by
   have hl' : o + d.size ≤ l.length := by omega
   by_cases h1 : i ≤ j
   · rw [scanDown_succ _ _ _ _ (by omega), dqt h1, Bool.true_and]
     have e1 : W ((j : Int) - 1) = ((j - 1 : Nat) : Int) := wN (by omega) (by omega)
     have e2 : W ((i : Int) + 1) = ((i + 1 : Nat) : Int) := wN (by omega) (by omega)
     cases q : ltc c d[j]! d[a]! with
     | false =>
       rw [if_pos (show (!false) = true from rfl)]
       have e : S114_W_b77_1 l0 o n (a : Int) b a3 c (wp l o d, (i : Int), (j : Int)) = .inl (wp l o d, (i : Int), ((j - 1 : Nat) : Int)) := by
         simp only [S114_W_b77_1, itn, ltc_irr, e1]
         rw [dqt (show (i : Int) ≤ (j : Int) by omega), cond_true, wp_get hl' (i := j) (by omega), wp_get hl' (i := a) (by omega)]
         rw [q]; rfl
       rw [loopF_inl e]
       exact par1_eq hl hn hd ha hi m (j - 1) (by omega) (by omega) (by omega)
     | true =>
       rw [if_neg (show ¬ (!true) = true from by decide), if_neg (by omega)]
       refine loopF_inr ?_
       simp only [S114_W_b77_1, itn, ltc_irr, e1, e2]
       rw [dqt (show (i : Int) ≤ (j : Int) by omega), cond_true, wp_swp hl' (i := i) (j := j) (by omega) (by omega), wp_swp hl' (i := j) (j := a) (by omega) (by omega), wp_get hl' (i := j) (by omega), wp_get hl' (i := a) (by omega), dqf (show ¬ (i : Int) > (j : Int) by omega), cond_false, q]
       rfl
   · have hsd : scanDown (fun x => !ltc c x d[a]!) d i j = j := by
       cases j with
       | zero => rfl
       | succ j => rw [scanDown, dqf h1]; rfl
     rw [hsd, if_pos (by omega)]
     refine loopF_inr ?_
     simp only [S114_W_b77_1, itn]
     rw [dqf (show ¬ (i : Int) ≤ (j : Int) by omega), cond_false, dqt (show (i : Int) > (j : Int) by omega), cond_true, wp_swp hl' (i := j) (j := a) (by omega) (by omega)]

theorem par3_eq (hl : o + n ≤ l.length) (hn : n ≤ 1048576) (hd : d.size = n) (ha : a < n) {j : Nat} (hj : j < n) : ∀ (m i : Nat), i ≤ 1048577 → j + 2 - i < m →
   loopF (S114_W_b77_3 l0 o n (a : Int) b a3 c) m (wp l o d, (i : Int), (j : Int)) = (loopF (S114_W_b77_4 l0 o n (a : Int) b a3 c) (toNat ((j : Int) + 2 - (scanUp (fun x => ltc c x d[a]!) d j i : Nat)) + 1) (wp l o d, ((scanUp (fun x => ltc c x d[a]!) d j i : Nat) : Int), (j : Int)))
 | 0, _, _, h => absurd h (nlz _)
 | m + 1, i, hi, hm => by
   have hl' : o + d.size ≤ l.length := by omega
   rw [scanUp]
   by_cases h1 : i ≤ j
   · rw [dqt h1, Bool.true_and]
     have e : S114_W_b77_3 l0 o n (a : Int) b a3 c (wp l o d, (i : Int), (j : Int)) = bif (ltc c d[i]! d[a]!) then .inl (wp l o d, ((i + 1 : Nat) : Int), (j : Int)) else .inr (loopF (S114_W_b77_4 l0 o n (a : Int) b a3 c) (toNat ((j : Int) + 2 - (i : Int)) + 1) (wp l o d, (i : Int), (j : Int))) := by
       simp only [S114_W_b77_3, itn, ltc_irr]
       rw [dqt (show (i : Int) ≤ (j : Int) by omega), cond_true, wp_get hl' (i := i) (by omega), wp_get hl' (i := a) (by omega)]
       rfl
     cases q : ltc c d[i]! d[a]! with
     | true =>
       rw [q] at e
       rw [loopF_inl (e.trans (by rfl)), if_pos (show (true) = true from rfl)]
       exact par3_eq hl hn hd ha hj m (i + 1) (by omega) (by omega)
     | false =>
       rw [q] at e
       rw [if_neg (show ¬ (false) = true from by decide)]
       exact loopF_inr (e.trans (by rfl))
   · rw [dqf h1, Bool.false_and, if_neg Bool.false_ne_true]
     refine loopF_inr ?_
     simp only [S114_W_b77_3]
     rw [dqf (show ¬ (i : Int) ≤ (j : Int) by omega), cond_false]

theorem par4_eq (hl : o + n ≤ l.length) (hn : n ≤ 1048576) (hd : d.size = n) (ha : a < n) {i : Nat} (hi : 1 ≤ i ∧ i ≤ n + 1) : ∀ (m j : Nat), j < n → i ≤ j + 2 → j + 2 - i < m →
   loopF (S114_W_b77_4 l0 o n (a : Int) b a3 c) m (wp l o d, (i : Int), (j : Int)) = (if i > scanDown (fun x => !ltc c x d[a]!) d i j then .inr (((scanDown (fun x => !ltc c x d[a]!) d i j : Nat) : Int), false, wp l o (swp d (scanDown (fun x => !ltc c x d[a]!) d i j) a)) else .inl (wp l o (swp d i (scanDown (fun x => !ltc c x d[a]!) d i j)), ((i + 1 : Nat) : Int), ((scanDown (fun x => !ltc c x d[a]!) d i j - 1 : Nat) : Int)))
 | 0, _, _, _, h => absurd h (nlz _)
 | m + 1, j, hj, hij, hm => by
   have hl' : o + d.size ≤ l.length := by omega
   by_cases h1 : i ≤ j
   · rw [scanDown_succ _ _ _ _ (by omega), dqt h1, Bool.true_and]
     have e1 : W ((j : Int) - 1) = ((j - 1 : Nat) : Int) := wN (by omega) (by omega)
     have e2 : W ((i : Int) + 1) = ((i + 1 : Nat) : Int) := wN (by omega) (by omega)
     cases q : ltc c d[j]! d[a]! with
     | false =>
       rw [if_pos (show (!false) = true from rfl)]
       have e : S114_W_b77_4 l0 o n (a : Int) b a3 c (wp l o d, (i : Int), (j : Int)) = .inl (wp l o d, (i : Int), ((j - 1 : Nat) : Int)) := by
         simp only [S114_W_b77_4, itn, ltc_irr, e1]
         rw [dqt (show (i : Int) ≤ (j : Int) by omega), cond_true, wp_get hl' (i := j) (by omega), wp_get hl' (i := a) (by omega)]
         rw [q]; rfl
       rw [loopF_inl e]
       exact par4_eq hl hn hd ha hi m (j - 1) (by omega) (by omega) (by omega)
     | true =>
       rw [if_neg (show ¬ (!true) = true from by decide), if_neg (by omega)]
       refine loopF_inr ?_
       simp only [S114_W_b77_4, itn, ltc_irr, e1, e2]
       rw [dqt (show (i : Int) ≤ (j : Int) by omega), cond_true, wp_swp hl' (i := i) (j := j) (by omega) (by omega), wp_swp hl' (i := j) (j := a) (by omega) (by omega), wp_get hl' (i := j) (by omega), wp_get hl' (i := a) (by omega), dqf (show ¬ (i : Int) > (j : Int) by omega), cond_false, q]
       rfl
   · have hsd : scanDown (fun x => !ltc c x d[a]!) d i j = j := by
       cases j with
       | zero => rfl
       | succ j => rw [scanDown, dqf h1]; rfl
     rw [hsd, if_pos (by omega)]
     refine loopF_inr ?_
     simp only [S114_W_b77_4, itn]
     rw [dqf (show ¬ (i : Int) ≤ (j : Int) by omega), cond_false, dqt (show (i : Int) > (j : Int) by omega), cond_true, wp_swp hl' (i := j) (j := a) (by omega) (by omega)]

theorem par2_eq (hl : o + n ≤ l.length) (hn : n ≤ 1048576) (ha : a < n) : ∀ (m : Nat) (d : Array Int) (i j : Nat), d.size = n → a < i → i ≤ j + 2 → j < n → j + 2 - i < m →
   loopF (S114_W_b77_2 l0 o n (a : Int) b a3 c) m (wp l o d, (i : Int), (j : Int)) = (((partLoop (ltc c) a i j d).1 : Int), false, wp l o (swp (partLoop (ltc c) a i j d).2 (partLoop (ltc c) a i j d).1 a))
 | 0, _, _, _, _, _, _, _, h => absurd h (nlz _)
 | m + 1, d, i, j, hd, hai, hij, hj, hm => by
   have h3 := par3_eq (l := l) (l0 := l0) (c := c) (a3 := a3) (b := b) (a := a) hl hn hd ha hj (toNat ((j : Int) + 2 - (i : Int)) + 1) i (by omega) (by omega)
   have g1 := scanUp_ge (fun x => ltc c x d[a]!) d j i
   have g2 : scanUp (fun x => ltc c x d[a]!) d j i ≤ j + 2 := by
     have := (scanUp_spec (fun x => ltc c x d[a]!) d j _ i rfl).2.1
     by_cases h : i ≤ j + 1
     · omega
     · rw [scanUp, dqf (by omega)]; simp; omega
   have h4 := par4_eq (l := l) (l0 := l0) (c := c) (a3 := a3) (b := b) (a := a) hl hn hd ha (i := scanUp (fun x => ltc c x d[a]!) d j i) (by omega) (toNat ((j : Int) + 2 - (scanUp (fun x => ltc c x d[a]!) d j i : Nat)) + 1) j hj (by omega) (by omega)
   have g3 := scanDown_le (fun x => !ltc c x d[a]!) d (scanUp (fun x => ltc c x d[a]!) d j i) j
   have e : S114_W_b77_2 l0 o n (a : Int) b a3 c (wp l o d, (i : Int), (j : Int)) = loopF (S114_W_b77_3 l0 o n (a : Int) b a3 c) (toNat ((j : Int) + 2 - (i : Int)) + 1) (wp l o d, (i : Int), (j : Int)) := rfl
   rw [partLoop_eq]
   by_cases h : scanUp (fun x => ltc c x d[a]!) d j i > scanDown (fun x => !ltc c x d[a]!) d (scanUp (fun x => ltc c x d[a]!) d j i) j
   · rw [if_pos h] at h4 ⊢
     exact loopF_inr (e.trans (h3.trans h4))
   · rw [if_neg h] at h4 ⊢
     rw [loopF_inl (e.trans (h3.trans h4))]
     exact par2_eq hl hn ha m _ _ _ (by rw [Go.Sort.size_swp]; exact hd) (by omega) (by omega) (by omega) (by omega)
theorem par_eq (hl : o + n ≤ l.length) (hn : n ≤ 1048576) (hd : d.size = n) {b p : Nat} (hap : a ≤ p) (hpb : p < b) (hb : b ≤ n) :
   F114_W_b77 (wp l o d) o n (a : Int) (b : Int) (p : Int) c = (((partition (ltc c) d a b p).1 : Int), (partition (ltc c) d a b p).2.1, wp l o (partition (ltc c) d a b p).2.2) := by
 have hl' : o + d.size ≤ l.length := by omega
 have hds : (swp d a p).size = n := by rw [Go.Sort.size_swp]; exact hd
 unfold F114_W_b77 partition
 dsimp only
 rw [itn, itn, wp_swp hl' (i := a) (j := p) (by omega) (by omega), wN (x := (a : Int) + 1) (n := a + 1) (by omega) (by omega), wN (x := (b : Int) - 1) (n := b - 1) (by omega) (by omega)]
 generalize swp d a p = d at hds ⊢
 rw [par0_eq (l := l) (a := a) hl hn hds (by omega) (j := b - 1) (by omega) _ (a + 1) (by omega) (by omega)]
 have g1 := scanUp_ge (fun x => ltc c x d[a]!) d (b - 1) (a + 1)
 have g2 := (scanUp_spec (fun x => ltc c x d[a]!) d (b - 1) _ (a + 1) rfl).2.1 (by omega)
 rw [par1_eq (l := l) (a := a) hl hn hds (by omega) (i := scanUp (fun x => ltc c x d[a]!) d (b - 1) (a + 1)) (by omega) _ (b - 1) (by omega) (by omega) (by omega)]
 have g3 := scanDown_le (fun x => !ltc c x d[a]!) d (scanUp (fun x => ltc c x d[a]!) d (b - 1) (a + 1)) (b - 1)
 generalize scanUp (fun x => ltc c x d[a]!) d (b - 1) (a + 1) = i at g1 g2 g3 ⊢
 by_cases h : i > scanDown (fun x => !ltc c x d[a]!) d i (b - 1)
 · rw [if_pos h, if_pos h]
 · rw [if_neg h, if_neg h, par2_eq hl hn (by omega) _ _ _ _ (by rw [Go.Sort.size_swp]; exact hds) (by omega) (by omega) (by omega) (by omega)]

theorem peq1_eq (hl : o + n ≤ l.length) (hn : n ≤ 1048576) (hd : d.size = n) (ha : a < n) {j : Nat} (hj : j < n) : ∀ (m i : Nat), i ≤ 1048577 → j + 2 - i < m →
   loopF (S113_W_b77_1 l0 o n (a : Int) b a3 c) m (wp l o d, (i : Int), (j : Int)) = (loopF (S113_W_b77_2 l0 o n (a : Int) b a3 c) (toNat ((j : Int) + 2 - (scanUp (fun x => !ltc c d[a]! x) d j i : Nat)) + 1) (wp l o d, ((scanUp (fun x => !ltc c d[a]! x) d j i : Nat) : Int), (j : Int)))
 | 0, _, _, h => absurd h (nlz _)
 | m + 1, i, hi, hm => by
   have hl' : o + d.size ≤ l.length := by omega
   rw [scanUp]
   by_cases h1 : i ≤ j
   · rw [dqt h1, Bool.true_and]
     have e : S113_W_b77_1 l0 o n (a : Int) b a3 c (wp l o d, (i : Int), (j : Int)) = bif (!ltc c d[a]! d[i]!) then .inl (wp l o d, ((i + 1 : Nat) : Int), (j : Int)) else .inr (loopF (S113_W_b77_2 l0 o n (a : Int) b a3 c) (toNat ((j : Int) + 2 - (i : Int)) + 1) (wp l o d, (i : Int), (j : Int))) := by
       simp only [S113_W_b77_1, itn, ltc_irr]
       rw [dqt (show (i : Int) ≤ (j : Int) by omega), cond_true, wp_get hl' (i := i) (by omega), wp_get hl' (i := a) (by omega)]
       rfl
     cases q : ltc c d[a]! d[i]! with
     | false =>
       rw [q] at e
       rw [loopF_inl (e.trans (by rfl)), if_pos (show (!false) = true from rfl)]
       exact peq1_eq hl hn hd ha hj m (i + 1) (by omega) (by omega)
     | true =>
       rw [q] at e
       rw [if_neg (show ¬ (!true) = true from by decide)]
       exact loopF_inr (e.trans (by rfl))
   · rw [dqf h1, Bool.false_and, if_neg Bool.false_ne_true]
     refine loopF_inr ?_
     simp only [S113_W_b77_1]
     rw [dqf (show ¬ (i : Int) ≤ (j : Int) by omega), cond_false]

theorem peq2_eq (hl : o + n ≤ l.length) (hn : n ≤ 1048576) (hd : d.size = n) (ha : a < n) {i : Nat} (hi : 1 ≤ i ∧ i ≤ n + 1) : ∀ (m j : Nat), j < n → i ≤ j + 2 → j + 2 - i < m →
   loopF (S113_W_b77_2 l0 o n (a : Int) b a3 c) m (wp l o d, (i : Int), (j : Int)) = (if i > scanDown (fun x => ltc c d[a]! x) d i j then .inr ((i : Int), wp l o d) else .inl (wp l o (swp d i (scanDown (fun x => ltc c d[a]! x) d i j)), ((i + 1 : Nat) : Int), ((scanDown (fun x => ltc c d[a]! x) d i j - 1 : Nat) : Int)))
 | 0, _, _, _, h => absurd h (nlz _)
 | m + 1, j, hj, hij, hm => by
   have hl' : o + d.size ≤ l.length := by omega
   by_cases h1 : i ≤ j
   · rw [scanDown_succ _ _ _ _ (by omega), dqt h1, Bool.true_and]
     have e1 : W ((j : Int) - 1) = ((j - 1 : Nat) : Int) := wN (by omega) (by omega)
     have e2 : W ((i : Int) + 1) = ((i + 1 : Nat) : Int) := wN (by omega) (by omega)
     cases q : ltc c d[a]! d[j]! with
     | true =>
       rw [if_pos (show (true) = true from rfl)]
       have e : S113_W_b77_2 l0 o n (a : Int) b a3 c (wp l o d, (i : Int), (j : Int)) = .inl (wp l o d, (i : Int), ((j - 1 : Nat) : Int)) := by
         simp only [S113_W_b77_2, itn, ltc_irr, e1]
         rw [dqt (show (i : Int) ≤ (j : Int) by omega), cond_true, wp_get hl' (i := j) (by omega), wp_get hl' (i := a) (by omega)]
         rw [q]; rfl
       rw [loopF_inl e]
       exact peq2_eq hl hn hd ha hi m (j - 1) (by omega) (by omega) (by omega)
     | false =>
       rw [if_neg (show ¬ (false) = true from by decide), if_neg (by omega)]
       refine loopF_inr ?_
       simp only [S113_W_b77_2, itn, ltc_irr, e1, e2]
       rw [dqt (show (i : Int) ≤ (j : Int) by omega), cond_true, wp_swp hl' (i := i) (j := j) (by omega) (by omega), wp_get hl' (i := j) (by omega), wp_get hl' (i := a) (by omega), dqf (show ¬ (i : Int) > (j : Int) by omega), cond_false, q]
       rfl
   · have hsd : scanDown (fun x => ltc c d[a]! x) d i j = j := by
       cases j with
       | zero => rfl
       | succ j => rw [scanDown, dqf h1]; rfl
     rw [hsd, if_pos (by omega)]
     refine loopF_inr ?_
     simp only [S113_W_b77_2, itn]
     rw [dqf (show ¬ (i : Int) ≤ (j : Int) by omega), cond_false, dqt (show (i : Int) > (j : Int) by omega), cond_true]

theorem peq0_eq (hl : o + n ≤ l.length) (hn : n ≤ 1048576) (ha : a < n) : ∀ (m : Nat) (d : Array Int) (i j : Nat), d.size = n → a < i → i ≤ j + 2 → j < n → j + 2 - i < m →
   loopF (S113_W_b77_0 l0 o n (a : Int) b a3 c) m (wp l o d, (i : Int), (j : Int)) = (((partEqLoop (ltc c) a i j d).1 : Int), wp l o (partEqLoop (ltc c) a i j d).2)
 | 0, _, _, _, _, _, _, _, h => absurd h (nlz _)
 | m + 1, d, i, j, hd, hai, hij, hj, hm => by
   have h3 := peq1_eq (l := l) (l0 := l0) (c := c) (a3 := a3) (b := b) (a := a) hl hn hd ha hj (toNat ((j : Int) + 2 - (i : Int)) + 1) i (by omega) (by omega)
   have g1 := scanUp_ge (fun x => !ltc c d[a]! x) d j i
   have g2 : scanUp (fun x => !ltc c d[a]! x) d j i ≤ j + 2 := by
     have := (scanUp_spec (fun x => !ltc c d[a]! x) d j _ i rfl).2.1
     by_cases h : i ≤ j + 1
     · omega
     · rw [scanUp, dqf (by omega)]; simp; omega
   have h4 := peq2_eq (l := l) (l0 := l0) (c := c) (a3 := a3) (b := b) (a := a) hl hn hd ha (i := scanUp (fun x => !ltc c d[a]! x) d j i) (by omega) (toNat ((j : Int) + 2 - (scanUp (fun x => !ltc c d[a]! x) d j i : Nat)) + 1) j hj (by omega) (by omega)
   have g3 := scanDown_le (fun x => ltc c d[a]! x) d (scanUp (fun x => !ltc c d[a]! x) d j i) j
   have e : S113_W_b77_0 l0 o n (a : Int) b a3 c (wp l o d, (i : Int), (j : Int)) = loopF (S113_W_b77_1 l0 o n (a : Int) b a3 c) (toNat ((j : Int) + 2 - (i : Int)) + 1) (wp l o d, (i : Int), (j : Int)) := rfl
   rw [partEqLoop_eq]
   by_cases h : scanUp (fun x => !ltc c d[a]! x) d j i > scanDown (fun x => ltc c d[a]! x) d (scanUp (fun x => !ltc c d[a]! x) d j i) j
   · rw [if_pos h] at h4 ⊢
     exact loopF_inr (e.trans (h3.trans h4))
   · rw [if_neg h] at h4 ⊢
     rw [loopF_inl (e.trans (h3.trans h4))]
     exact peq0_eq hl hn ha m _ _ _ (by rw [Go.Sort.size_swp]; exact hd) (by omega) (by omega) (by omega) (by omega)
theorem peq_eq (hl : o + n ≤ l.length) (hn : n ≤ 1048576) (hd : d.size = n) {b p : Nat} (hap : a ≤ p) (hpb : p < b) (hb : b ≤ n) :
   F113_W_b77 (wp l o d) o n (a : Int) (b : Int) (p : Int) c = (((partitionEqual (ltc c) d a b p).1 : Int), wp l o (partitionEqual (ltc c) d a b p).2) := by
 have hl' : o + d.size ≤ l.length := by omega
 unfold F113_W_b77 partitionEqual
 rw [itn, itn, wp_swp hl' (i := a) (j := p) (by omega) (by omega), wN (x := (a : Int) + 1) (n := a + 1) (by omega) (by omega), wN (x := (b : Int) - 1) (n := b - 1) (by omega) (by omega)]
 exact peq0_eq hl hn (by omega) _ _ _ _ (by rw [Go.Sort.size_swp]; exact hd) (by omega) (by omega) (by omega) (by omega)
end

end Go.Proofs.Ytnbpiejjeeomkaa

namespace Go.Proofs.Ytnbpiejjeeomkaa
open Go.Proofs Go.Aw Go.RowKit
set_option maxRecDepth 100000

section
open Go.Sort
variable {o n a b : Nat} {l l0 : List Int} {c : SBC} {d : Array Int}
theorem shiftDown_size (lt : Int → Int → Bool) : ∀ (j : Nat) (d : Array Int), (shiftDown lt j d).size = d.size
 | 0, d => rfl
 | j + 1, d => by
   rw [shiftDown]
   split
   · rfl
   · rw [shiftDown_size lt j, Go.Sort.size_swp]
theorem shiftUp_size (lt : Int → Int → Bool) (b : Nat) : ∀ (m j : Nat) (d : Array Int), b - j ≤ m → (shiftUp lt b j d).size = d.size
 | 0, j, d, h => by rw [shiftUp, if_neg (by omega)]
 | m + 1, j, d, h => by
   rw [shiftUp]
   split
   · split
     · rfl
     · rw [shiftUp_size lt b m _ _ (by omega), Go.Sort.size_swp]
   · rfl
theorem fixDown_size (lt : Int → Int → Bool) (a i : Nat) (d : Array Int) : (fixDown lt a i d).size = d.size := by
 unfold fixDown; split
 · exact shiftDown_size _ _ _
 · rfl
theorem fixUp_size (lt : Int → Int → Bool) (b i : Nat) (d : Array Int) : (fixUp lt b i d).size = d.size := by
 unfold fixUp; split
 · exact shiftUp_size _ _ _ _ _ (Nat.le_refl _)
 · rfl
theorem pis3_eq (hl : o + n ≤ l.length) (hn : n ≤ 1048576) (hb : b ≤ n) {i s : Int} : ∀ (m : Nat) (d : Array Int) (j : Nat), d.size = n → 1 ≤ j → j ≤ n → b - j < m →
   loopF (S112_W_b77_3 l0 o n (a : Int) (b : Int) c) m (wp l o d, i, s, (j : Int)) = .inl (wp l o (shiftUp (ltc c) b j d), i, s + 1)
 | 0, _, _, _, _, _, h => absurd h (nlz _)
 | m + 1, d, j, hd, hj, hjn, hm => by
   have hl' : o + d.size ≤ l.length := by omega
   have e1 : W ((j : Int) - 1) = ((j - 1 : Nat) : Int) := wN (by omega) (by omega)
   rw [shiftUp]
   by_cases h1 : j < b
   · rw [if_pos h1]
     have e : S112_W_b77_3 l0 o n (a : Int) (b : Int) c (wp l o d, i, s, (j : Int)) = bif !ltc c d[j]! d[j - 1]! then .inr (.inl (wp l o d, i, s + 1)) else .inl (wp l o (swp d j (j - 1)), i, s, ((j + 1 : Nat) : Int)) := by
       simp only [S112_W_b77_3, itn, ltc_irr, e1]
       rw [dqt (show (j : Int) < (b : Int) by omega), cond_true, wp_swp hl' (i := j) (j := j - 1) (by omega) (by omega), wp_get hl' (i := j) (by omega), wp_get hl' (i := j - 1) (by omega)]
       rfl
     cases q : ltc c d[j]! d[j - 1]! with
     | true =>
       rw [q] at e
       rw [loopF_inl (e.trans (by rfl)), if_neg (show ¬ (!true) = true by decide)]
       exact pis3_eq hl hn hb m _ (j + 1) (by rw [Go.Sort.size_swp]; exact hd) (by omega) (by omega) (by omega)
     | false =>
       rw [q] at e
       rw [if_pos (show (!false) = true from rfl)]
       exact loopF_inr (e.trans (by rfl))
   · rw [if_neg h1]
     refine loopF_inr ?_
     simp only [S112_W_b77_3]
     rw [dqf (show ¬ (j : Int) < (b : Int) by omega), cond_false]
theorem pisU (hl : o + n ≤ l.length) (hn : n ≤ 1048576) (hb : b ≤ n) {s : Int} {i : Nat} (hd : d.size = n) (hi : i ≤ b) :
   (bif decide (W ((b : Int) - (i : Int)) ≥ 2) then (loopF (S112_W_b77_3 l0 o n (a : Int) (b : Int) c) (toNat ((b : Int) - ((i : Int) + 1)) + 1) (wp l o d, (i : Int), s, (i : Int) + 1)) else .inl (wp l o d, (i : Int), s + 1)) = .inl (wp l o (fixUp (ltc c) b i d), (i : Int), s + 1) := by
 rw [wN (x := (b : Int) - (i : Int)) (n := b - i) (by omega) (by omega)]
 unfold fixUp
 by_cases h : b - i ≥ 2
 · rw [dqt (show ((b - i : Nat) : Int) ≥ 2 by omega), cond_true, if_pos h]
   exact pis3_eq (i := (i : Int)) hl hn hb _ d (i + 1) hd (by omega) (by omega) (by omega)
 · rw [dqf (show ¬ ((b - i : Nat) : Int) ≥ 2 by omega), cond_false, if_neg h]
theorem pisU2 (hl : o + n ≤ l.length) (hn : n ≤ 1048576) (hb : b ≤ n) {s : Int} {i : Nat} (hd : d.size = n) (hi : i ≤ b) :
   (bif decide (W ((b : Int) - (i : Int)) ≥ 2) then Sum.inr (loopF (S112_W_b77_3 l0 o n (a : Int) (b : Int) c) (toNat ((b : Int) - ((i : Int) + 1)) + 1) (wp l o d, (i : Int), s, (i : Int) + 1)) else Sum.inr (Sum.inl (wp l o d, (i : Int), s + 1)) : (List Int × Int × Int × Int) ⊕ ((List Int × Int × Int) ⊕ (Bool × List Int))) = .inr (.inl (wp l o (fixUp (ltc c) b i d), (i : Int), s + 1)) := by
 rw [← pisU (l0 := l0) (a := a) hl hn hb hd hi]
 cases decide (W ((b : Int) - (i : Int)) ≥ 2) <;> rfl
theorem pis2_eq (hl : o + n ≤ l.length) (hn : n ≤ 1048576) (hb : b ≤ n) {s : Int} {i : Nat} (hi : i ≤ b) : ∀ (m : Nat) (d : Array Int) (j : Nat), d.size = n → j < n → j < m →
   loopF (S112_W_b77_2 l0 o n (a : Int) (b : Int) c) m (wp l o d, (i : Int), s, (j : Int)) = .inl (wp l o (fixUp (ltc c) b i (shiftDown (ltc c) j d)), (i : Int), s + 1)
 | 0, _, _, _, _, h => absurd h (nlz _)
 | m + 1, d, 0, hd, hj, hm => by
   refine loopF_inr ?_
   simp only [S112_W_b77_2]
   rw [dqf (show ¬ ((0 : Nat) : Int) ≥ 1 by omega), cond_false]
   exact pisU2 hl hn hb hd hi
 | m + 1, d, j + 1, hd, hj, hm => by
   have hl' : o + d.size ≤ l.length := by omega
   have e1 : W (((j + 1 : Nat) : Int) - 1) = ((j : Nat) : Int) := wN (by omega) (by omega)
   rw [shiftDown]
   have e : S112_W_b77_2 l0 o n (a : Int) (b : Int) c (wp l o d, (i : Int), s, ((j + 1 : Nat) : Int)) = bif !ltc c d[j + 1]! d[j]! then .inr (.inl (wp l o (fixUp (ltc c) b i d), (i : Int), s + 1)) else .inl (wp l o (swp d (j + 1) j), (i : Int), s, (j : Int)) := by
     simp only [S112_W_b77_2, itn, ltc_irr, e1]
     rw [dqt (show ((j + 1 : Nat) : Int) ≥ 1 by omega), cond_true, wp_swp hl' (i := j + 1) (j := j) (by omega) (by omega), wp_get hl' (i := j + 1) (by omega), wp_get hl' (i := j) (by omega)]
     exact congrArg (fun z => bif !ltc c d[j + 1]! d[j]! then z else _) (pisU2 (l0 := l0) (a := a) (c := c) hl hn hb hd hi)
   cases q : ltc c d[j + 1]! d[j]! with
   | true =>
     rw [q] at e
     rw [loopF_inl (e.trans (by rfl)), if_neg (show ¬ (!true) = true by decide)]
     exact pis2_eq hl hn hb hi m _ j (by rw [Go.Sort.size_swp]; exact hd) (by omega) (by omega)
   | false =>
     rw [q] at e
     rw [if_pos (show (!false) = true from rfl)]
     exact loopF_inr (e.trans (by rfl))
def pisR (l : List Int) (o a b : Nat) (c : SBC) (d : Array Int) (k : Nat) (s : Int) : (List Int × Int × Int) ⊕ (Bool × List Int) :=
 if k = b then .inr (true, wp l o d) else if b - a < 50 then .inr (false, wp l o d) else .inl (wp l o (fixUp (ltc c) b k (fixDown (ltc c) a k (swp d k (k - 1)))), (k : Int), s + 1)
theorem pisT (hl : o + n ≤ l.length) (hn : n ≤ 1048576) (hb : b ≤ n) {s : Int} {k : Nat} (hd : d.size = n) (hk : a < k) (hkb : k ≤ b) :
   (bif ((k : Int) == (b : Int)) then Sum.inr (Sum.inr (true, wp l o d)) else bif decide (W ((b : Int) - (a : Int)) < 50) then Sum.inr (Sum.inr (false, wp l o d)) else
     bif decide (W ((k : Int) - (a : Int)) ≥ 2) then Sum.inr (loopF (S112_W_b77_2 l0 o n (a : Int) (b : Int) c) (toNat ((k - 1 : Nat) : Int) + 1) ((((wp l o d).set (o + k) ((wp l o d).getD (o + (k - 1)) default)).set (o + (k - 1)) ((wp l o d).getD (o + k) default)), (k : Int), s, ((k - 1 : Nat) : Int)))
     else bif decide (W ((b : Int) - (k : Int)) ≥ 2) then Sum.inr (loopF (S112_W_b77_3 l0 o n (a : Int) (b : Int) c) (toNat ((b : Int) - ((k : Int) + 1)) + 1) ((((wp l o d).set (o + k) ((wp l o d).getD (o + (k - 1)) default)).set (o + (k - 1)) ((wp l o d).getD (o + k) default)), (k : Int), s, (k : Int) + 1)) else Sum.inr (Sum.inl ((((wp l o d).set (o + k) ((wp l o d).getD (o + (k - 1)) default)).set (o + (k - 1)) ((wp l o d).getD (o + k) default)), (k : Int), s + 1)) :
     (List Int × Int × Int) ⊕ ((List Int × Int × Int) ⊕ (Bool × List Int))) = .inr (pisR l o a b c d k s) := by
 have hl' : o + d.size ≤ l.length := by omega
 unfold pisR
 by_cases h1 : k = b
 · rw [if_pos h1, show ((k : Int) == (b : Int)) = true by simp; omega]; rfl
 · rw [if_neg h1, show ((k : Int) == (b : Int)) = false by simp; omega, cond_false, wN (x := (b : Int) - (a : Int)) (n := b - a) (by omega) (by omega)]
   by_cases h2 : b - a < 50
   · rw [if_pos h2, dqt (by omega)]; rfl
   · rw [if_neg h2, dqf (by omega), cond_false, wp_swp hl' (i := k) (j := k - 1) (by omega) (by omega), wN (x := (k : Int) - (a : Int)) (n := k - a) (by omega) (by omega)]
     have hds : (swp d k (k - 1)).size = n := by rw [Go.Sort.size_swp]; exact hd
     unfold fixDown
     by_cases h3 : k - a ≥ 2
     · rw [dqt (show ((k - a : Nat) : Int) ≥ 2 by omega), cond_true, if_pos h3, pis2_eq hl hn hb hkb _ _ (k - 1) hds (by omega) (by omega)]
     · rw [dqf (show ¬ ((k - a : Nat) : Int) ≥ 2 by omega), cond_false, if_neg h3]
       have := pisU (l0 := l0) (a := a) (c := c) (s := s) hl hn hb hds hkb
       rw [← this]
       cases decide (W ((b : Int) - (k : Int)) ≥ 2) <;> rfl
theorem pis1_eq (hl : o + n ≤ l.length) (hn : n ≤ 1048576) (hb : b ≤ n) (hd : d.size = n) {s : Int} : ∀ (m i : Nat), a < i → i ≤ b → b - i < m →
   loopF (S112_W_b77_1 l0 o n (a : Int) (b : Int) c) m (wp l o d, (i : Int), s) = pisR l o a b c d (scanSorted (ltc c) d b i) s
 | 0, _, _, _, h => absurd h (nlz _)
 | m + 1, i, hai, hib, hm => by
   have hl' : o + d.size ≤ l.length := by omega
   have e1 : W ((i : Int) - 1) = ((i - 1 : Nat) : Int) := wN (by omega) (by omega)
   rw [scanSorted]
   have hT := pisT (l0 := l0) (c := c) (s := s) hl hn hb hd hai hib
   by_cases h1 : i < b
   · rw [dqt h1, Bool.true_and]
     cases q : ltc c d[i]! d[i - 1]! with
     | true =>
       rw [if_neg (show ¬ (!true) = true by decide)]
       refine loopF_inr ?_
       simp only [S112_W_b77_1, itn, ltc_irr, e1]
       rw [dqt (show (i : Int) < (b : Int) by omega), cond_true]
       rw [show (!ltc c ((wp l o d).getD (o + i) default) ((wp l o d).getD (o + (i - 1)) default)) = false by rw [wp_get hl' (by omega), wp_get hl' (by omega), q]; rfl, cond_false]
       exact hT
     | false =>
       rw [if_pos (show (!false) = true from rfl)]
       have e : S112_W_b77_1 l0 o n (a : Int) (b : Int) c (wp l o d, (i : Int), s) = .inl (wp l o d, ((i + 1 : Nat) : Int), s) := by
         simp only [S112_W_b77_1, itn, ltc_irr, e1]
         rw [dqt (show (i : Int) < (b : Int) by omega), cond_true]
         rw [show (!ltc c ((wp l o d).getD (o + i) default) ((wp l o d).getD (o + (i - 1)) default)) = true by rw [wp_get hl' (by omega), wp_get hl' (by omega), q]; rfl, cond_true]
         rfl
       rw [loopF_inl e]
       exact pis1_eq hl hn hb hd m (i + 1) (by omega) (by omega) (by omega)
   · rw [dqf h1, Bool.false_and, if_neg Bool.false_ne_true]
     refine loopF_inr ?_
     simp only [S112_W_b77_1, itn, ltc_irr, e1]
     rw [dqf (show ¬ (i : Int) < (b : Int) by omega), cond_false]
     exact hT
theorem scanSorted_rng (lt : Int → Int → Bool) (d : Array Int) (b : Nat) : ∀ (m i : Nat), b - i ≤ m → i ≤ b → i ≤ scanSorted lt d b i ∧ scanSorted lt d b i ≤ b
 | 0, i, h, hi => by rw [scanSorted, dqf (by omega), Bool.false_and, if_neg Bool.false_ne_true]; exact ⟨Nat.le_refl _, hi⟩
 | m + 1, i, h, hi => by
   rw [scanSorted]
   split
   · rename_i hc
     simp at hc
     have := scanSorted_rng lt d b m (i + 1) (by omega) (by omega)
     omega
   · exact ⟨Nat.le_refl _, hi⟩
theorem pis0_eq (hl : o + n ≤ l.length) (hn : n ≤ 1048576) (hb : b ≤ n) : ∀ (k m : Nat) (d : Array Int) (i : Nat) (s : Int), d.size = n → a < i → i ≤ b → s + k = 5 → k < m →
   loopF (S112_W_b77_0 l0 o n (a : Int) (b : Int) c) m (wp l o d, (i : Int), s) = ((partialIns (ltc c) a b k i d).2, wp l o (partialIns (ltc c) a b k i d).1) ∧ (partialIns (ltc c) a b k i d).1.size = n
 | 0, m + 1, d, i, s, hd, hai, hib, hs, hm => by
   refine ⟨loopF_inr ?_, hd⟩
   simp only [S112_W_b77_0]
   rw [dqf (show ¬ s < 5 by omega), cond_false]; rfl
 | k + 1, m + 1, d, i, s, hd, hai, hib, hs, hm => by
   have e : S112_W_b77_0 l0 o n (a : Int) (b : Int) c (wp l o d, (i : Int), s) = pisR l o a b c d (scanSorted (ltc c) d b i) s := by
     simp only [S112_W_b77_0]
     rw [dqt (show s < 5 by omega), cond_true]
     exact pis1_eq hl hn hb hd _ i hai hib (by omega)
   rw [partialIns_succ]
   have hr := scanSorted_rng (ltc c) d b _ i (Nat.le_refl _) hib
   generalize scanSorted (ltc c) d b i = q at e hr ⊢
   unfold pisR at e
   by_cases h1 : q = b
   · rw [if_pos h1] at e ⊢
     exact ⟨loopF_inr e, hd⟩
   · rw [if_neg h1] at e ⊢
     by_cases h2 : b - a < 50
     · rw [if_pos h2] at e ⊢
       exact ⟨loopF_inr e, hd⟩
     · rw [if_neg h2] at e ⊢
       rw [loopF_inl e]
       exact pis0_eq hl hn hb k m _ q (s + 1) (by rw [fixUp_size, fixDown_size, Go.Sort.size_swp]; exact hd) (by omega) hr.2 (by omega) (by omega)
theorem pis_eq (hl : o + n ≤ l.length) (hn : n ≤ 1048576) (hd : d.size = n) (hab : a < b) (hb : b ≤ n) :
   F112_W_b77 (wp l o d) o n (a : Int) (b : Int) c = ((partialInsertionSort (ltc c) d a b).2, wp l o (partialInsertionSort (ltc c) d a b).1) ∧ (partialInsertionSort (ltc c) d a b).1.size = n := by
 unfold F112_W_b77 partialInsertionSort
 rw [wN (x := (a : Int) + 1) (n := a + 1) (by omega) (by omega)]
 exact pis0_eq hl hn hb 5 _ d (a + 1) 0 hd (by omega) (by omega) (by omega) (by decide)
end

end Go.Proofs.Ytnbpiejjeeomkaa

namespace Go.Proofs.Ytnbpiejjeeomkaa
open Go.Proofs Go.Aw Go.RowKit
set_option maxRecDepth 100000

section
open Go.Sort
variable {o n a b : Nat} {l l0 : List Int} {c : SBC} {d : Array Int}
theorem o2_eq (hl : o + n ≤ l.length) (hd : d.size = n) {x y s : Nat} (hx : x < n) (hy : y < n) (hs : s ≤ 1000) :
   F124_W_b77 (wp l o d) o n (x : Int) (y : Int) (s : Int) c = (((order2 (ltc c) d x y s).1 : Int), ((order2 (ltc c) d x y s).2.1 : Int), ((order2 (ltc c) d x y s).2.2 : Int)) ∧ (order2 (ltc c) d x y s).2.2 ≤ s + 1 := by
 have hl' : o + d.size ≤ l.length := by omega
 unfold F124_W_b77 order2
 rw [ltc_irr, itn, itn, wp_get hl' (by omega), wp_get hl' (by omega)]
 cases ltc c d[y]! d[x]! with
 | true => rw [cond_true, if_pos rfl]; exact ⟨by rw [wN (x := (s : Int) + 1) (n := s + 1) (by omega) (by omega)], Nat.le_refl _⟩
 | false => rw [cond_false, if_neg Bool.false_ne_true]; exact ⟨rfl, Nat.le_succ _⟩
theorem md_eq (hl : o + n ≤ l.length) (hd : d.size = n) {x y z s : Nat} (hx : x < n) (hy : y < n) (hz : z < n) (hs : s ≤ 900) :
   F123_W_b77 (wp l o d) o n (x : Int) (y : Int) (z : Int) (s : Int) c = (((median (ltc c) d x y z s).1 : Int), ((median (ltc c) d x y z s).2 : Int)) ∧ (median (ltc c) d x y z s).2 ≤ s + 3 := by
 unfold F123_W_b77 median
 simp only [o2_irr]
 have h1 := o2_eq (c := c) hl hd hx hy (s := s) (by omega)
 have m1 := order2_mem (ltc c) d x y s
 rw [h1.1]
 generalize order2 (ltc c) d x y s = r1 at h1 m1 ⊢
 have h2 := o2_eq (c := c) hl hd (x := r1.2.1) (y := z) (s := r1.2.2) (by omega) hz (by omega)
 have m2 := order2_mem (ltc c) d r1.2.1 z r1.2.2
 rw [h2.1]
 generalize order2 (ltc c) d r1.2.1 z r1.2.2 = r2 at h2 m2 ⊢
 have h3 := o2_eq (c := c) hl hd (x := r1.1) (y := r2.1) (s := r2.2.2) (by omega) (by omega) (by omega)
 rw [h3.1]
 exact ⟨rfl, by omega⟩
theorem ma_eq (hl : o + n ≤ l.length) (hn : n ≤ 1048576) (hd : d.size = n) {x s : Nat} (hx : 1 ≤ x) (hx2 : x + 1 < n) (hs : s ≤ 900) :
   F122_W_b77 (wp l o d) o n (x : Int) (s : Int) c = (((medianAdjacent (ltc c) d x s).1 : Int), ((medianAdjacent (ltc c) d x s).2 : Int)) ∧ (medianAdjacent (ltc c) d x s).2 ≤ s + 3 := by
 have h := md_eq (c := ((c.1.1, c.1.2.1, (wp l o d, c.1.2.2.2)), c.2)) hl hd (x := x - 1) (y := x) (z := x + 1) (s := s) (by omega) (by omega) (by omega) hs
 unfold F122_W_b77
 rw [wN (x := (x : Int) - 1) (n := x - 1) (by omega) (by omega), wN (x := (x : Int) + 1) (n := x + 1) (by omega) (by omega), h.1]
 exact ⟨rfl, h.2⟩
theorem md_irr (v0 v : List Int) (x y z s : Int) : F123_W_b77 v0 o n x y z s ((c.1.1, c.1.2.1, (v, c.1.2.2.2)), c.2) = F123_W_b77 v0 o n x y z s c := rfl
theorem ma_irr (v0 v : List Int) (x s : Int) : F122_W_b77 v0 o n x s ((c.1.1, c.1.2.1, (v, c.1.2.2.2)), c.2) = F122_W_b77 v0 o n x s c := rfl
def hintI : Hint → Int
 | .unknown => 0
 | .increasing => 1
 | .decreasing => 2
theorem hint_eq (r : Nat × Nat) : (bif (((r.2 : Nat) : Int) == 0) then (((r.1 : Nat) : Int), (1 : Int)) else bif (((r.2 : Nat) : Int) == 12) then (((r.1 : Nat) : Int), 2) else (((r.1 : Nat) : Int), 0)) = ((r.1 : Int), hintI (if r.2 = 0 then .increasing else if r.2 = 12 then .decreasing else .unknown)) := by
 by_cases h : r.2 = 0
 · rw [if_pos h, h]; rfl
 · rw [if_neg h, show (((r.2 : Nat) : Int) == 0) = false by simp; omega, cond_false]
   by_cases h2 : r.2 = 12
   · rw [if_pos h2, h2]; rfl
   · rw [if_neg h2, show (((r.2 : Nat) : Int) == 12) = false by simp; omega, cond_false]; rfl
theorem cpv_eq (hl : o + n ≤ l.length) (hn : n ≤ 1048576) (hd : d.size = n) (hab : a < b) (hb : b ≤ n) :
   F110_W_b77 (wp l o d) o n (a : Int) (b : Int) c = (((choosePivot (ltc c) d a b).1 : Int), hintI (choosePivot (ltc c) d a b).2) := by
 have hw : W ((b : Int) - (a : Int)) = ((b - a : Nat) : Int) := wN (by omega) (by omega)
 have hq : W (Int.tdiv ((b - a : Nat) : Int) 4) = (((b - a) / 4 : Nat) : Int) := by rw [q4_eq (by omega)]; omega
 have hk : ∀ k : Nat, k ≤ 3 → W ((a : Int) + (W ((((b - a) / 4 : Nat) : Int) * (k : Int)))) = ((a + (b - a) / 4 * k : Nat) : Int) := fun k hk => by
   rw [wN (x := (((b - a) / 4 : Nat) : Int) * (k : Int)) (n := (b - a) / 4 * k) (by push_cast; rfl) (Nat.le_trans (Nat.mul_le_mul_left _ hk) (by omega))]
   exact wN (by push_cast; rfl) (by have := Nat.mul_le_mul_left ((b - a) / 4) hk; omega)
 have hk1 := hk 1 (by omega); have hk2 := hk 2 (by omega); have hk3 := hk 3 (by omega)
 simp only [Int.natCast_one] at hk1
 rw [show ((2 : Nat) : Int) = 2 from rfl] at hk2
 rw [show ((3 : Nat) : Int) = 3 from rfl] at hk3
 unfold F110_W_b77 choosePivot
 simp only [A110_W_b77_5, A110_W_b77_4, A110_W_b77_3, A110_W_b77_2, A110_W_b77_1]
 simp only [ma_irr, md_irr]
 rw [hw, hq, hk1, hk2, hk3]
 by_cases h8 : b - a ≥ 8
 · rw [dqt (show ((b - a : Nat) : Int) ≥ 8 by omega), cond_true, if_pos h8]
   by_cases h50 : b - a ≥ 50
   · rw [dqt (show ((b - a : Nat) : Int) ≥ 50 by omega), cond_true, if_pos h50]
     have g1 := ma_eq (c := c) hl hn hd (x := a + (b - a) / 4 * 1) (s := 0) (by omega) (by omega) (by omega)
     have m1 : (medianAdjacent (ltc c) d (a + (b - a) / 4 * 1) 0).1 < n := by rcases medianAdjacent_mem (ltc c) d (a + (b - a) / 4 * 1) 0 with h | h | h <;> omega
     rw [Int.natCast_zero] at g1
     rw [g1.1]
     generalize medianAdjacent (ltc c) d (a + (b - a) / 4 * 1) 0 = r1 at g1 m1 ⊢
     have g2 := ma_eq (c := c) hl hn hd (x := a + (b - a) / 4 * 2) (s := r1.2) (by omega) (by omega) (by omega)
     have m2 : (medianAdjacent (ltc c) d (a + (b - a) / 4 * 2) r1.2).1 < n := by rcases medianAdjacent_mem (ltc c) d (a + (b - a) / 4 * 2) r1.2 with h | h | h <;> omega
     rw [g2.1]
     generalize medianAdjacent (ltc c) d (a + (b - a) / 4 * 2) r1.2 = r2 at g2 m2 ⊢
     have g3 := ma_eq (c := c) hl hn hd (x := a + (b - a) / 4 * 3) (s := r2.2) (by omega) (by omega) (by omega)
     have m3 : (medianAdjacent (ltc c) d (a + (b - a) / 4 * 3) r2.2).1 < n := by rcases medianAdjacent_mem (ltc c) d (a + (b - a) / 4 * 3) r2.2 with h | h | h <;> omega
     rw [g3.1]
     generalize medianAdjacent (ltc c) d (a + (b - a) / 4 * 3) r2.2 = r3 at g3 m3 ⊢
     have g4 := md_eq (c := c) hl hd (x := r1.1) (y := r2.1) (z := r3.1) (s := r3.2) m1 m2 m3 (by omega)
     rw [g4.1]
     exact hint_eq _
   · rw [dqf (show ¬ ((b - a : Nat) : Int) ≥ 50 by omega), cond_false, if_neg h50]
     have g4 := md_eq (c := c) hl hd (x := a + (b - a) / 4 * 1) (y := a + (b - a) / 4 * 2) (z := a + (b - a) / 4 * 3) (s := 0) (by omega) (by omega) (by omega) (by omega)
     rw [Int.natCast_zero] at g4
     rw [g4.1]
     exact hint_eq _
 · rw [dqf (show ¬ ((b - a : Nat) : Int) ≥ 8 by omega), cond_false, if_neg h8]
   rfl
theorem bx_eq {x y : Nat} (hx : x < 18446744073709551616) (hy : y < 18446744073709551616) : IntKind.wrap .u64 ((BitVec.ofInt 64 (x : Int) ^^^ BitVec.ofInt 64 (y : Int)).toNat : Int) = ((x ^^^ y : Nat) : Int) := by
 have h : x ^^^ y < 2 ^ 64 := Nat.xor_lt_two_pow (by omega) (by omega)
 rw [BitVec.toNat_xor, BitVec.toNat_ofInt, BitVec.toNat_ofInt, show ((x : Int) % ((2 ^ 64 : Nat) : Int)).toNat = x by omega, show ((y : Int) % ((2 ^ 64 : Nat) : Int)).toNat = y by omega, IntKind.wrap_u64]
 omega
theorem xs_eq {x : Nat} (hx : x < 18446744073709551616) : F121 (x : Int) = (((xorNextN x : Nat) : Int), ((xorNextN x : Nat) : Int)) := by
 have e1 : IntKind.wrap .u64 ((BitVec.ofInt 64 (x : Int) ^^^ BitVec.ofInt 64 (IntKind.wrap .u64 ((x : Int) * 2 ^ (min (toNat 13) 64)))).toNat : Int) = ((x ^^^ (x * 8192 % 18446744073709551616) : Nat) : Int) := by
   rw [show (2 : Int) ^ (min (toNat 13) 64) = 8192 from by decide, IntKind.wrap_u64 ((x : Int) * 8192), show ((x : Int) * 8192 % 18446744073709551616) = ((x * 8192 % 18446744073709551616 : Nat) : Int) by omega]
   exact bx_eq hx (by omega)
 unfold F121 xorNextN
 simp only [e1]
 obtain ⟨A, hA⟩ : ∃ A : Nat, A = x ^^^ (x * 8192 % 18446744073709551616) := ⟨_, rfl⟩
 have lA : A < 18446744073709551616 := by rw [hA]; exact Nat.xor_lt_two_pow (n := 64) (by omega) (by omega)
 rw [← hA]
 have e2 : IntKind.wrap .u64 ((BitVec.ofInt 64 (A : Int) ^^^ BitVec.ofInt 64 (Int.fdiv (A : Int) (2 ^ (min (toNat 7) 64)))).toNat : Int) = ((A ^^^ (A / 128) : Nat) : Int) := by
   rw [show (2 : Int) ^ (min (toNat 7) 64) = 128 from by decide, Int.fdiv_eq_ediv_of_nonneg _ (by decide), show ((A : Int) / 128) = ((A / 128 : Nat) : Int) by omega]
   exact bx_eq lA (by omega)
 simp only [e2]
 obtain ⟨B, hB⟩ : ∃ B : Nat, B = A ^^^ (A / 128) := ⟨_, rfl⟩
 have lB : B < 18446744073709551616 := by rw [hB]; exact Nat.xor_lt_two_pow (n := 64) (by omega) (by omega)
 rw [← hB]
 have e3 : IntKind.wrap .u64 ((BitVec.ofInt 64 (B : Int) ^^^ BitVec.ofInt 64 (IntKind.wrap .u64 ((B : Int) * 2 ^ (min (toNat 17) 64)))).toNat : Int) = ((B ^^^ (B * 131072 % 18446744073709551616) : Nat) : Int) := by
   rw [show (2 : Int) ^ (min (toNat 17) 64) = 131072 from by decide, IntKind.wrap_u64 ((B : Int) * 131072), show ((B : Int) * 131072 % 18446744073709551616) = ((B * 131072 % 18446744073709551616 : Nat) : Int) by omega]
   exact bx_eq lB (by omega)
 rw [e3]
theorem brk_step (hl : o + n ≤ l.length) (hn : n ≤ 1048576) (hd : d.size = n) (hab : a + 8 ≤ b) (hb : b ≤ n) {i : Nat} (h1 : a + (b - a) / 4 * 2 ≤ i + 1) (h2 : i ≤ a + (b - a) / 4 * 2 + 1) (r : UInt64) :
   S109_W_b77_0 l0 o n (a : Int) (b : Int) c (wp l o d, (i : Int), ((r.toNat : Nat) : Int)) =
     .inl (wp l o (breakStep a (b - a) (1 <<< bitsLen (b - a)) (r, d) i).2, ((i + 1 : Nat) : Int), (((breakStep a (b - a) (1 <<< bitsLen (b - a)) (r, d) i).1.toNat : Nat) : Int)) ∧ (breakStep a (b - a) (1 <<< bitsLen (b - a)) (r, d) i).2.size = n := by
 have hl' : o + d.size ≤ l.length := by omega
 have hw : W ((b : Int) - (a : Int)) = ((b - a : Nat) : Int) := wN (by omega) (by omega)
 have hq : W (Int.tdiv ((b - a : Nat) : Int) 4) = (((b - a) / 4 : Nat) : Int) := by rw [q4_eq (by omega)]; omega
 have hA : W ((a : Int) + (W ((((b - a) / 4 : Nat) : Int) * 2))) = ((a + (b - a) / 4 * 2 : Nat) : Int) := by
   rw [wN (x := (((b - a) / 4 : Nat) : Int) * 2) (n := (b - a) / 4 * 2) (by omega) (by omega)]; exact wN (by omega) (by omega)
 have hA1 : W (((a + (b - a) / 4 * 2 : Nat) : Int) + 1) = ((a + (b - a) / 4 * 2 + 1 : Nat) : Int) := wN (by omega) (by omega)
 have hM := np2_le (n := b - a) (by omega) (by omega)
 have hxs := xs_eq (x := r.toNat) (by have := r.toNat_lt; omega)
 have hxl : xorNextN r.toNat < 18446744073709551616 := xorNextN_lt _ (by have := r.toNat_lt; omega)
 have hO : brkO ((xorNextN r.toNat : Nat) : Int) (F120 ((b - a : Nat) : Int)) = ((xorNextN r.toNat &&& (1 <<< bitsLen (b - a) - 1) : Nat) : Int) := by
   rw [np2_eq (by omega), brkO_nat _ ⟨hM.1, by omega⟩, BitVec.toNat_ofInt]
   rw [show (((xorNextN r.toNat : Nat) : Int) % ((2 ^ 64 : Nat) : Int)).toNat = xorNextN r.toNat by omega]
 unfold brkO at hO
 have hle : xorNextN r.toNat &&& (1 <<< bitsLen (b - a) - 1) ≤ 1 <<< bitsLen (b - a) - 1 := Nat.and_le_right
 unfold breakStep
 simp only [xorNext_toNat]
 generalize hoo : xorNextN r.toNat &&& (1 <<< bitsLen (b - a) - 1) = O at hO hle ⊢
 simp only [S109_W_b77_0, hw, hq, hA, hA1, hxs, hO, itn]
 rw [dqt (show (i : Int) ≤ ((a + (b - a) / 4 * 2 + 1 : Nat) : Int) by omega), cond_true]
 by_cases h : O ≥ b - a
 · rw [dqt (show (O : Int) ≥ ((b - a : Nat) : Int) by omega), cond_true, if_pos h, wN (x := (O : Int) - ((b - a : Nat) : Int)) (n := O - (b - a)) (by omega) (by omega), wN (x := (a : Int) + ((O - (b - a) : Nat) : Int)) (n := a + (O - (b - a))) (by omega) (by omega), itn, wp_swp hl' (i := i) (j := a + (O - (b - a))) (by omega) (by omega)]
   exact ⟨rfl, by rw [Go.Sort.size_swp]; exact hd⟩
 · rw [dqf (show ¬ (O : Int) ≥ ((b - a : Nat) : Int) by omega), cond_false, if_neg h, wN (x := (a : Int) + (O : Int)) (n := a + O) (by omega) (by omega), itn, wp_swp hl' (i := i) (j := a + O) (by omega) (by omega)]
   exact ⟨rfl, by rw [Go.Sort.size_swp]; exact hd⟩
theorem brk_eq (hl : o + n ≤ l.length) (hn : n ≤ 1048576) (hd : d.size = n) (hab : a ≤ b) (hb : b ≤ n) :
   F109_W_b77 (wp l o d) o n (a : Int) (b : Int) c = wp l o (breakPatterns d a b) := by
 have hw : W ((b : Int) - (a : Int)) = ((b - a : Nat) : Int) := wN (by omega) (by omega)
 unfold F109_W_b77 breakPatterns
 simp only []
 rw [hw]
 by_cases h8 : b - a ≥ 8
 · rw [dqt (show ((b - a : Nat) : Int) ≥ 8 by omega), cond_true, if_pos h8]
   have hq : W (Int.tdiv ((b - a : Nat) : Int) 4) = (((b - a) / 4 : Nat) : Int) := by rw [q4_eq (by omega)]; omega
   have hA : W ((a : Int) + (W ((((b - a) / 4 : Nat) : Int) * 2))) = ((a + (b - a) / 4 * 2 : Nat) : Int) := by
     rw [wN (x := (((b - a) / 4 : Nat) : Int) * 2) (n := (b - a) / 4 * 2) (by omega) (by omega)]; exact wN (by omega) (by omega)
   rw [hq, hA, wN (x := ((a + (b - a) / 4 * 2 : Nat) : Int) - 1) (n := a + (b - a) / 4 * 2 - 1) (by omega) (by omega)]
   have hr : IntKind.wrap .u64 ((b - a : Nat) : Int) = (((UInt64.ofNat (b - a)).toNat : Nat) : Int) := by
     rw [IntKind.wrap_u64, UInt64.toNat_ofNat_of_lt' (show b - a < 2 ^ 64 by omega)]; omega
   rw [hr, show toNat ((a : Int) + ((b : Int) - (a : Int)) / 4 * 2 + 2 - ((a + (b - a) / 4 * 2 - 1 : Nat) : Int)) + 1 = 4 by omega]
   have s1 := brk_step (a := a) (b := b) (l := l) (l0 := wp l o d) (c := c) (d := d) hl hn hd (by omega) hb (i := a + (b - a) / 4 * 2 - 1) (by omega) (by omega) (UInt64.ofNat (b - a))
   rw [loopF_inl s1.1]
   generalize hst1 : breakStep a (b - a) (1 <<< bitsLen (b - a)) (UInt64.ofNat (b - a), d) (a + (b - a) / 4 * 2 - 1) = st1 at s1 ⊢
   obtain ⟨r1, d1⟩ := st1
   have s2 := brk_step (a := a) (b := b) (l := l) (l0 := wp l o d) (c := c) (d := d1) hl hn s1.2 (by omega) hb (i := a + (b - a) / 4 * 2 - 1 + 1) (by omega) (by omega) r1
   rw [loopF_inl s2.1]
   generalize hst2 : breakStep a (b - a) (1 <<< bitsLen (b - a)) (r1, d1) (a + (b - a) / 4 * 2 - 1 + 1) = st2 at s2 ⊢
   obtain ⟨r2, d2⟩ := st2
   have s3 := brk_step (a := a) (b := b) (l := l) (l0 := wp l o d) (c := c) (d := d2) hl hn s2.2 (by omega) hb (i := a + (b - a) / 4 * 2 - 1 + 1 + 1) (by omega) (by omega) r2
   rw [loopF_inl s3.1]
   refine loopF_inr ?_
   simp only [S109_W_b77_0, hw, hq, hA]
   rw [dqf (by rw [wN (x := ((a + (b - a) / 4 * 2 : Nat) : Int) + 1) (n := a + (b - a) / 4 * 2 + 1) (by omega) (by omega)]; omega), cond_false]
 · rw [dqf (show ¬ ((b - a : Nat) : Int) ≥ 8 by omega), cond_false, if_neg h8]
end

end Go.Proofs.Ytnbpiejjeeomkaa

namespace Go.Proofs.Ytnbpiejjeeomkaa
open Go.Proofs Go.Aw Go.RowKit
set_option maxRecDepth 100000

section
open Go.Sort
theorem cmp_int (x y : Int) : F97 x y = if x < y then -1 else if y < x then 1 else 0 := by
 have hn : ∀ z : Int, F117 z = false := fun z => by unfold F117; simp
 unfold F97
 rw [hn, hn, cond_false, cond_false]
 by_cases h : x < y
 · rw [dqt h, if_pos h]; rfl
 · rw [dqf h, if_neg h, cond_false]
   by_cases h2 : y < x
   · rw [dqt (show x > y from h2), if_pos h2]; rfl
   · rw [dqf (show ¬ x > y from h2), if_neg h2]; rfl
def kk (c : SBC) (x : Int) : Int := F95 c.1 x c.2
theorem ltc_iff (c : SBC) (x y : Int) : ltc c x y = true ↔ kk c x < kk c y ∨ kk c x = kk c y ∧ x < y := by
 have e : F77 c x y = F96_2 (F97 (kk c x) (kk c y), F97 x y) := rfl
 unfold ltc
 rw [decide_eq_true_iff, e, cmp_int, cmp_int]
 unfold F96_2
 by_cases h1 : kk c x < kk c y
 · simp [h1]
 · by_cases h2 : kk c y < kk c x
   · simp [h1, h2]; omega
   · by_cases h3 : x < y
     · simp [h1, h2, h3]; omega
     · by_cases h4 : y < x
       · simp [h1, h2, h3, h4]
       · simp [h1, h2, h3, h4]
theorem ltc_f (c : SBC) (x y : Int) : ltc c x y = false ↔ ¬ (kk c x < kk c y ∨ kk c x = kk c y ∧ x < y) := by
 rw [← ltc_iff]; simp
theorem ltc_swo (c : SBC) : SWO (ltc c) where
 irrefl x := by rw [ltc_f]; omega
 trans x y z h1 h2 := by rw [ltc_iff] at *; omega
 ntrans x y z h1 h2 := by rw [ltc_f] at *; omega
theorem ltc_tot (c : SBC) (x y : Int) (h1 : ltc c x y = false) (h2 : ltc c y x = false) : x = y := by
 rw [ltc_f] at *; omega
def Al (p : Int → Prop) (d : Array Int) : Prop := ∀ i, i < d.size → p d[i]!
variable {p : Int → Prop} {d d' : Array Int} {N o n : Nat} {l v : List Int} {c : SBC}
theorem Al.swp (h : Al p d) {i j : Nat} (hi : i < d.size) (hj : j < d.size) : Al p (Go.Sort.swp d i j) := fun k hk => by
 rw [Go.Sort.size_swp] at hk
 rw [Go.Sort.swp_get d hi hj k]
 split
 · exact h i hi
 · split
   · exact h j hj
   · exact h k hk
theorem Al.perm (h : Al p d) {a b : Nat} (hb : b ≤ d.size) (hp : PermIn a b d d') : Al p d' := fun k hk => by
 by_cases hin : a ≤ k ∧ k < b
 · exact permIn_all d d' a b p hb hp (fun i h1 h2 => h i (by omega)) k hin.1 hin.2
 · rw [hp.2.1 k (by omega)]; exact h k (by rw [← hp.1]; exact hk)
theorem al_inr (h : o + d.size ≤ l.length) : InR N (wp l o d) ↔ (∀ x ∈ l.take o ++ l.drop (o + d.size), 0 ≤ x ∧ x < (N : Int)) ∧ Al (fun x => 0 ≤ x ∧ x < (N : Int)) d := by
 unfold InR wp Al
 constructor
 · intro hx
   refine ⟨fun x hm => hx x ?_, fun i hi => hx _ ?_⟩
   · rcases List.mem_append.1 hm with hm | hm
     · exact List.mem_append_left _ (List.mem_append_left _ hm)
     · exact List.mem_append_right _ hm
   · refine List.mem_append_left _ (List.mem_append_right _ ?_)
     rw [getElem!_pos d i hi]
     exact Array.mem_toList_iff.2 (Array.getElem_mem hi)
 · rintro ⟨h1, h2⟩ x hm
   rcases List.mem_append.1 hm with hm | hm
   · rcases List.mem_append.1 hm with hm | hm
     · exact h1 x (List.mem_append_left _ hm)
     · obtain ⟨i, hi, rfl⟩ := List.getElem_of_mem hm
       have hi' : i < d.size := by simpa using hi
       have := h2 i hi'
       rw [getElem!_pos d i hi'] at this
       simpa using this
   · exact h1 x (List.mem_append_right _ hm)
theorem al_fin (hl : o + n ≤ v.length) (hi : InR N v) {f : Array Int → Array Int} (hs : (f (wArr v o n)).size = n) (hf : ∀ p, Al p (wArr v o n) → Al p (f (wArr v o n))) : (wp v o (f (wArr v o n))).length = v.length ∧ InR N (wp v o (f (wArr v o n))) := by
 refine ⟨wp_len (by omega), ?_⟩
 have hz : (wArr v o n).size = n := wArr_size hl
 have h0 : InR N (wp v o (wArr v o n)) := by rw [wp_win hl]; exact hi
 rw [al_inr (by omega)] at h0 ⊢
 rw [hs]; rw [hz] at h0
 exact ⟨h0.1, hf _ h0.2⟩
theorem perm_fin (hl : o + n ≤ v.length) (hi : InR N v) {a b : Nat} (hb : b ≤ n) (hp : PermIn a b (wArr v o n) d') : (wp v o d').length = v.length ∧ InR N (wp v o d') :=
 al_fin (f := fun _ => d') hl hi (by rw [hp.1]; exact wArr_size hl) (fun p h => h.perm (by rw [wArr_size hl]; exact hb) hp)
theorem shiftDown_al (lt : Int → Int → Bool) : ∀ (j : Nat) (d : Array Int), j < d.size → Al p d → Al p (shiftDown lt j d)
 | 0, d, _, h => h
 | j + 1, d, hj, h => by
   rw [shiftDown]
   split
   · exact h
   · exact shiftDown_al lt j _ (by rw [Go.Sort.size_swp]; omega) (h.swp hj (by omega))
theorem shiftUp_al (lt : Int → Int → Bool) (b : Nat) : ∀ (m j : Nat) (d : Array Int), b - j ≤ m → b ≤ d.size → Al p d → Al p (shiftUp lt b j d)
 | 0, j, d, hm, _, h => by rw [shiftUp, if_neg (by omega)]; exact h
 | m + 1, j, d, hm, hb, h => by
   rw [shiftUp]
   split
   · split
     · exact h
     · exact shiftUp_al lt b m _ _ (by omega) (by rw [Go.Sort.size_swp]; exact hb) (h.swp (by omega) (by omega))
   · exact h
theorem partialIns_al (lt : Int → Int → Bool) (a b : Nat) : ∀ (s i : Nat) (d : Array Int), i ≤ b → b ≤ d.size → Al p d → Al p (partialIns lt a b s i d).1 ∧ (partialIns lt a b s i d).1.size = d.size
 | 0, i, d, _, _, h => ⟨h, rfl⟩
 | s + 1, i, d, hi, hb, h => by
   rw [partialIns_succ]
   have hr := scanSorted_rng lt d b _ i (Nat.le_refl _) hi
   generalize scanSorted lt d b i = k at hr ⊢
   split
   · exact ⟨h, rfl⟩
   · split
     · exact ⟨h, rfl⟩
     · have h1 : Al p (Go.Sort.swp d k (k - 1)) := h.swp (by omega) (by omega)
       have h2 : Al p (fixDown lt a k (Go.Sort.swp d k (k - 1))) := by
         unfold fixDown
         split
         · exact shiftDown_al lt _ _ (by rw [Go.Sort.size_swp]; omega) h1
         · exact h1
       have zz2 : (fixDown lt a k (Go.Sort.swp d k (k - 1))).size = d.size := by rw [fixDown_size, Go.Sort.size_swp]
       have h3 : Al p (fixUp lt b k (fixDown lt a k (Go.Sort.swp d k (k - 1)))) := by
         unfold fixUp
         split
         · exact shiftUp_al lt b _ _ _ (Nat.le_refl _) (by rw [zz2]; exact hb) h2
         · exact h2
       have zz3 : (fixUp lt b k (fixDown lt a k (Go.Sort.swp d k (k - 1)))).size = d.size := by rw [fixUp_size, zz2]
       have ih := partialIns_al lt a b s k _ hr.2 (by rw [zz3]; exact hb) h3
       exact ⟨ih.1, by rw [ih.2, zz3]⟩
theorem peq_rng (lt : Int → Int → Bool) {a b q : Nat} (h1 : a ≤ q) (h2 : q < b) (hb : b ≤ d.size) : a < (partitionEqual lt d a b q).1 ∧ (partitionEqual lt d a b q).1 ≤ b ∧ PermIn a b d (partitionEqual lt d a b q).2 := by
 unfold partitionEqual
 obtain ⟨r1, r2, r3, _⟩ := partEqLoop_spec lt a b _ (a + 1) (b - 1) (Go.Sort.swp d a q) (Nat.le_refl _) (lss a) (by omega) (by omega) (by rw [Go.Sort.size_swp]; exact hb) (fun t h1 h2 => by omega) (fun t h1 h2 => by omega)
 exact ⟨r1, r2, permIn_trans _ _ _ _ _ (swp_permIn d a b a q (Nat.le_refl _) (by omega) h1 h2 hb) (permIn_mono _ _ (a + 1) b a b (Nat.le_succ a) (Nat.le_refl _) (by rw [Go.Sort.size_swp]; exact hb) r3)⟩
variable {a b q : Int}
theorem ins_f (hw : o + n ≤ v.length ∧ v.length ≤ 1048576) (hi : InR N v) (h : 0 ≤ a ∧ a ≤ b ∧ b ≤ (n : Int)) :
   (F107_W_b77 v o n a b c).length = v.length ∧ InR N (F107_W_b77 v o n a b c) := by
 obtain ⟨a, rfl⟩ : ∃ k : Nat, a = k := ⟨a.toNat, by omega⟩
 obtain ⟨b, rfl⟩ : ∃ k : Nat, b = k := ⟨b.toNat, by omega⟩
 have hz := wArr_size hw.1
 have e := ins_eq (l := v) (c := c) (d := wArr v o n) hw.1 (by omega) (a := a) (b := b) (by omega) (by omega) hz
 rw [wp_win hw.1] at e
 rw [e]
 exact perm_fin hw.1 hi (a := a) (b := b) (by omega) (insertionSort_holds (ltc_swo c) _ a b (by omega) (by omega)).1
theorem hso_f (hw : o + n ≤ v.length ∧ v.length ≤ 1048576) (hi : InR N v) (h : 0 ≤ a ∧ a ≤ b ∧ b ≤ (n : Int)) :
   (F108_W_b77 v o n a b c).length = v.length ∧ InR N (F108_W_b77 v o n a b c) := by
 obtain ⟨a, rfl⟩ : ∃ k : Nat, a = k := ⟨a.toNat, by omega⟩
 obtain ⟨b, rfl⟩ : ∃ k : Nat, b = k := ⟨b.toNat, by omega⟩
 have hz := wArr_size hw.1
 have e := hso_eq (l := v) (c := c) (d := wArr v o n) hw.1 (by omega) (a := a) (b := b) (by omega) (by omega) hz
 rw [wp_win hw.1] at e
 rw [e]
 exact perm_fin hw.1 hi (a := a) (b := b) (by omega) (heapSort_holds (ltc_swo c) _ a b (by omega) (by omega)).1
theorem brk_f (hw : o + n ≤ v.length ∧ v.length ≤ 1048576) (hi : InR N v) (h : 0 ≤ a ∧ a ≤ b ∧ b ≤ (n : Int)) :
   (F109_W_b77 v o n a b c).length = v.length ∧ InR N (F109_W_b77 v o n a b c) := by
 obtain ⟨a, rfl⟩ : ∃ k : Nat, a = k := ⟨a.toNat, by omega⟩
 obtain ⟨b, rfl⟩ : ∃ k : Nat, b = k := ⟨b.toNat, by omega⟩
 have hz := wArr_size hw.1
 have e := brk_eq (l := v) (c := c) (d := wArr v o n) hw.1 (by omega) hz (a := a) (b := b) (by omega) (by omega)
 rw [wp_win hw.1] at e
 rw [e]
 exact perm_fin hw.1 hi (a := a) (b := b) (by omega) (breakPatterns_holds _ a b (by omega) (by omega))
theorem rvr_f (hw : o + n ≤ v.length ∧ v.length ≤ 1048576) (hi : InR N v) (h : 0 ≤ a ∧ a < b ∧ b ≤ (n : Int)) :
   (F111_W_b77 v o n a b c).length = v.length ∧ InR N (F111_W_b77 v o n a b c) := by
 obtain ⟨a, rfl⟩ : ∃ k : Nat, a = k := ⟨a.toNat, by omega⟩
 obtain ⟨b, rfl⟩ : ∃ k : Nat, b = k := ⟨b.toNat, by omega⟩
 have hz := wArr_size hw.1
 have e := rvr_eq (l := v) (c := c) (d := wArr v o n) hw.1 (by omega) (a := a) (b := b) (by omega) (by omega) hz
 rw [wp_win hw.1] at e
 rw [e]
 exact perm_fin hw.1 hi (a := a) (b := b) (by omega) (reverseRange_holds _ a b (by omega) (by omega))
theorem cpv_f (hw : o + n ≤ v.length ∧ v.length ≤ 1048576) (h : 0 ≤ a ∧ a < b ∧ b ≤ (n : Int)) :
   a ≤ (F110_W_b77 v o n a b c).1 ∧ (F110_W_b77 v o n a b c).1 < b := by
 obtain ⟨a, rfl⟩ : ∃ k : Nat, a = k := ⟨a.toNat, by omega⟩
 obtain ⟨b, rfl⟩ : ∃ k : Nat, b = k := ⟨b.toNat, by omega⟩
 have hz := wArr_size hw.1
 have e := cpv_eq (l := v) (c := c) (d := wArr v o n) hw.1 (by omega) hz (a := a) (b := b) (by omega) (by omega)
 rw [wp_win hw.1] at e
 rw [e]
 have := choosePivot_holds (ltc c) (wArr v o n) a b (by omega)
 dsimp only
 omega
theorem pis_f (hw : o + n ≤ v.length ∧ v.length ≤ 1048576) (hi : InR N v) (h : 0 ≤ a ∧ a < b ∧ b ≤ (n : Int)) :
   (F112_W_b77 v o n a b c).2.length = v.length ∧ InR N (F112_W_b77 v o n a b c).2 := by
 obtain ⟨a, rfl⟩ : ∃ k : Nat, a = k := ⟨a.toNat, by omega⟩
 obtain ⟨b, rfl⟩ : ∃ k : Nat, b = k := ⟨b.toNat, by omega⟩
 have hz := wArr_size hw.1
 have e := pis_eq (l := v) (c := c) (d := wArr v o n) hw.1 (by omega) hz (a := a) (b := b) (by omega) (by omega)
 rw [wp_win hw.1] at e
 rw [e.1]
 exact al_fin (f := fun d => (partialInsertionSort (ltc c) d a b).1) hw.1 hi e.2 (fun p hp => (partialIns_al (ltc c) a b 5 (a + 1) _ (by omega) (by omega) hp).1)
theorem par_f (hw : o + n ≤ v.length ∧ v.length ≤ 1048576) (hi : InR N v) (h : 0 ≤ a ∧ a ≤ q ∧ q < b ∧ b ≤ (n : Int)) :
   (a ≤ (F114_W_b77 v o n a b q c).1 ∧ (F114_W_b77 v o n a b q c).1 < b) ∧ (F114_W_b77 v o n a b q c).2.2.length = v.length ∧ InR N (F114_W_b77 v o n a b q c).2.2 := by
 obtain ⟨a, rfl⟩ : ∃ k : Nat, a = k := ⟨a.toNat, by omega⟩
 obtain ⟨b, rfl⟩ : ∃ k : Nat, b = k := ⟨b.toNat, by omega⟩
 obtain ⟨q, rfl⟩ : ∃ k : Nat, q = k := ⟨q.toNat, by omega⟩
 have hz := wArr_size hw.1
 have e := par_eq (l := v) (c := c) (d := wArr v o n) hw.1 (by omega) hz (a := a) (b := b) (p := q) (by omega) (by omega) (by omega)
 rw [wp_win hw.1] at e
 rw [e]
 obtain ⟨r1, r2, r3, _⟩ := partition_holds (lt := ltc c) (ltc_swo c) (wArr v o n) a b q (by omega) (by omega) (by omega)
 exact ⟨by dsimp only; omega, perm_fin hw.1 hi (a := a) (b := b) (by omega) r3⟩
theorem peq_f (hw : o + n ≤ v.length ∧ v.length ≤ 1048576) (hi : InR N v) (h : 0 ≤ a ∧ a ≤ q ∧ q < b ∧ b ≤ (n : Int)) :
   (a < (F113_W_b77 v o n a b q c).1 ∧ (F113_W_b77 v o n a b q c).1 ≤ b) ∧ (F113_W_b77 v o n a b q c).2.length = v.length ∧ InR N (F113_W_b77 v o n a b q c).2 := by
 obtain ⟨a, rfl⟩ : ∃ k : Nat, a = k := ⟨a.toNat, by omega⟩
 obtain ⟨b, rfl⟩ : ∃ k : Nat, b = k := ⟨b.toNat, by omega⟩
 obtain ⟨q, rfl⟩ : ∃ k : Nat, q = k := ⟨q.toNat, by omega⟩
 have hz := wArr_size hw.1
 have e := peq_eq (l := v) (c := c) (d := wArr v o n) hw.1 (by omega) hz (a := a) (b := b) (p := q) (by omega) (by omega) (by omega)
 rw [wp_win hw.1] at e
 rw [e]
 obtain ⟨r1, r2, r3⟩ := peq_rng (d := wArr v o n) (ltc c) (a := a) (b := b) (q := q) (by omega) (by omega) (by omega)
 exact ⟨by dsimp only; omega, perm_fin hw.1 hi (a := a) (b := b) (by omega) r3⟩
end

end Go.Proofs.Ytnbpiejjeeomkaa

namespace Go.Proofs.Ytnbpiejjeeomkaa
open Go.Proofs Go.Aw Go.RowKit
set_option maxRecDepth 100000

noncomputable def B93_W_b77_j20 : Code := (codeAtD [1, 1, 0, 0, 0, 1, 1, 1, 1, 1, 1, 1, 1, 0] [0] (bodyOf Try.f93)).1
noncomputable def K93_W_b77_j20 (m0 : Nat) : List K := (codeAtD [1, 1, 0, 0, 0, 1, 1, 1, 1, 1, 1, 1, 1, 0] [m0] (bodyOf Try.f93)).2

def st93_W_b77_j20 (nr : Nat) (a0 : List (Int)) (a0_o : Nat) (a0_n : Nat) (a1 : Int) (a2 : Int) (a3 : Int) (a4 : TyB × Int) (v31c : List SV) (v31n : Nat) (v32 v33 v34 v35 v36 : Int) : LS := ⟨slN 148 [(0, (.s 0 (0 + a0_o * 1) a0_n 1)), (1, (iv v32)), (2, (iv v33)), (3, (iv v34)), (4, (.f 1000077 [(.a [(.p 1 0), (iv a4.2)])])), (12, (iv v35)), (13, (iv v36))], [(.live true true v31c), (.live false false [(.s 2 0 a4.1.1.length 10), (iv a4.1.2.1), (.s 0 0 v31n 1), (.s 3 0 a4.1.2.2.2.length 8)]), (.live false true (flat c81 a4.1.1)), (.live false true (flat c40 a4.1.2.2.2))]⟩

def S93_W_b77_j20 (rr : (List (Int)) → (Nat) → (Nat) → (Int) → (Int) → (Int) → TyS → List (Int)) (a0 : List (Int)) (a0_o : Nat) (a0_n : Nat) (a1 : Int) (a2 : Int) (a3 : Int) (a4 : TyB × Int) : List (Int) × Int × Int × Int × Int × Int → (List (Int) × Int × Int × Int × Bool × Bool) ⊕ (List (Int))
 | (v31, v32, v33, v34, v35, v36) =>
  (bif (decide (((W ((F114_W_b77 v31 a0_o a0_n v32 v33 v36 ((a4.1.1, a4.1.2.1, (v31, a4.1.2.2.2)), a4.2)).1 - v32)) : Int) < (W (v33 - (F114_W_b77 v31 a0_o a0_n v32 v33 v36 ((a4.1.1, a4.1.2.1, (v31, a4.1.2.2.2)), a4.2)).1)))) then
   (.inl ((rr ((F114_W_b77 v31 a0_o a0_n v32 v33 v36 ((a4.1.1, a4.1.2.1, (v31, a4.1.2.2.2)), a4.2)).2.2) a0_o a0_n v32 (F114_W_b77 v31 a0_o a0_n v32 v33 v36 ((a4.1.1, a4.1.2.1, (v31, a4.1.2.2.2)), a4.2)).1 v34 ((a4.1.1, a4.1.2.1, ((F114_W_b77 v31 a0_o a0_n v32 v33 v36 ((a4.1.1, a4.1.2.1, (v31, a4.1.2.2.2)), a4.2)).2.2, a4.1.2.2.2)), a4.2)), (W ((F114_W_b77 v31 a0_o a0_n v32 v33 v36 ((a4.1.1, a4.1.2.1, (v31, a4.1.2.2.2)), a4.2)).1 + 1)), v33, v34, (decide (((W ((F114_W_b77 v31 a0_o a0_n v32 v33 v36 ((a4.1.1, a4.1.2.1, (v31, a4.1.2.2.2)), a4.2)).1 - v32)) : Int) ≥ (W (Int.tdiv v35 8)))), (F114_W_b77 v31 a0_o a0_n v32 v33 v36 ((a4.1.1, a4.1.2.1, (v31, a4.1.2.2.2)), a4.2)).2.1))
  else
   (.inl ((rr ((F114_W_b77 v31 a0_o a0_n v32 v33 v36 ((a4.1.1, a4.1.2.1, (v31, a4.1.2.2.2)), a4.2)).2.2) a0_o a0_n (W ((F114_W_b77 v31 a0_o a0_n v32 v33 v36 ((a4.1.1, a4.1.2.1, (v31, a4.1.2.2.2)), a4.2)).1 + 1)) v33 v34 ((a4.1.1, a4.1.2.1, ((F114_W_b77 v31 a0_o a0_n v32 v33 v36 ((a4.1.1, a4.1.2.1, (v31, a4.1.2.2.2)), a4.2)).2.2, a4.1.2.2.2)), a4.2)), v32, (F114_W_b77 v31 a0_o a0_n v32 v33 v36 ((a4.1.1, a4.1.2.1, (v31, a4.1.2.2.2)), a4.2)).1, v34, (decide (((W (v33 - (F114_W_b77 v31 a0_o a0_n v32 v33 v36 ((a4.1.1, a4.1.2.1, (v31, a4.1.2.2.2)), a4.2)).1)) : Int) ≥ (W (Int.tdiv v35 8)))), (F114_W_b77 v31 a0_o a0_n v32 v33 v36 ((a4.1.1, a4.1.2.1, (v31, a4.1.2.2.2)), a4.2)).2.1)))

noncomputable def B93_W_b77_j17 : Code := (codeAtD [1, 1, 0, 0, 0, 1, 1, 1, 1, 1, 1, 1, 0, 0] [0] (bodyOf Try.f93)).1
noncomputable def K93_W_b77_j17 (m0 : Nat) : List K := (codeAtD [1, 1, 0, 0, 0, 1, 1, 1, 1, 1, 1, 1, 0, 0] [m0] (bodyOf Try.f93)).2

def st93_W_b77_j17 (nr : Nat) (a0 : List (Int)) (a0_o : Nat) (a0_n : Nat) (a1 : Int) (a2 : Int) (a3 : Int) (a4 : TyB × Int) (v23c : List SV) (v23n : Nat) (v24 v25 v26 : Int) (v27 : Bool) (v28 : Bool) (v29 v30 : Int) : LS := ⟨slN 148 [(0, (.s 0 (0 + a0_o * 1) a0_n 1)), (1, (iv v24)), (2, (iv v25)), (3, (iv v26)), (4, (.f 1000077 [(.a [(.p 1 0), (iv a4.2)])])), (10, (.v (.bool v27))), (11, (.v (.bool v28))), (12, (iv v29)), (13, (iv v30))], [(.live true true v23c), (.live false false [(.s 2 0 a4.1.1.length 10), (iv a4.1.2.1), (.s 0 0 v23n 1), (.s 3 0 a4.1.2.2.2.length 8)]), (.live false true (flat c81 a4.1.1)), (.live false true (flat c40 a4.1.2.2.2))]⟩

def S93_W_b77_j17 (rr : (List (Int)) → (Nat) → (Nat) → (Int) → (Int) → (Int) → TyS → List (Int)) (a0 : List (Int)) (a0_o : Nat) (a0_n : Nat) (a1 : Int) (a2 : Int) (a3 : Int) (a4 : TyB × Int) : List (Int) × Int × Int × Int × Bool × Bool × Int × Int → (List (Int) × Int × Int × Int × Bool × Bool) ⊕ (List (Int))
 | (v23, v24, v25, v26, v27, v28, v29, v30) =>
  (bif (decide ((v24 : Int) > 0)) then
   (bif (!(decide (((F77 ((a4.1.1, a4.1.2.1, (v23, a4.1.2.2.2)), a4.2) (v23.getD (a0_o + toNat (W (v24 - 1))) default) (v23.getD (a0_o + toNat v30) default)) : Int) < 0))) then
    (.inl ((F113_W_b77 v23 a0_o a0_n v24 v25 v30 ((a4.1.1, a4.1.2.1, (v23, a4.1.2.2.2)), a4.2)).2, (F113_W_b77 v23 a0_o a0_n v24 v25 v30 ((a4.1.1, a4.1.2.1, (v23, a4.1.2.2.2)), a4.2)).1, v25, v26, v27, v28))
   else
    (S93_W_b77_j20 rr a0 a0_o a0_n a1 a2 a3 a4 (v23, v24, v25, v26, v29, v30)))
  else
   (S93_W_b77_j20 rr a0 a0_o a0_n a1 a2 a3 a4 (v23, v24, v25, v26, v29, v30)))

noncomputable def B93_W_b77_j15 : Code := (codeAtD [1, 1, 0, 0, 0, 1, 1, 1, 1, 1, 1, 0, 0] [0] (bodyOf Try.f93)).1
noncomputable def K93_W_b77_j15 (m0 : Nat) : List K := (codeAtD [1, 1, 0, 0, 0, 1, 1, 1, 1, 1, 1, 0, 0] [m0] (bodyOf Try.f93)).2

def st93_W_b77_j15 (nr : Nat) (a0 : List (Int)) (a0_o : Nat) (a0_n : Nat) (a1 : Int) (a2 : Int) (a3 : Int) (a4 : TyB × Int) (v14c : List SV) (v14n : Nat) (v15 v16 v17 : Int) (v18 : Bool) (v19 : Bool) (v20 v21 v22 : Int) : LS := ⟨slN 148 [(0, (.s 0 (0 + a0_o * 1) a0_n 1)), (1, (iv v15)), (2, (iv v16)), (3, (iv v17)), (4, (.f 1000077 [(.a [(.p 1 0), (iv a4.2)])])), (10, (.v (.bool v18))), (11, (.v (.bool v19))), (12, (iv v20)), (13, (iv v21)), (14, (iv v22))], [(.live true true v14c), (.live false false [(.s 2 0 a4.1.1.length 10), (iv a4.1.2.1), (.s 0 0 v14n 1), (.s 3 0 a4.1.2.2.2.length 8)]), (.live false true (flat c81 a4.1.1)), (.live false true (flat c40 a4.1.2.2.2))]⟩

def S93_W_b77_j15 (rr : (List (Int)) → (Nat) → (Nat) → (Int) → (Int) → (Int) → TyS → List (Int)) (a0 : List (Int)) (a0_o : Nat) (a0_n : Nat) (a1 : Int) (a2 : Int) (a3 : Int) (a4 : TyB × Int) : List (Int) × Int × Int × Int × Bool × Bool × Int × Int × Int → (List (Int) × Int × Int × Int × Bool × Bool) ⊕ (List (Int))
 | (v14, v15, v16, v17, v18, v19, v20, v21, v22) =>
  (bif v18 then
   (bif v19 then
    (bif ((v22 : Int) == 1) then
     (bif (F112_W_b77 v14 a0_o a0_n v15 v16 ((a4.1.1, a4.1.2.1, (v14, a4.1.2.2.2)), a4.2)).1 then
      (.inr (F112_W_b77 v14 a0_o a0_n v15 v16 ((a4.1.1, a4.1.2.1, (v14, a4.1.2.2.2)), a4.2)).2)
     else
      (S93_W_b77_j17 rr a0 a0_o a0_n a1 a2 a3 a4 ((F112_W_b77 v14 a0_o a0_n v15 v16 ((a4.1.1, a4.1.2.1, (v14, a4.1.2.2.2)), a4.2)).2, v15, v16, v17, v18, v19, v20, v21)))
    else
     (S93_W_b77_j17 rr a0 a0_o a0_n a1 a2 a3 a4 (v14, v15, v16, v17, v18, v19, v20, v21)))
   else
    (S93_W_b77_j17 rr a0 a0_o a0_n a1 a2 a3 a4 (v14, v15, v16, v17, v18, v19, v20, v21)))
  else
   (S93_W_b77_j17 rr a0 a0_o a0_n a1 a2 a3 a4 (v14, v15, v16, v17, v18, v19, v20, v21)))

noncomputable def B93_W_b77_j10 : Code := (codeAtD [1, 1, 0, 0, 0, 1, 1, 1, 1, 0] [0] (bodyOf Try.f93)).1
noncomputable def K93_W_b77_j10 (m0 : Nat) : List K := (codeAtD [1, 1, 0, 0, 0, 1, 1, 1, 1, 0] [m0] (bodyOf Try.f93)).2

def st93_W_b77_j10 (nr : Nat) (a0 : List (Int)) (a0_o : Nat) (a0_n : Nat) (a1 : Int) (a2 : Int) (a3 : Int) (a4 : TyB × Int) (v7c : List SV) (v7n : Nat) (v8 v9 v10 : Int) (v11 : Bool) (v12 : Bool) (v13 : Int) : LS := ⟨slN 148 [(0, (.s 0 (0 + a0_o * 1) a0_n 1)), (1, (iv v8)), (2, (iv v9)), (3, (iv v10)), (4, (.f 1000077 [(.a [(.p 1 0), (iv a4.2)])])), (10, (.v (.bool v11))), (11, (.v (.bool v12))), (12, (iv v13))], [(.live true true v7c), (.live false false [(.s 2 0 a4.1.1.length 10), (iv a4.1.2.1), (.s 0 0 v7n 1), (.s 3 0 a4.1.2.2.2.length 8)]), (.live false true (flat c81 a4.1.1)), (.live false true (flat c40 a4.1.2.2.2))]⟩

def S93_W_b77_j10 (rr : (List (Int)) → (Nat) → (Nat) → (Int) → (Int) → (Int) → TyS → List (Int)) (a0 : List (Int)) (a0_o : Nat) (a0_n : Nat) (a1 : Int) (a2 : Int) (a3 : Int) (a4 : TyB × Int) : List (Int) × Int × Int × Int × Bool × Bool × Int → (List (Int) × Int × Int × Int × Bool × Bool) ⊕ (List (Int))
 | (v7, v8, v9, v10, v11, v12, v13) =>
  (bif (((F110_W_b77 v7 a0_o a0_n v8 v9 ((a4.1.1, a4.1.2.1, (v7, a4.1.2.2.2)), a4.2)).2 : Int) == 2) then
   (S93_W_b77_j15 rr a0 a0_o a0_n a1 a2 a3 a4 ((F111_W_b77 v7 a0_o a0_n v8 v9 ((a4.1.1, a4.1.2.1, (v7, a4.1.2.2.2)), a4.2)), v8, v9, v10, v11, v12, v13, (W ((W (v9 - 1)) - (W ((F110_W_b77 v7 a0_o a0_n v8 v9 ((a4.1.1, a4.1.2.1, (v7, a4.1.2.2.2)), a4.2)).1 - v8)))), 1))
  else
   (S93_W_b77_j15 rr a0 a0_o a0_n a1 a2 a3 a4 (v7, v8, v9, v10, v11, v12, v13, (F110_W_b77 v7 a0_o a0_n v8 v9 ((a4.1.1, a4.1.2.1, (v7, a4.1.2.2.2)), a4.2)).1, (F110_W_b77 v7 a0_o a0_n v8 v9 ((a4.1.1, a4.1.2.1, (v7, a4.1.2.2.2)), a4.2)).2)))

noncomputable def B93_W_b77_0 : Code := (loopAtD [1, 1] [] (bodyOf Try.f93) []).1
noncomputable def K93_W_b77_0 : List K := (loopAtD [1, 1] [] (bodyOf Try.f93) []).2

def st93_W_b77_0 (nr : Nat) (a0 : List (Int)) (a0_o : Nat) (a0_n : Nat) (a1 : Int) (a2 : Int) (a3 : Int) (a4 : TyB × Int) (v1c : List SV) (v1n : Nat) (v2 v3 v4 : Int) (v5 : Bool) (v6 : Bool) : LS := ⟨slN 148 [(0, (.s 0 (0 + a0_o * 1) a0_n 1)), (1, (iv v2)), (2, (iv v3)), (3, (iv v4)), (4, (.f 1000077 [(.a [(.p 1 0), (iv a4.2)])])), (10, (.v (.bool v5))), (11, (.v (.bool v6)))], [(.live true true v1c), (.live false false [(.s 2 0 a4.1.1.length 10), (iv a4.1.2.1), (.s 0 0 v1n 1), (.s 3 0 a4.1.2.2.2.length 8)]), (.live false true (flat c81 a4.1.1)), (.live false true (flat c40 a4.1.2.2.2))]⟩

def S93_W_b77_0 (rr : (List (Int)) → (Nat) → (Nat) → (Int) → (Int) → (Int) → TyS → List (Int)) (a0 : List (Int)) (a0_o : Nat) (a0_n : Nat) (a1 : Int) (a2 : Int) (a3 : Int) (a4 : TyB × Int) : List (Int) × Int × Int × Int × Bool × Bool → (List (Int) × Int × Int × Int × Bool × Bool) ⊕ (List (Int))
 | (v1, v2, v3, v4, v5, v6) =>
  (bif (decide (((W (v3 - v2)) : Int) ≤ 12)) then
   (.inr (F107_W_b77 v1 a0_o a0_n v2 v3 ((a4.1.1, a4.1.2.1, (v1, a4.1.2.2.2)), a4.2)))
  else
   (bif ((v4 : Int) == 0) then
    (.inr (F108_W_b77 v1 a0_o a0_n v2 v3 ((a4.1.1, a4.1.2.1, (v1, a4.1.2.2.2)), a4.2)))
   else
    (bif (!v5) then
     (S93_W_b77_j10 rr a0 a0_o a0_n a1 a2 a3 a4 ((F109_W_b77 v1 a0_o a0_n v2 v3 ((a4.1.1, a4.1.2.1, (v1, a4.1.2.2.2)), a4.2)), v2, v3, (W (v4 - 1)), v5, v6, (W (v3 - v2))))
    else
     (S93_W_b77_j10 rr a0 a0_o a0_n a1 a2 a3 a4 (v1, v2, v3, v4, v5, v6, (W (v3 - v2)))))))

def R93_W_b77 : Nat → (List (Int)) → (Nat) → (Nat) → (Int) → (Int) → (Int) → TyS → List (Int)
 | 0, _, _, _, _, _, _, _ => default
 | nr + 1, a0, a0_o, a0_n, a1, a2, a3, a4 =>
 (loopF (S93_W_b77_0 (R93_W_b77 nr) a0 a0_o a0_n a1 a2 a3 a4) (toNat (a2 - a1) + 1) (a0, a1, a2, a3, true, true))

def F93_W_b77 (a0 : List (Int)) (a0_o : Nat) (a0_n : Nat) (a1 : Int) (a2 : Int) (a3 : Int) (a4 : TyB × Int) : List (Int) := R93_W_b77 (toNat (a2 - a1) + 1) a0 a0_o a0_n a1 a2 a3 a4

section
variable {N o n L : Nat} {v : List Int} {a b lim lo hi : Int} {c : SBC}
def PqP (L N : Nat) (lo hi : Int) (m : Int) : ((List Int × Int × Int × Int × Bool × Bool) ⊕ List Int) → Prop
 | .inl s => s.1.length = L ∧ InR N s.1 ∧ lo ≤ s.2.1 ∧ s.2.1 ≤ s.2.2.1 ∧ s.2.2.1 ≤ hi ∧ s.2.2.1 - s.2.1 < m
 | .inr v => v.length = L ∧ InR N v
theorem loopF_ind {σ ρ : Type} [Inhabited ρ] {S : σ → σ ⊕ ρ} (P : σ → Prop) (Q : ρ → Prop) (m : σ → Nat) (h : ∀ s, P s → match S s with | .inl t => P t ∧ m t < m s | .inr r => Q r) : ∀ (k : Nat) (s : σ), P s → m s < k → Q (loopF S k s)
 | 0, s, _, hk => absurd hk (nlz _)
 | k + 1, s, hs, hk => by
   have h1 := h s hs
   cases e : S s with
   | inl t => rw [e] at h1; rw [loopF_inl e]; exact loopF_ind P Q m h k t h1.1 (by have := h1.2; omega)
   | inr r => rw [e] at h1; rw [loopF_inr e]; exact h1
variable {nr : Nat} {rr : List Int → Nat → Nat → Int → Int → Int → SBC → List Int}
  (Hr : ∀ (v : List Int) (o n : Nat) (a b lim : Int) (c : SBC), (o + n ≤ v.length ∧ v.length ≤ 1048576) → InR N v → (0 ≤ a ∧ a ≤ b ∧ b ≤ (n : Int)) → toNat (b - a) < nr → (rr v o n a b lim c).length = v.length ∧ InR N (rr v o n a b lim c))
include Hr
theorem pq20 {a0 : List Int} {a1 a2 a3 ln q : Int} (hw : o + n ≤ v.length ∧ v.length ≤ 1048576) (hI : InR N v) (h : 0 ≤ a ∧ lo ≤ a ∧ a ≤ q ∧ q < b ∧ b ≤ hi ∧ b ≤ (n : Int)) (hm : toNat (b - a) ≤ nr) :
   PqP v.length N lo hi (b - a) (S93_W_b77_j20 rr a0 o n a1 a2 a3 c (v, a, b, lim, ln, q)) := by
 obtain ⟨h1, h2, h3⟩ := par_f (N := N) (v := v) (o := o) (n := n) (a := a) (b := b) (q := q) (c := ((c.1.1, c.1.2.1, (v, c.1.2.2.2)), c.2)) hw hI (by omega)
 have hw1 := W_eq (n := (F114_W_b77 v o n a b q ((c.1.1, c.1.2.1, (v, c.1.2.2.2)), c.2)).1 + 1) (by omega) (by omega)
 simp only [S93_W_b77_j20]
 rw [Bool.cond_eq_ite]
 split
 · have hr := Hr (F114_W_b77 v o n a b q ((c.1.1, c.1.2.1, (v, c.1.2.2.2)), c.2)).2.2 o n a (F114_W_b77 v o n a b q ((c.1.1, c.1.2.1, (v, c.1.2.2.2)), c.2)).1 lim ((c.1.1, c.1.2.1, ((F114_W_b77 v o n a b q ((c.1.1, c.1.2.1, (v, c.1.2.2.2)), c.2)).2.2, c.1.2.2.2)), c.2) (by omega) h3 (by omega) (by omega)
   exact ⟨hr.1.trans h2, hr.2, by dsimp only; omega, by dsimp only; omega, by dsimp only; omega, by dsimp only; omega⟩
 · have hr := Hr (F114_W_b77 v o n a b q ((c.1.1, c.1.2.1, (v, c.1.2.2.2)), c.2)).2.2 o n (W ((F114_W_b77 v o n a b q ((c.1.1, c.1.2.1, (v, c.1.2.2.2)), c.2)).1 + 1)) b lim ((c.1.1, c.1.2.1, ((F114_W_b77 v o n a b q ((c.1.1, c.1.2.1, (v, c.1.2.2.2)), c.2)).2.2, c.1.2.2.2)), c.2) (by omega) h3 (by omega) (by omega)
   exact ⟨hr.1.trans h2, hr.2, by dsimp only; omega, by dsimp only; omega, by dsimp only; omega, by dsimp only; omega⟩
theorem pq17 {a0 : List Int} {a1 a2 a3 ln q : Int} {b1 b2 : Bool} (hw : o + n ≤ v.length ∧ v.length ≤ 1048576) (hI : InR N v) (h : 0 ≤ a ∧ lo ≤ a ∧ a ≤ q ∧ q < b ∧ b ≤ hi ∧ b ≤ (n : Int)) (hm : toNat (b - a) ≤ nr) :
   PqP v.length N lo hi (b - a) (S93_W_b77_j17 rr a0 o n a1 a2 a3 c (v, a, b, lim, b1, b2, ln, q)) := by
 have h20 := pq20 Hr (a0 := a0) (a1 := a1) (a2 := a2) (a3 := a3) (ln := ln) (q := q) (lim := lim) (c := c) hw hI h hm
 simp only [S93_W_b77_j17]
 rw [Bool.cond_eq_ite]
 split
 · rw [Bool.cond_eq_ite]
   split
   · obtain ⟨h1, h2, h3⟩ := peq_f (N := N) (v := v) (o := o) (n := n) (a := a) (b := b) (q := q) (c := ((c.1.1, c.1.2.1, (v, c.1.2.2.2)), c.2)) hw hI (by omega)
     exact ⟨h2, h3, by dsimp only; omega, by dsimp only; omega, by dsimp only; omega, by dsimp only; omega⟩
   · exact h20
 · exact h20
theorem pq15 {a0 : List Int} {a1 a2 a3 ln q hn : Int} {b1 b2 : Bool} (hw : o + n ≤ v.length ∧ v.length ≤ 1048576) (hI : InR N v) (h : 0 ≤ a ∧ lo ≤ a ∧ a ≤ q ∧ q < b ∧ b ≤ hi ∧ b ≤ (n : Int)) (hm : toNat (b - a) ≤ nr) :
   PqP v.length N lo hi (b - a) (S93_W_b77_j15 rr a0 o n a1 a2 a3 c (v, a, b, lim, b1, b2, ln, q, hn)) := by
 have h17 := pq17 Hr (a0 := a0) (a1 := a1) (a2 := a2) (a3 := a3) (ln := ln) (q := q) (lim := lim) (c := c) (b1 := b1) (b2 := b2) hw hI h hm
 obtain ⟨h1, h2⟩ := pis_f (N := N) (v := v) (o := o) (n := n) (a := a) (b := b) (c := ((c.1.1, c.1.2.1, (v, c.1.2.2.2)), c.2)) hw hI (by omega)
 have g17 := pq17 Hr (o := o) (n := n) (a := a) (b := b) (lo := lo) (hi := hi) (v := (F112_W_b77 v o n a b ((c.1.1, c.1.2.1, (v, c.1.2.2.2)), c.2)).2) (a0 := a0) (a1 := a1) (a2 := a2) (a3 := a3) (ln := ln) (q := q) (lim := lim) (c := c) (b1 := b1) (b2 := b2) (by omega) h2 h hm
 rw [h1] at g17
 simp only [S93_W_b77_j15]
 cases b1 with
 | false => exact h17
 | true =>
   cases b2 with
   | false => exact h17
   | true =>
     rw [cond_true, cond_true, Bool.cond_eq_ite]
     split
     · rw [Bool.cond_eq_ite]
       split
       · exact ⟨h1, h2⟩
       · exact g17
     · exact h17
theorem pq10 {a0 : List Int} {a1 a2 a3 ln : Int} {b1 b2 : Bool} (hw : o + n ≤ v.length ∧ v.length ≤ 1048576) (hI : InR N v) (h : 0 ≤ a ∧ lo ≤ a ∧ a < b ∧ b ≤ hi ∧ b ≤ (n : Int)) (hm : toNat (b - a) ≤ nr) :
   PqP v.length N lo hi (b - a) (S93_W_b77_j10 rr a0 o n a1 a2 a3 c (v, a, b, lim, b1, b2, ln)) := by
 have hc := cpv_f (v := v) (o := o) (n := n) (a := a) (b := b) (c := ((c.1.1, c.1.2.1, (v, c.1.2.2.2)), c.2)) hw (by omega)
 obtain ⟨h1, h2⟩ := rvr_f (N := N) (v := v) (o := o) (n := n) (a := a) (b := b) (c := ((c.1.1, c.1.2.1, (v, c.1.2.2.2)), c.2)) hw hI (by omega)
 have e1 : W ((W (b - 1)) - (W ((F110_W_b77 v o n a b ((c.1.1, c.1.2.1, (v, c.1.2.2.2)), c.2)).1 - a))) = b - 1 - ((F110_W_b77 v o n a b ((c.1.1, c.1.2.1, (v, c.1.2.2.2)), c.2)).1 - a) := by
   rw [W_eq (n := b - 1) (by omega) (by omega), W_eq (n := (F110_W_b77 v o n a b ((c.1.1, c.1.2.1, (v, c.1.2.2.2)), c.2)).1 - a) (by omega) (by omega)]
   exact W_eq (by omega) (by omega)
 simp only [S93_W_b77_j10, e1]
 rw [Bool.cond_eq_ite]
 split
 · have g := pq15 Hr (v := F111_W_b77 v o n a b ((c.1.1, c.1.2.1, (v, c.1.2.2.2)), c.2)) (a0 := a0) (a1 := a1) (a2 := a2) (a3 := a3) (ln := ln) (q := b - 1 - ((F110_W_b77 v o n a b ((c.1.1, c.1.2.1, (v, c.1.2.2.2)), c.2)).1 - a)) (hn := 1) (lim := lim) (c := c) (b1 := b1) (b2 := b2) (lo := lo) (hi := hi) (a := a) (b := b) (o := o) (n := n) (by omega) h2 (by omega) hm
   rw [h1] at g
   exact g
 · exact pq15 Hr hw hI (by omega) hm
theorem pq0 {a0 : List Int} {a1 a2 a3 : Int} {b1 b2 : Bool} (hw : o + n ≤ v.length ∧ v.length ≤ 1048576) (hI : InR N v) (h : 0 ≤ a ∧ lo ≤ a ∧ a ≤ b ∧ b ≤ hi ∧ b ≤ (n : Int)) (hm : toNat (b - a) ≤ nr) :
   PqP v.length N lo hi (b - a) (S93_W_b77_0 rr a0 o n a1 a2 a3 c (v, a, b, lim, b1, b2)) := by
 have hW := W_eq (n := b - a) (by omega) (by omega)
 simp only [S93_W_b77_0]
 by_cases h12 : W (b - a) ≤ 12
 · rw [dqt h12, cond_true]
   exact ins_f hw hI (by omega)
 · rw [dqf h12, cond_false, Bool.cond_eq_ite]
   split
   · exact hso_f hw hI (by omega)
   · cases b1 with
     | true => exact pq10 Hr hw hI (by omega) hm
     | false =>
       obtain ⟨h1, h2⟩ := brk_f (N := N) (v := v) (o := o) (n := n) (a := a) (b := b) (c := ((c.1.1, c.1.2.1, (v, c.1.2.2.2)), c.2)) hw hI (by omega)
       have g := pq10 Hr (v := F109_W_b77 v o n a b ((c.1.1, c.1.2.1, (v, c.1.2.2.2)), c.2)) (a0 := a0) (a1 := a1) (a2 := a2) (a3 := a3) (ln := W (b - a)) (lim := W (lim - 1)) (c := c) (b1 := false) (b2 := b2) (lo := lo) (hi := hi) (a := a) (b := b) (o := o) (n := n) (by omega) h2 (by omega) hm
       rw [h1] at g
       exact g
end
theorem pdq_inv : ∀ (nr : Nat) {N o n : Nat} {v : List Int} {a b lim : Int} {c : SBC}, (o + n ≤ v.length ∧ v.length ≤ 1048576) → InR N v → (0 ≤ a ∧ a ≤ b ∧ b ≤ (n : Int)) → toNat (b - a) < nr →
   (R93_W_b77 nr v o n a b lim c).length = v.length ∧ InR N (R93_W_b77 nr v o n a b lim c)
 | 0, _, _, _, _, _, _, _, _, _, _, _, h => absurd h (nlz _)
 | nr + 1, N, o, n, v, a, b, lim, c, hw, hI, h, hm => by
   have Hr := fun (v : List Int) (o n : Nat) (a b lim : Int) (c : SBC) h1 h2 h3 h4 => pdq_inv nr (N := N) (v := v) (o := o) (n := n) (a := a) (b := b) (lim := lim) (c := c) h1 h2 h3 h4
   unfold R93_W_b77
   refine loopF_ind (fun s => s.1.length = v.length ∧ InR N s.1 ∧ a ≤ s.2.1 ∧ s.2.1 ≤ s.2.2.1 ∧ s.2.2.1 ≤ b) (fun r => r.length = v.length ∧ InR N r) (fun s => toNat (s.2.2.1 - s.2.1)) (fun s hs => ?_) _ _ ⟨rfl, hI, by dsimp only; omega, by dsimp only; omega, by dsimp only; omega⟩ (by dsimp only; omega)
   obtain ⟨s1, s2, s3, s4, s5, s6⟩ := s
   dsimp only at hs ⊢
   have g := pq0 (N := N) (nr := nr) Hr (v := s1) (o := o) (n := n) (a := s2) (b := s3) (lim := s4) (c := c) (lo := a) (hi := b) (a0 := v) (a1 := a) (a2 := b) (a3 := lim) (b1 := s5) (b2 := s6) (by omega) hs.2.1 (by omega) (by omega)
   rw [hs.1] at g
   cases e : S93_W_b77_0 (R93_W_b77 nr) v o n a b lim c (s1, s2, s3, s4, s5, s6) with
   | inr r => rw [e] at g; exact g
   | inl t =>
     rw [e] at g
     obtain ⟨g1, g2, g3, g4, g5, g6⟩ := g
     exact ⟨⟨g1, g2, g3, g4, g5⟩, by omega⟩

theorem L93_W_b77_j20 (nr : Nat) (a0 : List (Int)) (a0_o : Nat) (a0_n : Nat) (a1 : Int) (a2 : Int) (a3 : Int) (a4 : TyB × Int) (l0 : a0.length ≤ 9223372036854775807) (l4_1_1 : a4.1.1.length ≤ 9223372036854775807) (l4_1_2_2_1 : a4.1.2.2.1.length ≤ 9223372036854775807) (l4_1_2_2_2 : a4.1.2.2.2.length ≤ 9223372036854775807) (hw : a0_o + a0_n ≤ a0.length ∧ a0.length ≤ 1048576) (hr : InR a4.1.1.length a0) (hab : 0 ≤ a1 ∧ a1 ≤ a2 ∧ a2 ≤ ↑a0_n) (hlt : toNat (a2 - a1) < nr + 1) (ihr : ∀ (a0 : List (Int)) (a0_o : Nat) (a0_n : Nat) (a1 : Int) (a2 : Int) (a3 : Int) (a4 : TyB × Int) (l0 : a0.length ≤ 9223372036854775807) (l4_1_1 : a4.1.1.length ≤ 9223372036854775807) (l4_1_2_2_1 : a4.1.2.2.1.length ≤ 9223372036854775807) (l4_1_2_2_2 : a4.1.2.2.2.length ≤ 9223372036854775807) (hw : a0_o + a0_n ≤ a0.length ∧ a0.length ≤ 1048576) (hr : InR a4.1.1.length a0) (hab : 0 ≤ a1 ∧ a1 ≤ a2 ∧ a2 ≤ ↑a0_n), toNat (a2 - a1) < nr → Con Try.prog 93 [(.s 0 (0 + a0_o * 1) a0_n 1), (iv a1), (iv a2), (iv a3), (.f 1000077 [(.a [(.p 1 0), (iv a4.2)])])] [(.live true true (flat c3 a0)), (.live false false [(.s 2 0 a4.1.1.length 10), (iv a4.1.2.1), (.s 0 0 a0.length 1), (.s 3 0 a4.1.2.2.2.length 8)]), (.live false true (flat c81 a4.1.1)), (.live false true (flat c40 a4.1.2.2.2))] (.t []) [] [(.live true true (flat c3 (R93_W_b77 nr a0 a0_o a0_n a1 a2 a3 a4))), .un, .un, .un]) {cx : Cx} (hcx : cx.base = 4)
   (n0 : Nat) (g0 : ∀ (v1 : List (Int)) (v2 v3 v4 : Int) (v5 : Bool) (v6 : Bool), (v1.length = a0.length) ∧ (InR a4.1.1.length v1) ∧ (a1 ≤ v2) ∧ (v2 ≤ v3) ∧ (v3 ≤ a2) → toNat (v3 - v2) < n0 → Aw.Good Try.prog none 9 (bodyPost Try.prog Try.f93 (RR cx (.t []) [] [(.live true true (flat c3 (loopF (S93_W_b77_0 (R93_W_b77 nr) a0 a0_o a0_n a1 a2 a3 a4) n0 (v1, v2, v3, v4, v5, v6)))), .un, .un, .un])) cx [] (.l B93_W_b77_0 n0 :: K93_W_b77_0) (st93_W_b77_0 nr a0 a0_o a0_n a1 a2 a3 a4 (flat c3 v1) v1.length v2 v3 v4 v5 v6)) (v31 : List (Int)) (v32 v33 v34 v35 v36 : Int) : (v31.length = a0.length) ∧ (InR a4.1.1.length v31) ∧ (a1 ≤ v32) ∧ (v32 ≤ v33) ∧ (v33 ≤ a2) ∧ (v35 = v33 - v32) ∧ (13 ≤ v35) ∧ (v32 ≤ v36) ∧ (v36 < v33) ∧ ((v31.length = a0.length)) ∧ ((InR a4.1.1.length v31)) ∧ ((a1 ≤ v32)) ∧ ((v32 ≤ v33)) ∧ ((v33 ≤ a2)) ∧ (toNat (v33 - v32) < n0 + 1) → Aw.Good Try.prog none 9 (bodyPost Try.prog Try.f93 (RR cx (.t []) [] [(.live true true (flat c3 (thenF (S93_W_b77_0 (R93_W_b77 nr) a0 a0_o a0_n a1 a2 a3 a4) n0 (S93_W_b77_j20 (R93_W_b77 nr) a0 a0_o a0_n a1 a2 a3 a4 (v31, v32, v33, v34, v35, v36))))), .un, .un, .un])) cx [] (.c B93_W_b77_j20 :: K93_W_b77_j20 n0) (st93_W_b77_j20 nr a0 a0_o a0_n a1 a2 a3 a4 (flat c3 v31) v31.length v32 v33 v34 v35 v36) := by
 intro hi
 have hpa := par_f (N := a4.1.1.length) (v := v31) (o := a0_o) (n := a0_n) (a := v32) (b := v33) (c := ((a4.1.1, a4.1.2.1, (v31, a4.1.2.2.2)), a4.2)) (q := v36) (by omega) hi.2.1 (by omega)
 obtain ⟨hpa1, hpa2, hpa3⟩ := hpa
 have hw_1 := W_eq (n := (F114_W_b77 v31 a0_o a0_n v32 v33 v36 ((a4.1.1, a4.1.2.1, (v31, a4.1.2.2.2)), a4.2)).1 + 1) (by omega) (by omega)
 have hrc1 := pdq_inv nr (N := a4.1.1.length) (v := (F114_W_b77 v31 a0_o a0_n v32 v33 v36 ((a4.1.1, a4.1.2.1, (v31, a4.1.2.2.2)), a4.2)).2.2) (o := a0_o) (n := a0_n) (a := v32) (b := (F114_W_b77 v31 a0_o a0_n v32 v33 v36 ((a4.1.1, a4.1.2.1, (v31, a4.1.2.2.2)), a4.2)).1) (lim := v34) (c := ((a4.1.1, a4.1.2.1, ((F114_W_b77 v31 a0_o a0_n v32 v33 v36 ((a4.1.1, a4.1.2.1, (v31, a4.1.2.2.2)), a4.2)).2.2, a4.1.2.2.2)), a4.2)) (by omega) hpa3 (by omega) (by omega)
 obtain ⟨hrc1a, hrc1b⟩ := hrc1
 have hrc2 := pdq_inv nr (N := a4.1.1.length) (v := (F114_W_b77 v31 a0_o a0_n v32 v33 v36 ((a4.1.1, a4.1.2.1, (v31, a4.1.2.2.2)), a4.2)).2.2) (o := a0_o) (n := a0_n) (a := (W ((F114_W_b77 v31 a0_o a0_n v32 v33 v36 ((a4.1.1, a4.1.2.1, (v31, a4.1.2.2.2)), a4.2)).1 + 1))) (b := v33) (lim := v34) (c := ((a4.1.1, a4.1.2.1, ((F114_W_b77 v31 a0_o a0_n v32 v33 v36 ((a4.1.1, a4.1.2.1, (v31, a4.1.2.2.2)), a4.2)).2.2, a4.1.2.2.2)), a4.2)) (by omega) hpa3 (by omega) (by omega)
 obtain ⟨hrc2a, hrc2b⟩ := hrc2
 let t0 : List (St Try.prog) := [.c [0, 1, 2, 3] (C114_W_b77 v31 a0_o a0_n v32 v33 v36 ((a4.1.1, a4.1.2.1, (v31, a4.1.2.2.2)), a4.2) (by (try simp only [Lt]); omega) (by (try simp only [Lt]); omega) (by (try simp only [Lt]); omega) (by (try simp only [Lt]); omega) (by omega) hi.2.1 (by omega)), .p (show (8 : Int) ≠ 0 from by decide)]
 cases h0 : (decide (((W ((F114_W_b77 v31 a0_o a0_n v32 v33 v36 ((a4.1.1, a4.1.2.1, (v31, a4.1.2.2.2)), a4.2)).1 - v32)) : Int) < (W (v33 - (F114_W_b77 v31 a0_o a0_n v32 v33 v36 ((a4.1.1, a4.1.2.1, (v31, a4.1.2.2.2)), a4.2)).1)))) with
 | true =>
  have q0 := odt h0
  have e := Eq.refl (S93_W_b77_j20 (R93_W_b77 nr) a0 a0_o a0_n a1 a2 a3 a4 (v31, v32, v33, v34, v35, v36)); conv at e => rhs; simp only [S93_W_b77_j20, h0, cdb]
  rw [e]
  refine ba (t0 ++ [.d h0, .c [0, 1, 2, 3] (by have q := (ihr ((F114_W_b77 v31 a0_o a0_n v32 v33 v36 ((a4.1.1, a4.1.2.1, (v31, a4.1.2.2.2)), a4.2)).2.2) a0_o a0_n v32 (F114_W_b77 v31 a0_o a0_n v32 v33 v36 ((a4.1.1, a4.1.2.1, (v31, a4.1.2.2.2)), a4.2)).1 v34 ((a4.1.1, a4.1.2.1, ((F114_W_b77 v31 a0_o a0_n v32 v33 v36 ((a4.1.1, a4.1.2.1, (v31, a4.1.2.2.2)), a4.2)).2.2, a4.1.2.2.2)), a4.2) (by (try simp only [Lt]); omega) (by (try simp only [Lt]); omega) (by (try simp only [Lt]); omega) (by (try simp only [Lt]); omega) (by omega) hpa3 (by omega) (by omega)); (try dsimp only at q); (try rw [show List.length (α := Int) (F114_W_b77 v31 a0_o a0_n v32 v33 v36 ((a4.1.1, a4.1.2.1, (v31, a4.1.2.2.2)), a4.2)).2.2 = v31.length from by first | simp; done | omega] at q); exact q)]) [] [0, 1, 2, 3, 4, 10, 11] [] hcx (m := n0) B93_W_b77_0 (K93_W_b77_0) (st93_W_b77_0 nr a0 a0_o a0_n a1 a2 a3 a4 (flat c3 (R93_W_b77 nr ((F114_W_b77 v31 a0_o a0_n v32 v33 v36 ((a4.1.1, a4.1.2.1, (v31, a4.1.2.2.2)), a4.2)).2.2) a0_o a0_n v32 (F114_W_b77 v31 a0_o a0_n v32 v33 v36 ((a4.1.1, a4.1.2.1, (v31, a4.1.2.2.2)), a4.2)).1 v34 ((a4.1.1, a4.1.2.1, ((F114_W_b77 v31 a0_o a0_n v32 v33 v36 ((a4.1.1, a4.1.2.1, (v31, a4.1.2.2.2)), a4.2)).2.2, a4.1.2.2.2)), a4.2))) (v31.length) (W ((F114_W_b77 v31 a0_o a0_n v32 v33 v36 ((a4.1.1, a4.1.2.1, (v31, a4.1.2.2.2)), a4.2)).1 + 1)) v33 v34 (decide (((W ((F114_W_b77 v31 a0_o a0_n v32 v33 v36 ((a4.1.1, a4.1.2.1, (v31, a4.1.2.2.2)), a4.2)).1 - v32)) : Int) ≥ (W (Int.tdiv v35 8)))) ((F114_W_b77 v31 a0_o a0_n v32 v33 v36 ((a4.1.1, a4.1.2.1, (v31, a4.1.2.2.2)), a4.2)).2.1)) (by kernel_rfl) ?_
  have z0 : v31.length = (R93_W_b77 nr ((F114_W_b77 v31 a0_o a0_n v32 v33 v36 ((a4.1.1, a4.1.2.1, (v31, a4.1.2.2.2)), a4.2)).2.2) a0_o a0_n v32 (F114_W_b77 v31 a0_o a0_n v32 v33 v36 ((a4.1.1, a4.1.2.1, (v31, a4.1.2.2.2)), a4.2)).1 v34 ((a4.1.1, a4.1.2.1, ((F114_W_b77 v31 a0_o a0_n v32 v33 v36 ((a4.1.1, a4.1.2.1, (v31, a4.1.2.2.2)), a4.2)).2.2, a4.1.2.2.2)), a4.2)).length := by first | omega | (simp; done)
  rw [z0]
  exact g0 (R93_W_b77 nr ((F114_W_b77 v31 a0_o a0_n v32 v33 v36 ((a4.1.1, a4.1.2.1, (v31, a4.1.2.2.2)), a4.2)).2.2) a0_o a0_n v32 (F114_W_b77 v31 a0_o a0_n v32 v33 v36 ((a4.1.1, a4.1.2.1, (v31, a4.1.2.2.2)), a4.2)).1 v34 ((a4.1.1, a4.1.2.1, ((F114_W_b77 v31 a0_o a0_n v32 v33 v36 ((a4.1.1, a4.1.2.1, (v31, a4.1.2.2.2)), a4.2)).2.2, a4.1.2.2.2)), a4.2)) (W ((F114_W_b77 v31 a0_o a0_n v32 v33 v36 ((a4.1.1, a4.1.2.1, (v31, a4.1.2.2.2)), a4.2)).1 + 1)) v33 v34 (decide (((W ((F114_W_b77 v31 a0_o a0_n v32 v33 v36 ((a4.1.1, a4.1.2.1, (v31, a4.1.2.2.2)), a4.2)).1 - v32)) : Int) ≥ (W (Int.tdiv v35 8)))) ((F114_W_b77 v31 a0_o a0_n v32 v33 v36 ((a4.1.1, a4.1.2.1, (v31, a4.1.2.2.2)), a4.2)).2.1) (by and_intros <;> (try simp only [Lt]) <;> first | omega | assumption | exact hi.2.1 | exact hi.2.2.1 | exact InR.swap hi.2.1 (by omega) (by omega) | exact InR.swap hr (by omega) (by omega) | exact hbk2 | exact hrv2 | exact hpi2 | exact hpe3 | exact hpa3 | exact hrc1b | exact hrc2b) (by (try simp only [Ls]); omega)
 | false =>
  have q0 := odf h0
  have e := Eq.refl (S93_W_b77_j20 (R93_W_b77 nr) a0 a0_o a0_n a1 a2 a3 a4 (v31, v32, v33, v34, v35, v36)); conv at e => rhs; simp only [S93_W_b77_j20, h0, cdb]
  rw [e]
  refine ba (t0 ++ [.d h0, .c [0, 1, 2, 3] (by have q := (ihr ((F114_W_b77 v31 a0_o a0_n v32 v33 v36 ((a4.1.1, a4.1.2.1, (v31, a4.1.2.2.2)), a4.2)).2.2) a0_o a0_n (W ((F114_W_b77 v31 a0_o a0_n v32 v33 v36 ((a4.1.1, a4.1.2.1, (v31, a4.1.2.2.2)), a4.2)).1 + 1)) v33 v34 ((a4.1.1, a4.1.2.1, ((F114_W_b77 v31 a0_o a0_n v32 v33 v36 ((a4.1.1, a4.1.2.1, (v31, a4.1.2.2.2)), a4.2)).2.2, a4.1.2.2.2)), a4.2) (by (try simp only [Lt]); omega) (by (try simp only [Lt]); omega) (by (try simp only [Lt]); omega) (by (try simp only [Lt]); omega) (by omega) hpa3 (by omega) (by omega)); (try dsimp only at q); (try rw [show List.length (α := Int) (F114_W_b77 v31 a0_o a0_n v32 v33 v36 ((a4.1.1, a4.1.2.1, (v31, a4.1.2.2.2)), a4.2)).2.2 = v31.length from by first | simp; done | omega] at q); exact q)]) [] [0, 1, 2, 3, 4, 10, 11] [] hcx (m := n0) B93_W_b77_0 (K93_W_b77_0) (st93_W_b77_0 nr a0 a0_o a0_n a1 a2 a3 a4 (flat c3 (R93_W_b77 nr ((F114_W_b77 v31 a0_o a0_n v32 v33 v36 ((a4.1.1, a4.1.2.1, (v31, a4.1.2.2.2)), a4.2)).2.2) a0_o a0_n (W ((F114_W_b77 v31 a0_o a0_n v32 v33 v36 ((a4.1.1, a4.1.2.1, (v31, a4.1.2.2.2)), a4.2)).1 + 1)) v33 v34 ((a4.1.1, a4.1.2.1, ((F114_W_b77 v31 a0_o a0_n v32 v33 v36 ((a4.1.1, a4.1.2.1, (v31, a4.1.2.2.2)), a4.2)).2.2, a4.1.2.2.2)), a4.2))) (v31.length) v32 ((F114_W_b77 v31 a0_o a0_n v32 v33 v36 ((a4.1.1, a4.1.2.1, (v31, a4.1.2.2.2)), a4.2)).1) v34 (decide (((W (v33 - (F114_W_b77 v31 a0_o a0_n v32 v33 v36 ((a4.1.1, a4.1.2.1, (v31, a4.1.2.2.2)), a4.2)).1)) : Int) ≥ (W (Int.tdiv v35 8)))) ((F114_W_b77 v31 a0_o a0_n v32 v33 v36 ((a4.1.1, a4.1.2.1, (v31, a4.1.2.2.2)), a4.2)).2.1)) (by kernel_rfl) ?_
  have z0 : v31.length = (R93_W_b77 nr ((F114_W_b77 v31 a0_o a0_n v32 v33 v36 ((a4.1.1, a4.1.2.1, (v31, a4.1.2.2.2)), a4.2)).2.2) a0_o a0_n (W ((F114_W_b77 v31 a0_o a0_n v32 v33 v36 ((a4.1.1, a4.1.2.1, (v31, a4.1.2.2.2)), a4.2)).1 + 1)) v33 v34 ((a4.1.1, a4.1.2.1, ((F114_W_b77 v31 a0_o a0_n v32 v33 v36 ((a4.1.1, a4.1.2.1, (v31, a4.1.2.2.2)), a4.2)).2.2, a4.1.2.2.2)), a4.2)).length := by first | omega | (simp; done)
  rw [z0]
  exact g0 (R93_W_b77 nr ((F114_W_b77 v31 a0_o a0_n v32 v33 v36 ((a4.1.1, a4.1.2.1, (v31, a4.1.2.2.2)), a4.2)).2.2) a0_o a0_n (W ((F114_W_b77 v31 a0_o a0_n v32 v33 v36 ((a4.1.1, a4.1.2.1, (v31, a4.1.2.2.2)), a4.2)).1 + 1)) v33 v34 ((a4.1.1, a4.1.2.1, ((F114_W_b77 v31 a0_o a0_n v32 v33 v36 ((a4.1.1, a4.1.2.1, (v31, a4.1.2.2.2)), a4.2)).2.2, a4.1.2.2.2)), a4.2)) v32 ((F114_W_b77 v31 a0_o a0_n v32 v33 v36 ((a4.1.1, a4.1.2.1, (v31, a4.1.2.2.2)), a4.2)).1) v34 (decide (((W (v33 - (F114_W_b77 v31 a0_o a0_n v32 v33 v36 ((a4.1.1, a4.1.2.1, (v31, a4.1.2.2.2)), a4.2)).1)) : Int) ≥ (W (Int.tdiv v35 8)))) ((F114_W_b77 v31 a0_o a0_n v32 v33 v36 ((a4.1.1, a4.1.2.1, (v31, a4.1.2.2.2)), a4.2)).2.1) (by and_intros <;> (try simp only [Lt]) <;> first | omega | assumption | exact hi.2.1 | exact hi.2.2.1 | exact InR.swap hi.2.1 (by omega) (by omega) | exact InR.swap hr (by omega) (by omega) | exact hbk2 | exact hrv2 | exact hpi2 | exact hpe3 | exact hpa3 | exact hrc1b | exact hrc2b) (by (try simp only [Ls]); omega)

theorem L93_W_b77_j17 (nr : Nat) (a0 : List (Int)) (a0_o : Nat) (a0_n : Nat) (a1 : Int) (a2 : Int) (a3 : Int) (a4 : TyB × Int) (l0 : a0.length ≤ 9223372036854775807) (l4_1_1 : a4.1.1.length ≤ 9223372036854775807) (l4_1_2_2_1 : a4.1.2.2.1.length ≤ 9223372036854775807) (l4_1_2_2_2 : a4.1.2.2.2.length ≤ 9223372036854775807) (hw : a0_o + a0_n ≤ a0.length ∧ a0.length ≤ 1048576) (hr : InR a4.1.1.length a0) (hab : 0 ≤ a1 ∧ a1 ≤ a2 ∧ a2 ≤ ↑a0_n) (hlt : toNat (a2 - a1) < nr + 1) (ihr : ∀ (a0 : List (Int)) (a0_o : Nat) (a0_n : Nat) (a1 : Int) (a2 : Int) (a3 : Int) (a4 : TyB × Int) (l0 : a0.length ≤ 9223372036854775807) (l4_1_1 : a4.1.1.length ≤ 9223372036854775807) (l4_1_2_2_1 : a4.1.2.2.1.length ≤ 9223372036854775807) (l4_1_2_2_2 : a4.1.2.2.2.length ≤ 9223372036854775807) (hw : a0_o + a0_n ≤ a0.length ∧ a0.length ≤ 1048576) (hr : InR a4.1.1.length a0) (hab : 0 ≤ a1 ∧ a1 ≤ a2 ∧ a2 ≤ ↑a0_n), toNat (a2 - a1) < nr → Con Try.prog 93 [(.s 0 (0 + a0_o * 1) a0_n 1), (iv a1), (iv a2), (iv a3), (.f 1000077 [(.a [(.p 1 0), (iv a4.2)])])] [(.live true true (flat c3 a0)), (.live false false [(.s 2 0 a4.1.1.length 10), (iv a4.1.2.1), (.s 0 0 a0.length 1), (.s 3 0 a4.1.2.2.2.length 8)]), (.live false true (flat c81 a4.1.1)), (.live false true (flat c40 a4.1.2.2.2))] (.t []) [] [(.live true true (flat c3 (R93_W_b77 nr a0 a0_o a0_n a1 a2 a3 a4))), .un, .un, .un]) {cx : Cx} (hcx : cx.base = 4)
   (n0 : Nat) (g0 : ∀ (v1 : List (Int)) (v2 v3 v4 : Int) (v5 : Bool) (v6 : Bool), (v1.length = a0.length) ∧ (InR a4.1.1.length v1) ∧ (a1 ≤ v2) ∧ (v2 ≤ v3) ∧ (v3 ≤ a2) → toNat (v3 - v2) < n0 → Aw.Good Try.prog none 9 (bodyPost Try.prog Try.f93 (RR cx (.t []) [] [(.live true true (flat c3 (loopF (S93_W_b77_0 (R93_W_b77 nr) a0 a0_o a0_n a1 a2 a3 a4) n0 (v1, v2, v3, v4, v5, v6)))), .un, .un, .un])) cx [] (.l B93_W_b77_0 n0 :: K93_W_b77_0) (st93_W_b77_0 nr a0 a0_o a0_n a1 a2 a3 a4 (flat c3 v1) v1.length v2 v3 v4 v5 v6)) (v23 : List (Int)) (v24 v25 v26 : Int) (v27 : Bool) (v28 : Bool) (v29 v30 : Int) : (v23.length = a0.length) ∧ (InR a4.1.1.length v23) ∧ (a1 ≤ v24) ∧ (v24 ≤ v25) ∧ (v25 ≤ a2) ∧ (v29 = v25 - v24) ∧ (13 ≤ v29) ∧ (v24 ≤ v30) ∧ (v30 < v25) ∧ ((v23.length = a0.length)) ∧ ((InR a4.1.1.length v23)) ∧ ((a1 ≤ v24)) ∧ ((v24 ≤ v25)) ∧ ((v25 ≤ a2)) ∧ (toNat (v25 - v24) < n0 + 1) → Aw.Good Try.prog none 9 (bodyPost Try.prog Try.f93 (RR cx (.t []) [] [(.live true true (flat c3 (thenF (S93_W_b77_0 (R93_W_b77 nr) a0 a0_o a0_n a1 a2 a3 a4) n0 (S93_W_b77_j17 (R93_W_b77 nr) a0 a0_o a0_n a1 a2 a3 a4 (v23, v24, v25, v26, v27, v28, v29, v30))))), .un, .un, .un])) cx [] (.c B93_W_b77_j17 :: K93_W_b77_j17 n0) (st93_W_b77_j17 nr a0 a0_o a0_n a1 a2 a3 a4 (flat c3 v23) v23.length v24 v25 v26 v27 v28 v29 v30) := by
 intro hi
 have hpe := peq_f (N := a4.1.1.length) (v := v23) (o := a0_o) (n := a0_n) (a := v24) (b := v25) (c := ((a4.1.1, a4.1.2.1, (v23, a4.1.2.2.2)), a4.2)) (q := v30) (by omega) hi.2.1 (by omega)
 obtain ⟨hpe1, hpe2, hpe3⟩ := hpe
 have hw_1 := W_eq (n := v24 - 1) (by omega) (by omega)
 cases h0 : (decide ((v24 : Int) > 0)) with
 | true =>
  have q0 := odt h0
  let t1 : List (St Try.prog) := [.d h0, .i (W (v24 - 1)) a0_n, stLw c3_len v23 a0_o (W (v24 - 1)) 0 1, .i v30 a0_n, stLw c3_len v23 a0_o v30 0 1, .c [1, 2, 0, 3] (C77 ((a4.1.1, a4.1.2.1, (v23, a4.1.2.2.2)), a4.2) (v23.getD (a0_o + toNat (W (v24 - 1))) default) (v23.getD (a0_o + toNat v30) default) (by (try simp only [Lt]); omega) (by (try simp only [Lt]); omega) (by (try simp only [Lt]); omega) (hi.2.1.at (by omega)) (hi.2.1.at (by omega)))]
  cases h1 : (!(decide (((F77 ((a4.1.1, a4.1.2.1, (v23, a4.1.2.2.2)), a4.2) (v23.getD (a0_o + toNat (W (v24 - 1))) default) (v23.getD (a0_o + toNat v30) default)) : Int) < 0))) with
  | true =>
   have e := Eq.refl (S93_W_b77_j17 (R93_W_b77 nr) a0 a0_o a0_n a1 a2 a3 a4 (v23, v24, v25, v26, v27, v28, v29, v30)); conv at e => rhs; simp only [S93_W_b77_j17, h0, h1, cdb]
   rw [e]
   refine ba (t1 ++ [.d h1, .c [0, 1, 2, 3] (C113_W_b77 v23 a0_o a0_n v24 v25 v30 ((a4.1.1, a4.1.2.1, (v23, a4.1.2.2.2)), a4.2) (by (try simp only [Lt]); omega) (by (try simp only [Lt]); omega) (by (try simp only [Lt]); omega) (by (try simp only [Lt]); omega) (by omega) hi.2.1 (by omega))]) [] [0, 1, 2, 3, 4, 10, 11] [] hcx (m := n0) B93_W_b77_0 (K93_W_b77_0) (st93_W_b77_0 nr a0 a0_o a0_n a1 a2 a3 a4 (flat c3 (F113_W_b77 v23 a0_o a0_n v24 v25 v30 ((a4.1.1, a4.1.2.1, (v23, a4.1.2.2.2)), a4.2)).2) (v23.length) ((F113_W_b77 v23 a0_o a0_n v24 v25 v30 ((a4.1.1, a4.1.2.1, (v23, a4.1.2.2.2)), a4.2)).1) v25 v26 v27 v28) (by kernel_rfl) ?_
   have z0 : v23.length = (F113_W_b77 v23 a0_o a0_n v24 v25 v30 ((a4.1.1, a4.1.2.1, (v23, a4.1.2.2.2)), a4.2)).2.length := by first | omega | (simp; done)
   rw [z0]
   exact g0 ((F113_W_b77 v23 a0_o a0_n v24 v25 v30 ((a4.1.1, a4.1.2.1, (v23, a4.1.2.2.2)), a4.2)).2) ((F113_W_b77 v23 a0_o a0_n v24 v25 v30 ((a4.1.1, a4.1.2.1, (v23, a4.1.2.2.2)), a4.2)).1) v25 v26 v27 v28 (by and_intros <;> (try simp only [Lt]) <;> first | omega | assumption | exact hi.2.1 | exact hi.2.2.1 | exact InR.swap hi.2.1 (by omega) (by omega) | exact InR.swap hr (by omega) (by omega) | exact hbk2 | exact hrv2 | exact hpi2 | exact hpe3 | exact hpa3 | exact hrc1b | exact hrc2b) (by (try simp only [Ls]); omega)
  | false =>
   have e := Eq.refl (S93_W_b77_j17 (R93_W_b77 nr) a0 a0_o a0_n a1 a2 a3 a4 (v23, v24, v25, v26, v27, v28, v29, v30)); conv at e => rhs; simp only [S93_W_b77_j17, h0, h1, cdb]
   rw [e]
   refine ga (t1 ++ [.d h1, .z 20]) [] [0, 1, 2, 3, 4, 12, 13] [] hcx B93_W_b77_j20 (K93_W_b77_j20 n0) (st93_W_b77_j20 nr a0 a0_o a0_n a1 a2 a3 a4 (flat c3 v23) (v23.length) v24 v25 v26 v29 v30) (by kernel_rfl) ?_
   exact L93_W_b77_j20 nr a0 a0_o a0_n a1 a2 a3 a4 l0 l4_1_1 l4_1_2_2_1 l4_1_2_2_2 hw hr hab hlt ihr hcx n0 g0 v23 v24 v25 v26 v29 v30 (by and_intros <;> (try simp only [Lt]) <;> first | omega | assumption | exact hi.2.1 | exact hi.2.2.1 | exact InR.swap hi.2.1 (by omega) (by omega) | exact InR.swap hr (by omega) (by omega) | exact hbk2 | exact hrv2 | exact hpi2 | exact hpe3 | exact hpa3 | exact hrc1b | exact hrc2b)
 | false =>
  have q0 := odf h0
  have e := Eq.refl (S93_W_b77_j17 (R93_W_b77 nr) a0 a0_o a0_n a1 a2 a3 a4 (v23, v24, v25, v26, v27, v28, v29, v30)); conv at e => rhs; simp only [S93_W_b77_j17, h0, cdb]
  rw [e]
  refine ga [.d h0, .z 20] [] [0, 1, 2, 3, 4, 12, 13] [] hcx B93_W_b77_j20 (K93_W_b77_j20 n0) (st93_W_b77_j20 nr a0 a0_o a0_n a1 a2 a3 a4 (flat c3 v23) (v23.length) v24 v25 v26 v29 v30) (by kernel_rfl) ?_
  exact L93_W_b77_j20 nr a0 a0_o a0_n a1 a2 a3 a4 l0 l4_1_1 l4_1_2_2_1 l4_1_2_2_2 hw hr hab hlt ihr hcx n0 g0 v23 v24 v25 v26 v29 v30 (by and_intros <;> (try simp only [Lt]) <;> first | omega | assumption | exact hi.2.1 | exact hi.2.2.1 | exact InR.swap hi.2.1 (by omega) (by omega) | exact InR.swap hr (by omega) (by omega) | exact hbk2 | exact hrv2 | exact hpi2 | exact hpe3 | exact hpa3 | exact hrc1b | exact hrc2b)

theorem L93_W_b77_j15 (nr : Nat) (a0 : List (Int)) (a0_o : Nat) (a0_n : Nat) (a1 : Int) (a2 : Int) (a3 : Int) (a4 : TyB × Int) (l0 : a0.length ≤ 9223372036854775807) (l4_1_1 : a4.1.1.length ≤ 9223372036854775807) (l4_1_2_2_1 : a4.1.2.2.1.length ≤ 9223372036854775807) (l4_1_2_2_2 : a4.1.2.2.2.length ≤ 9223372036854775807) (hw : a0_o + a0_n ≤ a0.length ∧ a0.length ≤ 1048576) (hr : InR a4.1.1.length a0) (hab : 0 ≤ a1 ∧ a1 ≤ a2 ∧ a2 ≤ ↑a0_n) (hlt : toNat (a2 - a1) < nr + 1) (ihr : ∀ (a0 : List (Int)) (a0_o : Nat) (a0_n : Nat) (a1 : Int) (a2 : Int) (a3 : Int) (a4 : TyB × Int) (l0 : a0.length ≤ 9223372036854775807) (l4_1_1 : a4.1.1.length ≤ 9223372036854775807) (l4_1_2_2_1 : a4.1.2.2.1.length ≤ 9223372036854775807) (l4_1_2_2_2 : a4.1.2.2.2.length ≤ 9223372036854775807) (hw : a0_o + a0_n ≤ a0.length ∧ a0.length ≤ 1048576) (hr : InR a4.1.1.length a0) (hab : 0 ≤ a1 ∧ a1 ≤ a2 ∧ a2 ≤ ↑a0_n), toNat (a2 - a1) < nr → Con Try.prog 93 [(.s 0 (0 + a0_o * 1) a0_n 1), (iv a1), (iv a2), (iv a3), (.f 1000077 [(.a [(.p 1 0), (iv a4.2)])])] [(.live true true (flat c3 a0)), (.live false false [(.s 2 0 a4.1.1.length 10), (iv a4.1.2.1), (.s 0 0 a0.length 1), (.s 3 0 a4.1.2.2.2.length 8)]), (.live false true (flat c81 a4.1.1)), (.live false true (flat c40 a4.1.2.2.2))] (.t []) [] [(.live true true (flat c3 (R93_W_b77 nr a0 a0_o a0_n a1 a2 a3 a4))), .un, .un, .un]) {cx : Cx} (hcx : cx.base = 4)
   (n0 : Nat) (g0 : ∀ (v1 : List (Int)) (v2 v3 v4 : Int) (v5 : Bool) (v6 : Bool), (v1.length = a0.length) ∧ (InR a4.1.1.length v1) ∧ (a1 ≤ v2) ∧ (v2 ≤ v3) ∧ (v3 ≤ a2) → toNat (v3 - v2) < n0 → Aw.Good Try.prog none 9 (bodyPost Try.prog Try.f93 (RR cx (.t []) [] [(.live true true (flat c3 (loopF (S93_W_b77_0 (R93_W_b77 nr) a0 a0_o a0_n a1 a2 a3 a4) n0 (v1, v2, v3, v4, v5, v6)))), .un, .un, .un])) cx [] (.l B93_W_b77_0 n0 :: K93_W_b77_0) (st93_W_b77_0 nr a0 a0_o a0_n a1 a2 a3 a4 (flat c3 v1) v1.length v2 v3 v4 v5 v6)) (v14 : List (Int)) (v15 v16 v17 : Int) (v18 : Bool) (v19 : Bool) (v20 v21 v22 : Int) : (v14.length = a0.length) ∧ (InR a4.1.1.length v14) ∧ (a1 ≤ v15) ∧ (v15 ≤ v16) ∧ (v16 ≤ a2) ∧ (v20 = v16 - v15) ∧ (13 ≤ v20) ∧ (v15 ≤ v21) ∧ (v21 < v16) ∧ ((v14.length = a0.length)) ∧ ((InR a4.1.1.length v14)) ∧ ((a1 ≤ v15)) ∧ ((v15 ≤ v16)) ∧ ((v16 ≤ a2)) ∧ (toNat (v16 - v15) < n0 + 1) → Aw.Good Try.prog none 9 (bodyPost Try.prog Try.f93 (RR cx (.t []) [] [(.live true true (flat c3 (thenF (S93_W_b77_0 (R93_W_b77 nr) a0 a0_o a0_n a1 a2 a3 a4) n0 (S93_W_b77_j15 (R93_W_b77 nr) a0 a0_o a0_n a1 a2 a3 a4 (v14, v15, v16, v17, v18, v19, v20, v21, v22))))), .un, .un, .un])) cx [] (.c B93_W_b77_j15 :: K93_W_b77_j15 n0) (st93_W_b77_j15 nr a0 a0_o a0_n a1 a2 a3 a4 (flat c3 v14) v14.length v15 v16 v17 v18 v19 v20 v21 v22) := by
 intro hi
 have hpi := pis_f (N := a4.1.1.length) (v := v14) (o := a0_o) (n := a0_n) (a := v15) (b := v16) (c := ((a4.1.1, a4.1.2.1, (v14, a4.1.2.2.2)), a4.2)) (by omega) hi.2.1 (by omega)
 obtain ⟨hpi1, hpi2⟩ := hpi
 rcases bool_tf v18 with h0 | h0
 · skip
   let t1 : List (St Try.prog) := [.d h0]
   rcases bool_tf v19 with h1 | h1
   · skip
     let t2 : List (St Try.prog) := (t1 ++ [.d h1])
     cases h2 : ((v22 : Int) == 1) with
     | true =>
      have q2 := eq_of_beq h2
      let t3 : List (St Try.prog) := (t2 ++ [.d h2, .c [0, 1, 2, 3] (C112_W_b77 v14 a0_o a0_n v15 v16 ((a4.1.1, a4.1.2.1, (v14, a4.1.2.2.2)), a4.2) (by (try simp only [Lt]); omega) (by (try simp only [Lt]); omega) (by (try simp only [Lt]); omega) (by (try simp only [Lt]); omega) (by omega) hi.2.1 (by omega))])
      cases h3 : (F112_W_b77 v14 a0_o a0_n v15 v16 ((a4.1.1, a4.1.2.1, (v14, a4.1.2.2.2)), a4.2)).1 with
      | true =>
       have e := Eq.refl (S93_W_b77_j15 (R93_W_b77 nr) a0 a0_o a0_n a1 a2 a3 a4 (v14, v15, v16, v17, v18, v19, v20, v21, v22)); conv at e => rhs; simp only [S93_W_b77_j15, h0, h1, h2, h3, cdb]
       rw [e]
       try dsimp only [thenF]
       try dsimp only
       try rw [show List.length (α := Int) (F112_W_b77 v14 a0_o a0_n v15 v16 ((a4.1.1, a4.1.2.1, (v14, a4.1.2.2.2)), a4.2)).2 = v14.length from by first | simp; done | omega]
       exact rtm (t3 ++ [.d h3]) [] [0] [] hcx (by kernel_rfl)
      | false =>
       have e : S93_W_b77_j15 (R93_W_b77 nr) a0 a0_o a0_n a1 a2 a3 a4 (v14, v15, v16, v17, v18, v19, v20, v21, v22) = (S93_W_b77_j17 (R93_W_b77 nr) a0 a0_o a0_n a1 a2 a3 a4 ((F112_W_b77 v14 a0_o a0_n v15 v16 ((a4.1.1, a4.1.2.1, (v14, a4.1.2.2.2)), a4.2)).2, v15, v16, v17, v18, v19, v20, v21)) := by simp only [S93_W_b77_j15, h0, h1, h2, h3, cdb]
       rw [e]
       refine ga (t3 ++ [.d h3, .z 17]) [] [0, 1, 2, 3, 4, 10, 11, 12, 13] [] hcx B93_W_b77_j17 (K93_W_b77_j17 n0) (st93_W_b77_j17 nr a0 a0_o a0_n a1 a2 a3 a4 (flat c3 (F112_W_b77 v14 a0_o a0_n v15 v16 ((a4.1.1, a4.1.2.1, (v14, a4.1.2.2.2)), a4.2)).2) (v14.length) v15 v16 v17 v18 v19 v20 v21) (by kernel_rfl) ?_
       have z0 : v14.length = (F112_W_b77 v14 a0_o a0_n v15 v16 ((a4.1.1, a4.1.2.1, (v14, a4.1.2.2.2)), a4.2)).2.length := by first | omega | (simp; done)
       rw [z0]
       exact L93_W_b77_j17 nr a0 a0_o a0_n a1 a2 a3 a4 l0 l4_1_1 l4_1_2_2_1 l4_1_2_2_2 hw hr hab hlt ihr hcx n0 g0 ((F112_W_b77 v14 a0_o a0_n v15 v16 ((a4.1.1, a4.1.2.1, (v14, a4.1.2.2.2)), a4.2)).2) v15 v16 v17 v18 v19 v20 v21 (by and_intros <;> (try simp only [Lt]) <;> first | omega | assumption | exact hi.2.1 | exact hi.2.2.1 | exact InR.swap hi.2.1 (by omega) (by omega) | exact InR.swap hr (by omega) (by omega) | exact hbk2 | exact hrv2 | exact hpi2 | exact hpe3 | exact hpa3 | exact hrc1b | exact hrc2b)
     | false =>
      have q2 := ne_of_beq_false h2
      have e : S93_W_b77_j15 (R93_W_b77 nr) a0 a0_o a0_n a1 a2 a3 a4 (v14, v15, v16, v17, v18, v19, v20, v21, v22) = (S93_W_b77_j17 (R93_W_b77 nr) a0 a0_o a0_n a1 a2 a3 a4 (v14, v15, v16, v17, v18, v19, v20, v21)) := by simp only [S93_W_b77_j15, h0, h1, h2, cdb]
      rw [e]
      refine ga (t2 ++ [.d h2, .z 17]) [] [0, 1, 2, 3, 4, 10, 11, 12, 13] [] hcx B93_W_b77_j17 (K93_W_b77_j17 n0) (st93_W_b77_j17 nr a0 a0_o a0_n a1 a2 a3 a4 (flat c3 v14) (v14.length) v15 v16 v17 v18 v19 v20 v21) (by kernel_rfl) ?_
      exact L93_W_b77_j17 nr a0 a0_o a0_n a1 a2 a3 a4 l0 l4_1_1 l4_1_2_2_1 l4_1_2_2_2 hw hr hab hlt ihr hcx n0 g0 v14 v15 v16 v17 v18 v19 v20 v21 (by and_intros <;> (try simp only [Lt]) <;> first | omega | assumption | exact hi.2.1 | exact hi.2.2.1 | exact InR.swap hi.2.1 (by omega) (by omega) | exact InR.swap hr (by omega) (by omega) | exact hbk2 | exact hrv2 | exact hpi2 | exact hpe3 | exact hpa3 | exact hrc1b | exact hrc2b)
   · skip
     have e : S93_W_b77_j15 (R93_W_b77 nr) a0 a0_o a0_n a1 a2 a3 a4 (v14, v15, v16, v17, v18, v19, v20, v21, v22) = (S93_W_b77_j17 (R93_W_b77 nr) a0 a0_o a0_n a1 a2 a3 a4 (v14, v15, v16, v17, v18, v19, v20, v21)) := by simp only [S93_W_b77_j15, h0, h1, cdb]
     rw [e]
     refine ga (t1 ++ [.d h1, .z 17]) [] [0, 1, 2, 3, 4, 10, 11, 12, 13] [] hcx B93_W_b77_j17 (K93_W_b77_j17 n0) (st93_W_b77_j17 nr a0 a0_o a0_n a1 a2 a3 a4 (flat c3 v14) (v14.length) v15 v16 v17 v18 v19 v20 v21) (by kernel_rfl) ?_
     exact L93_W_b77_j17 nr a0 a0_o a0_n a1 a2 a3 a4 l0 l4_1_1 l4_1_2_2_1 l4_1_2_2_2 hw hr hab hlt ihr hcx n0 g0 v14 v15 v16 v17 v18 v19 v20 v21 (by and_intros <;> (try simp only [Lt]) <;> first | omega | assumption | exact hi.2.1 | exact hi.2.2.1 | exact InR.swap hi.2.1 (by omega) (by omega) | exact InR.swap hr (by omega) (by omega) | exact hbk2 | exact hrv2 | exact hpi2 | exact hpe3 | exact hpa3 | exact hrc1b | exact hrc2b)
 · skip
   have e : S93_W_b77_j15 (R93_W_b77 nr) a0 a0_o a0_n a1 a2 a3 a4 (v14, v15, v16, v17, v18, v19, v20, v21, v22) = (S93_W_b77_j17 (R93_W_b77 nr) a0 a0_o a0_n a1 a2 a3 a4 (v14, v15, v16, v17, v18, v19, v20, v21)) := by simp only [S93_W_b77_j15, h0, cdb]
   rw [e]
   refine ga [.d h0, .z 17] [] [0, 1, 2, 3, 4, 10, 11, 12, 13] [] hcx B93_W_b77_j17 (K93_W_b77_j17 n0) (st93_W_b77_j17 nr a0 a0_o a0_n a1 a2 a3 a4 (flat c3 v14) (v14.length) v15 v16 v17 v18 v19 v20 v21) (by kernel_rfl) ?_
   exact L93_W_b77_j17 nr a0 a0_o a0_n a1 a2 a3 a4 l0 l4_1_1 l4_1_2_2_1 l4_1_2_2_2 hw hr hab hlt ihr hcx n0 g0 v14 v15 v16 v17 v18 v19 v20 v21 (by and_intros <;> (try simp only [Lt]) <;> first | omega | assumption | exact hi.2.1 | exact hi.2.2.1 | exact InR.swap hi.2.1 (by omega) (by omega) | exact InR.swap hr (by omega) (by omega) | exact hbk2 | exact hrv2 | exact hpi2 | exact hpe3 | exact hpa3 | exact hrc1b | exact hrc2b)

theorem L93_W_b77_j10 (nr : Nat) (a0 : List (Int)) (a0_o : Nat) (a0_n : Nat) (a1 : Int) (a2 : Int) (a3 : Int) (a4 : TyB × Int) (l0 : a0.length ≤ 9223372036854775807) (l4_1_1 : a4.1.1.length ≤ 9223372036854775807) (l4_1_2_2_1 : a4.1.2.2.1.length ≤ 9223372036854775807) (l4_1_2_2_2 : a4.1.2.2.2.length ≤ 9223372036854775807) (hw : a0_o + a0_n ≤ a0.length ∧ a0.length ≤ 1048576) (hr : InR a4.1.1.length a0) (hab : 0 ≤ a1 ∧ a1 ≤ a2 ∧ a2 ≤ ↑a0_n) (hlt : toNat (a2 - a1) < nr + 1) (ihr : ∀ (a0 : List (Int)) (a0_o : Nat) (a0_n : Nat) (a1 : Int) (a2 : Int) (a3 : Int) (a4 : TyB × Int) (l0 : a0.length ≤ 9223372036854775807) (l4_1_1 : a4.1.1.length ≤ 9223372036854775807) (l4_1_2_2_1 : a4.1.2.2.1.length ≤ 9223372036854775807) (l4_1_2_2_2 : a4.1.2.2.2.length ≤ 9223372036854775807) (hw : a0_o + a0_n ≤ a0.length ∧ a0.length ≤ 1048576) (hr : InR a4.1.1.length a0) (hab : 0 ≤ a1 ∧ a1 ≤ a2 ∧ a2 ≤ ↑a0_n), toNat (a2 - a1) < nr → Con Try.prog 93 [(.s 0 (0 + a0_o * 1) a0_n 1), (iv a1), (iv a2), (iv a3), (.f 1000077 [(.a [(.p 1 0), (iv a4.2)])])] [(.live true true (flat c3 a0)), (.live false false [(.s 2 0 a4.1.1.length 10), (iv a4.1.2.1), (.s 0 0 a0.length 1), (.s 3 0 a4.1.2.2.2.length 8)]), (.live false true (flat c81 a4.1.1)), (.live false true (flat c40 a4.1.2.2.2))] (.t []) [] [(.live true true (flat c3 (R93_W_b77 nr a0 a0_o a0_n a1 a2 a3 a4))), .un, .un, .un]) {cx : Cx} (hcx : cx.base = 4)
   (n0 : Nat) (g0 : ∀ (v1 : List (Int)) (v2 v3 v4 : Int) (v5 : Bool) (v6 : Bool), (v1.length = a0.length) ∧ (InR a4.1.1.length v1) ∧ (a1 ≤ v2) ∧ (v2 ≤ v3) ∧ (v3 ≤ a2) → toNat (v3 - v2) < n0 → Aw.Good Try.prog none 9 (bodyPost Try.prog Try.f93 (RR cx (.t []) [] [(.live true true (flat c3 (loopF (S93_W_b77_0 (R93_W_b77 nr) a0 a0_o a0_n a1 a2 a3 a4) n0 (v1, v2, v3, v4, v5, v6)))), .un, .un, .un])) cx [] (.l B93_W_b77_0 n0 :: K93_W_b77_0) (st93_W_b77_0 nr a0 a0_o a0_n a1 a2 a3 a4 (flat c3 v1) v1.length v2 v3 v4 v5 v6)) (v7 : List (Int)) (v8 v9 v10 : Int) (v11 : Bool) (v12 : Bool) (v13 : Int) : (v7.length = a0.length) ∧ (InR a4.1.1.length v7) ∧ (a1 ≤ v8) ∧ (v8 ≤ v9) ∧ (v9 ≤ a2) ∧ (v13 = v9 - v8) ∧ (13 ≤ v13) ∧ ((v7.length = a0.length)) ∧ ((InR a4.1.1.length v7)) ∧ ((a1 ≤ v8)) ∧ ((v8 ≤ v9)) ∧ ((v9 ≤ a2)) ∧ (toNat (v9 - v8) < n0 + 1) → Aw.Good Try.prog none 9 (bodyPost Try.prog Try.f93 (RR cx (.t []) [] [(.live true true (flat c3 (thenF (S93_W_b77_0 (R93_W_b77 nr) a0 a0_o a0_n a1 a2 a3 a4) n0 (S93_W_b77_j10 (R93_W_b77 nr) a0 a0_o a0_n a1 a2 a3 a4 (v7, v8, v9, v10, v11, v12, v13))))), .un, .un, .un])) cx [] (.c B93_W_b77_j10 :: K93_W_b77_j10 n0) (st93_W_b77_j10 nr a0 a0_o a0_n a1 a2 a3 a4 (flat c3 v7) v7.length v8 v9 v10 v11 v12 v13) := by
 intro hi
 have hrv := rvr_f (N := a4.1.1.length) (v := v7) (o := a0_o) (n := a0_n) (a := v8) (b := v9) (c := ((a4.1.1, a4.1.2.1, (v7, a4.1.2.2.2)), a4.2)) (by omega) hi.2.1 (by omega)
 obtain ⟨hrv1, hrv2⟩ := hrv
 have hcp := cpv_f (v := v7) (o := a0_o) (n := a0_n) (a := v8) (b := v9) (c := ((a4.1.1, a4.1.2.1, (v7, a4.1.2.2.2)), a4.2)) (by omega) (by omega)
 have hw_1 := W_eq (n := v9 - 1) (by omega) (by omega)
 have hw_2 := W_eq (n := (F110_W_b77 v7 a0_o a0_n v8 v9 ((a4.1.1, a4.1.2.1, (v7, a4.1.2.2.2)), a4.2)).1 - v8) (by omega) (by omega)
 have hw_3 := W_eq (n := (W (v9 - 1)) - (W ((F110_W_b77 v7 a0_o a0_n v8 v9 ((a4.1.1, a4.1.2.1, (v7, a4.1.2.2.2)), a4.2)).1 - v8))) (by omega) (by omega)
 let t0 : List (St Try.prog) := [.c [0, 1, 2, 3] (C110_W_b77 v7 a0_o a0_n v8 v9 ((a4.1.1, a4.1.2.1, (v7, a4.1.2.2.2)), a4.2) (by (try simp only [Lt]); omega) (by (try simp only [Lt]); omega) (by (try simp only [Lt]); omega) (by (try simp only [Lt]); omega) (by omega) hi.2.1 (by omega))]
 cases h0 : (((F110_W_b77 v7 a0_o a0_n v8 v9 ((a4.1.1, a4.1.2.1, (v7, a4.1.2.2.2)), a4.2)).2 : Int) == 2) with
 | true =>
  have q0 := eq_of_beq h0
  have e := Eq.refl (S93_W_b77_j10 (R93_W_b77 nr) a0 a0_o a0_n a1 a2 a3 a4 (v7, v8, v9, v10, v11, v12, v13)); conv at e => rhs; simp only [S93_W_b77_j10, h0, cdb]
  rw [e]
  refine ga (t0 ++ [.d h0, .c [0, 1, 2, 3] (C111_W_b77 v7 a0_o a0_n v8 v9 ((a4.1.1, a4.1.2.1, (v7, a4.1.2.2.2)), a4.2) (by (try simp only [Lt]); omega) (by (try simp only [Lt]); omega) (by (try simp only [Lt]); omega) (by (try simp only [Lt]); omega) (by omega) hi.2.1 (by omega)), .z 15]) [] [0, 1, 2, 3, 4, 10, 11, 12, 13, 14] [] hcx B93_W_b77_j15 (K93_W_b77_j15 n0) (st93_W_b77_j15 nr a0 a0_o a0_n a1 a2 a3 a4 (flat c3 (F111_W_b77 v7 a0_o a0_n v8 v9 ((a4.1.1, a4.1.2.1, (v7, a4.1.2.2.2)), a4.2))) (v7.length) v8 v9 v10 v11 v12 v13 (W ((W (v9 - 1)) - (W ((F110_W_b77 v7 a0_o a0_n v8 v9 ((a4.1.1, a4.1.2.1, (v7, a4.1.2.2.2)), a4.2)).1 - v8)))) 1) (by kernel_rfl) ?_
  have z0 : v7.length = (F111_W_b77 v7 a0_o a0_n v8 v9 ((a4.1.1, a4.1.2.1, (v7, a4.1.2.2.2)), a4.2)).length := by first | omega | (simp; done)
  rw [z0]
  exact L93_W_b77_j15 nr a0 a0_o a0_n a1 a2 a3 a4 l0 l4_1_1 l4_1_2_2_1 l4_1_2_2_2 hw hr hab hlt ihr hcx n0 g0 (F111_W_b77 v7 a0_o a0_n v8 v9 ((a4.1.1, a4.1.2.1, (v7, a4.1.2.2.2)), a4.2)) v8 v9 v10 v11 v12 v13 (W ((W (v9 - 1)) - (W ((F110_W_b77 v7 a0_o a0_n v8 v9 ((a4.1.1, a4.1.2.1, (v7, a4.1.2.2.2)), a4.2)).1 - v8)))) 1 (by and_intros <;> (try simp only [Lt]) <;> first | omega | assumption | exact hi.2.1 | exact hi.2.2.1 | exact InR.swap hi.2.1 (by omega) (by omega) | exact InR.swap hr (by omega) (by omega) | exact hbk2 | exact hrv2 | exact hpi2 | exact hpe3 | exact hpa3 | exact hrc1b | exact hrc2b)
 | false =>
  have q0 := ne_of_beq_false h0
  have e := Eq.refl (S93_W_b77_j10 (R93_W_b77 nr) a0 a0_o a0_n a1 a2 a3 a4 (v7, v8, v9, v10, v11, v12, v13)); conv at e => rhs; simp only [S93_W_b77_j10, h0, cdb]
  rw [e]
  refine ga (t0 ++ [.d h0, .z 15]) [] [0, 1, 2, 3, 4, 10, 11, 12, 13, 14] [] hcx B93_W_b77_j15 (K93_W_b77_j15 n0) (st93_W_b77_j15 nr a0 a0_o a0_n a1 a2 a3 a4 (flat c3 v7) (v7.length) v8 v9 v10 v11 v12 v13 ((F110_W_b77 v7 a0_o a0_n v8 v9 ((a4.1.1, a4.1.2.1, (v7, a4.1.2.2.2)), a4.2)).1) ((F110_W_b77 v7 a0_o a0_n v8 v9 ((a4.1.1, a4.1.2.1, (v7, a4.1.2.2.2)), a4.2)).2)) (by kernel_rfl) ?_
  exact L93_W_b77_j15 nr a0 a0_o a0_n a1 a2 a3 a4 l0 l4_1_1 l4_1_2_2_1 l4_1_2_2_2 hw hr hab hlt ihr hcx n0 g0 v7 v8 v9 v10 v11 v12 v13 ((F110_W_b77 v7 a0_o a0_n v8 v9 ((a4.1.1, a4.1.2.1, (v7, a4.1.2.2.2)), a4.2)).1) ((F110_W_b77 v7 a0_o a0_n v8 v9 ((a4.1.1, a4.1.2.1, (v7, a4.1.2.2.2)), a4.2)).2) (by and_intros <;> (try simp only [Lt]) <;> first | omega | assumption | exact hi.2.1 | exact hi.2.2.1 | exact InR.swap hi.2.1 (by omega) (by omega) | exact InR.swap hr (by omega) (by omega) | exact hbk2 | exact hrv2 | exact hpi2 | exact hpe3 | exact hpa3 | exact hrc1b | exact hrc2b)

theorem L93_W_b77_0 (nr : Nat) (a0 : List (Int)) (a0_o : Nat) (a0_n : Nat) (a1 : Int) (a2 : Int) (a3 : Int) (a4 : TyB × Int) (l0 : a0.length ≤ 9223372036854775807) (l4_1_1 : a4.1.1.length ≤ 9223372036854775807) (l4_1_2_2_1 : a4.1.2.2.1.length ≤ 9223372036854775807) (l4_1_2_2_2 : a4.1.2.2.2.length ≤ 9223372036854775807) (hw : a0_o + a0_n ≤ a0.length ∧ a0.length ≤ 1048576) (hr : InR a4.1.1.length a0) (hab : 0 ≤ a1 ∧ a1 ≤ a2 ∧ a2 ≤ ↑a0_n) (hlt : toNat (a2 - a1) < nr + 1) (ihr : ∀ (a0 : List (Int)) (a0_o : Nat) (a0_n : Nat) (a1 : Int) (a2 : Int) (a3 : Int) (a4 : TyB × Int) (l0 : a0.length ≤ 9223372036854775807) (l4_1_1 : a4.1.1.length ≤ 9223372036854775807) (l4_1_2_2_1 : a4.1.2.2.1.length ≤ 9223372036854775807) (l4_1_2_2_2 : a4.1.2.2.2.length ≤ 9223372036854775807) (hw : a0_o + a0_n ≤ a0.length ∧ a0.length ≤ 1048576) (hr : InR a4.1.1.length a0) (hab : 0 ≤ a1 ∧ a1 ≤ a2 ∧ a2 ≤ ↑a0_n), toNat (a2 - a1) < nr → Con Try.prog 93 [(.s 0 (0 + a0_o * 1) a0_n 1), (iv a1), (iv a2), (iv a3), (.f 1000077 [(.a [(.p 1 0), (iv a4.2)])])] [(.live true true (flat c3 a0)), (.live false false [(.s 2 0 a4.1.1.length 10), (iv a4.1.2.1), (.s 0 0 a0.length 1), (.s 3 0 a4.1.2.2.2.length 8)]), (.live false true (flat c81 a4.1.1)), (.live false true (flat c40 a4.1.2.2.2))] (.t []) [] [(.live true true (flat c3 (R93_W_b77 nr a0 a0_o a0_n a1 a2 a3 a4))), .un, .un, .un]) {cx : Cx} (hcx : cx.base = 4) : ∀ (n : Nat) (v1 : List (Int)) (v2 v3 v4 : Int) (v5 : Bool) (v6 : Bool), (v1.length = a0.length) ∧ (InR a4.1.1.length v1) ∧ (a1 ≤ v2) ∧ (v2 ≤ v3) ∧ (v3 ≤ a2) → toNat (v3 - v2) < n → Aw.Good Try.prog none 9 (bodyPost Try.prog Try.f93 (RR cx (.t []) [] [(.live true true (flat c3 (loopF (S93_W_b77_0 (R93_W_b77 nr) a0 a0_o a0_n a1 a2 a3 a4) n (v1, v2, v3, v4, v5, v6)))), .un, .un, .un])) cx [] (.l B93_W_b77_0 n :: K93_W_b77_0) (st93_W_b77_0 nr a0 a0_o a0_n a1 a2 a3 a4 (flat c3 v1) v1.length v2 v3 v4 v5 v6) := by
 intro n
 induction n with
 | zero => intro v1 v2 v3 v4 v5 v6 hi hn; exact absurd hn (nlz _)
 | succ n ih =>
   intro v1 v2 v3 v4 v5 v6 hi hn
   refine good_round ?_
   have hw_l := W_eq (n := v3 - v2) (by omega) (by omega)
   have hbk := brk_f (N := a4.1.1.length) (v := v1) (o := a0_o) (n := a0_n) (a := v2) (b := v3) (c := ((a4.1.1, a4.1.2.1, (v1, a4.1.2.2.2)), a4.2)) (by omega) hi.2.1 (by omega)
   obtain ⟨hbk1, hbk2⟩ := hbk
   cases h0 : (decide (((W (v3 - v2)) : Int) ≤ 12)) with
   | true =>
    have q0 := odt h0
    have e := Eq.refl (S93_W_b77_0 (R93_W_b77 nr) a0 a0_o a0_n a1 a2 a3 a4 (v1, v2, v3, v4, v5, v6)); conv at e => rhs; simp only [S93_W_b77_0, h0, cdb]
    rw [loopF_s, e]
    try dsimp only [thenF]
    try dsimp only
    try rw [show List.length (α := Int) (F107_W_b77 v1 a0_o a0_n v2 v3 ((a4.1.1, a4.1.2.1, (v1, a4.1.2.2.2)), a4.2)) = v1.length from by first | simp; done | omega]
    exact rtm [.d h0, .c [0, 1, 2, 3] (C107_W_b77 v1 a0_o a0_n v2 v3 ((a4.1.1, a4.1.2.1, (v1, a4.1.2.2.2)), a4.2) (by (try simp only [Lt]); omega) (by (try simp only [Lt]); omega) (by (try simp only [Lt]); omega) (by (try simp only [Lt]); omega) (by omega) hi.2.1 (by omega))] [] [0] [] hcx (by kernel_rfl)
   | false =>
    have q0 := odf h0
    let t1 : List (St Try.prog) := [.d h0]
    cases h1 : ((v4 : Int) == 0) with
    | true =>
     have q1 := eq_of_beq h1
     have e := Eq.refl (S93_W_b77_0 (R93_W_b77 nr) a0 a0_o a0_n a1 a2 a3 a4 (v1, v2, v3, v4, v5, v6)); conv at e => rhs; simp only [S93_W_b77_0, h0, h1, cdb]
     rw [loopF_s, e]
     try dsimp only [thenF]
     try dsimp only
     try rw [show List.length (α := Int) (F108_W_b77 v1 a0_o a0_n v2 v3 ((a4.1.1, a4.1.2.1, (v1, a4.1.2.2.2)), a4.2)) = v1.length from by first | simp; done | omega]
     exact rtm (t1 ++ [.d h1, .c [0, 1, 2, 3] (C108_W_b77 v1 a0_o a0_n v2 v3 ((a4.1.1, a4.1.2.1, (v1, a4.1.2.2.2)), a4.2) (by (try simp only [Lt]); omega) (by (try simp only [Lt]); omega) (by (try simp only [Lt]); omega) (by (try simp only [Lt]); omega) (by omega) hi.2.1 (by omega))]) [] [0] [] hcx (by kernel_rfl)
    | false =>
     have q1 := ne_of_beq_false h1
     let t2 : List (St Try.prog) := (t1 ++ [.d h1])
     cases h2 : (!v5) with
     | true =>
      have e := Eq.refl (S93_W_b77_0 (R93_W_b77 nr) a0 a0_o a0_n a1 a2 a3 a4 (v1, v2, v3, v4, v5, v6)); conv at e => rhs; simp only [S93_W_b77_0, h0, h1, h2, cdb]
      rw [loopF_s, e]
      refine ga (t2 ++ [.d h2, .c [0, 1, 2, 3] (C109_W_b77 v1 a0_o a0_n v2 v3 ((a4.1.1, a4.1.2.1, (v1, a4.1.2.2.2)), a4.2) (by (try simp only [Lt]); omega) (by (try simp only [Lt]); omega) (by (try simp only [Lt]); omega) (by (try simp only [Lt]); omega) (by omega) hi.2.1 (by omega)), .z 10]) [] [0, 1, 2, 3, 4, 10, 11, 12] [] hcx B93_W_b77_j10 (K93_W_b77_j10 n) (st93_W_b77_j10 nr a0 a0_o a0_n a1 a2 a3 a4 (flat c3 (F109_W_b77 v1 a0_o a0_n v2 v3 ((a4.1.1, a4.1.2.1, (v1, a4.1.2.2.2)), a4.2))) (v1.length) v2 v3 (W (v4 - 1)) v5 v6 (W (v3 - v2))) (by kernel_rfl) ?_
      have z0 : v1.length = (F109_W_b77 v1 a0_o a0_n v2 v3 ((a4.1.1, a4.1.2.1, (v1, a4.1.2.2.2)), a4.2)).length := by first | omega | (simp; done)
      rw [z0]
      exact L93_W_b77_j10 nr a0 a0_o a0_n a1 a2 a3 a4 l0 l4_1_1 l4_1_2_2_1 l4_1_2_2_2 hw hr hab hlt ihr hcx n ih (F109_W_b77 v1 a0_o a0_n v2 v3 ((a4.1.1, a4.1.2.1, (v1, a4.1.2.2.2)), a4.2)) v2 v3 (W (v4 - 1)) v5 v6 (W (v3 - v2)) (by and_intros <;> (try simp only [Lt]) <;> first | omega | assumption | exact hi.2.1 | exact hi.2.2.1 | exact InR.swap hi.2.1 (by omega) (by omega) | exact InR.swap hr (by omega) (by omega) | exact hbk2 | exact hrv2 | exact hpi2 | exact hpe3 | exact hpa3 | exact hrc1b | exact hrc2b)
     | false =>
      have e := Eq.refl (S93_W_b77_0 (R93_W_b77 nr) a0 a0_o a0_n a1 a2 a3 a4 (v1, v2, v3, v4, v5, v6)); conv at e => rhs; simp only [S93_W_b77_0, h0, h1, h2, cdb]
      rw [loopF_s, e]
      refine ga (t2 ++ [.d h2, .z 10]) [] [0, 1, 2, 3, 4, 10, 11, 12] [] hcx B93_W_b77_j10 (K93_W_b77_j10 n) (st93_W_b77_j10 nr a0 a0_o a0_n a1 a2 a3 a4 (flat c3 v1) (v1.length) v2 v3 v4 v5 v6 (W (v3 - v2))) (by kernel_rfl) ?_
      exact L93_W_b77_j10 nr a0 a0_o a0_n a1 a2 a3 a4 l0 l4_1_1 l4_1_2_2_1 l4_1_2_2_2 hw hr hab hlt ihr hcx n ih v1 v2 v3 v4 v5 v6 (W (v3 - v2)) (by and_intros <;> (try simp only [Lt]) <;> first | omega | assumption | exact hi.2.1 | exact hi.2.2.1 | exact InR.swap hi.2.1 (by omega) (by omega) | exact InR.swap hr (by omega) (by omega) | exact hbk2 | exact hrv2 | exact hpi2 | exact hpe3 | exact hpa3 | exact hrc1b | exact hrc2b)

theorem Cr93_W_b77 : ∀ (nr : Nat) (a0 : List (Int)) (a0_o : Nat) (a0_n : Nat) (a1 : Int) (a2 : Int) (a3 : Int) (a4 : TyB × Int) (l0 : a0.length ≤ 9223372036854775807) (l4_1_1 : a4.1.1.length ≤ 9223372036854775807) (l4_1_2_2_1 : a4.1.2.2.1.length ≤ 9223372036854775807) (l4_1_2_2_2 : a4.1.2.2.2.length ≤ 9223372036854775807) (hw : a0_o + a0_n ≤ a0.length ∧ a0.length ≤ 1048576) (hr : InR a4.1.1.length a0) (hab : 0 ≤ a1 ∧ a1 ≤ a2 ∧ a2 ≤ ↑a0_n), toNat (a2 - a1) < nr → Con Try.prog 93 [(.s 0 (0 + a0_o * 1) a0_n 1), (iv a1), (iv a2), (iv a3), (.f 1000077 [(.a [(.p 1 0), (iv a4.2)])])] [(.live true true (flat c3 a0)), (.live false false [(.s 2 0 a4.1.1.length 10), (iv a4.1.2.1), (.s 0 0 a0.length 1), (.s 3 0 a4.1.2.2.2.length 8)]), (.live false true (flat c81 a4.1.1)), (.live false true (flat c40 a4.1.2.2.2))] (.t []) [] [(.live true true (flat c3 (R93_W_b77 nr a0 a0_o a0_n a1 a2 a3 a4))), .un, .un, .un] := by
 intro nr
 induction nr with
 | zero => intro a0 a0_o a0_n a1 a2 a3 a4 l0 l4_1_1 l4_1_2_2_1 l4_1_2_2_2 hw hr hab hlt; exact absurd hlt (nlz _)
 | succ nr ihr =>
 intro a0 a0_o a0_n a1 a2 a3 a4 l0 l4_1_1 l4_1_2_2_1 l4_1_2_2_2 hw hr hab hlt
 refine con_s Try.func93 (by kernel_rfl) fun cx hcx => ?_
 have e := Eq.refl (R93_W_b77 (nr + 1) a0 a0_o a0_n a1 a2 a3 a4); conv at e => rhs; simp only [R93_W_b77]
 rw [e]
 refine en [] [] [0, 1, 2, 3, 4, 10, 11] [] hcx B93_W_b77_0 (K93_W_b77_0) (st93_W_b77_0 nr a0 a0_o a0_n a1 a2 a3 a4 (flat c3 a0) (a0.length) a1 a2 a3 true true) (toNat (a2 - a1) + 1) (by kernel_rfl) ?_
 exact L93_W_b77_0 nr a0 a0_o a0_n a1 a2 a3 a4 l0 l4_1_1 l4_1_2_2_1 l4_1_2_2_2 hw hr hab hlt ihr hcx (toNat (a2 - a1) + 1) a0 a1 a2 a3 true true (by and_intros <;> (try simp only [Lt]) <;> first | omega | assumption | exact hi.2.1 | exact hi.2.2.1 | exact InR.swap hi.2.1 (by omega) (by omega) | exact InR.swap hr (by omega) (by omega) | exact hbk2 | exact hrv2 | exact hpi2 | exact hpe3 | exact hpa3 | exact hrc1b | exact hrc2b) (by (try simp only [Ls]); omega)

theorem C93_W_b77 (a0 : List (Int)) (a0_o : Nat) (a0_n : Nat) (a1 : Int) (a2 : Int) (a3 : Int) (a4 : TyB × Int) (l0 : a0.length ≤ 9223372036854775807) (l4_1_1 : a4.1.1.length ≤ 9223372036854775807) (l4_1_2_2_1 : a4.1.2.2.1.length ≤ 9223372036854775807) (l4_1_2_2_2 : a4.1.2.2.2.length ≤ 9223372036854775807) (hw : a0_o + a0_n ≤ a0.length ∧ a0.length ≤ 1048576) (hr : InR a4.1.1.length a0) (hab : 0 ≤ a1 ∧ a1 ≤ a2 ∧ a2 ≤ ↑a0_n) : Con Try.prog 93 [(.s 0 (0 + a0_o * 1) a0_n 1), (iv a1), (iv a2), (iv a3), (.f 1000077 [(.a [(.p 1 0), (iv a4.2)])])] [(.live true true (flat c3 a0)), (.live false false [(.s 2 0 a4.1.1.length 10), (iv a4.1.2.1), (.s 0 0 a0.length 1), (.s 3 0 a4.1.2.2.2.length 8)]), (.live false true (flat c81 a4.1.1)), (.live false true (flat c40 a4.1.2.2.2))] (.t []) [] [(.live true true (flat c3 (F93_W_b77 a0 a0_o a0_n a1 a2 a3 a4))), .un, .un, .un] := Cr93_W_b77 (toNat (a2 - a1) + 1) a0 a0_o a0_n a1 a2 a3 a4 l0 l4_1_1 l4_1_2_2_1 l4_1_2_2_2 hw hr hab (lss _)

end Go.Proofs.Ytnbpiejjeeomkaa

namespace Go.Proofs.Ytnbpiejjeeomkaa
open Go.Proofs Go.Aw Go.RowKit
set_option maxRecDepth 100000

section
open Go.Sort
variable {o n : Nat} {l l0 : List Int} {c : SBC} {nr m : Nat} {a1 a2 a3 : Int}
def PqT (l : List Int) (o n : Nat) (rr : List Int → Nat → Nat → Int → Int → Int → SBC → List Int) (l0 : List Int) (a1 a2 a3 : Int) (c : SBC) (m : Nat) (x : (List Int × Int × Int × Int × Bool × Bool) ⊕ List Int) (t : Array Int) : Prop :=
 thenF (S93_W_b77_0 rr l0 o n a1 a2 a3 c) m x = wp l o t ∧ t.size = n
variable {rr : List Int → Nat → Nat → Int → Int → Int → SBC → List Int}
  (hl : o + n ≤ l.length) (hn : n ≤ 1048576)
  (Hr : ∀ (c : SBC) (d : Array Int) (a b lim : Nat), d.size = n → a ≤ b → b ≤ n → lim ≤ 1048576 → b - a < nr → rr (wp l o d) o n (a : Int) (b : Int) (lim : Int) c = wp l o (pdq (ltc c) d a b lim true true) ∧ (pdq (ltc c) d a b lim true true).size = n)
  (Hm : ∀ (d : Array Int) (a b lim : Nat) (w1 w2 : Bool), d.size = n → a ≤ b → b ≤ n → lim ≤ 1048576 → b - a < m → b - a ≤ nr → loopF (S93_W_b77_0 rr l0 o n a1 a2 a3 c) m (wp l o d, (a : Int), (b : Int), (lim : Int), w1, w2) = wp l o (pdq (ltc c) d a b lim w1 w2) ∧ (pdq (ltc c) d a b lim w1 w2).size = n)
include hl hn Hr Hm
theorem pqt20 {d : Array Int} {a b lim q : Nat} (hd : d.size = n) (hq : a ≤ q ∧ q < b) (hb : b ≤ n) (hli : lim ≤ 1048576) (hm : b - a ≤ m) (hnr : b - a ≤ nr) :
   PqT l o n rr l0 a1 a2 a3 c m (S93_W_b77_j20 rr l0 o n a1 a2 a3 c (wp l o d, (a : Int), (b : Int), (lim : Int), ((b - a : Nat) : Int), (q : Int)))
     (match partition (ltc c) d a b q with
       | (mid, alreadyPartitioned, d4) =>
         if _h : a ≤ mid ∧ mid < b then
           if mid - a < b - mid then pdq (ltc c) (pdq (ltc c) d4 a mid lim true true) (mid + 1) b lim (decide (mid - a ≥ (b - a) / 8)) alreadyPartitioned
           else pdq (ltc c) (pdq (ltc c) d4 (mid + 1) b lim true true) a mid lim (decide (b - mid ≥ (b - a) / 8)) alreadyPartitioned
         else d4) := by
 have hp : F114_W_b77 (wp l o d) o n (a : Int) (b : Int) (q : Int) ((c.1.1, c.1.2.1, (wp l o d, c.1.2.2.2)), c.2) = _ := par_eq (l := l) (c := ((c.1.1, c.1.2.1, (wp l o d, c.1.2.2.2)), c.2)) hl hn hd hq.1 hq.2 hb
 obtain ⟨r1, r2, r3, _⟩ := partition_holds (lt := ltc c) (ltc_swo c) d a b q hq.1 hq.2 (by omega)
 have hp' : F114_W_b77 (wp l o d) o n (a : Int) (b : Int) (q : Int) ((c.1.1, c.1.2.1, (wp l o d, c.1.2.2.2)), c.2) = (((partition (ltc c) d a b q).1 : Int), (partition (ltc c) d a b q).2.1, wp l o (partition (ltc c) d a b q).2.2) := hp
 clear hp
 generalize partition (ltc c) d a b q = pt at hp' r1 r2 r3 ⊢
 obtain ⟨mid, ap, d4⟩ := pt
 dsimp only at hp' r1 r2 r3 ⊢
 have hd4 : d4.size = n := by rw [r3.1]; exact hd
 rw [dif_pos ⟨r1, r2⟩]
 have e8 : W (Int.tdiv ((b - a : Nat) : Int) 8) = (((b - a) / 8 : Nat) : Int) := by rw [Int.tdiv_eq_ediv_of_nonneg (by omega)]; exact wN (by omega) (by omega)
 unfold PqT
 simp only [S93_W_b77_j20, hp', e8, wN (x := (mid : Int) - (a : Int)) (n := mid - a) (by omega) (by omega), wN (x := (b : Int) - (mid : Int)) (n := b - mid) (by omega) (by omega), wN (x := (mid : Int) + 1) (n := mid + 1) (by omega) (by omega)]
 by_cases h : mid - a < b - mid
 · rw [dqt (show ((mid - a : Nat) : Int) < ((b - mid : Nat) : Int) by omega), cond_true, if_pos h]
   have h1 := Hr ((c.1.1, c.1.2.1, (wp l o d4, c.1.2.2.2)), c.2) d4 a mid lim hd4 r1 (by omega) hli (by omega)
   rw [h1.1]
   have hd5 : decide (((mid - a : Nat) : Int) ≥ (((b - a) / 8 : Nat) : Int)) = decide (mid - a ≥ (b - a) / 8) := by
     by_cases h8 : mid - a ≥ (b - a) / 8
     · rw [dqt h8]; exact dqt (by omega)
     · rw [dqf h8]; exact dqf (by omega)
   rw [hd5]
   exact Hm (pdq (ltc c) d4 a mid lim true true) (mid + 1) b lim _ _ h1.2 (by omega) hb hli (by omega) (by omega)
 · rw [dqf (show ¬ ((mid - a : Nat) : Int) < ((b - mid : Nat) : Int) by omega), cond_false, if_neg h]
   have h1 := Hr ((c.1.1, c.1.2.1, (wp l o d4, c.1.2.2.2)), c.2) d4 (mid + 1) b lim hd4 (by omega) hb hli (by omega)
   rw [h1.1]
   have hd5 : decide (((b - mid : Nat) : Int) ≥ (((b - a) / 8 : Nat) : Int)) = decide (b - mid ≥ (b - a) / 8) := by
     by_cases h8 : b - mid ≥ (b - a) / 8
     · rw [dqt h8]; exact dqt (by omega)
     · rw [dqf h8]; exact dqf (by omega)
   rw [hd5]
   exact Hm (pdq (ltc c) d4 (mid + 1) b lim true true) a mid lim _ _ h1.2 (by omega) (by omega) hli (by omega) (by omega)
theorem pqt17 {d : Array Int} {a b lim q : Nat} {w1 w2 : Bool} (hd : d.size = n) (hq : a ≤ q ∧ q < b) (hb : b ≤ n) (hli : lim ≤ 1048576) (hm : b - a ≤ m) (hnr : b - a ≤ nr) :
   PqT l o n rr l0 a1 a2 a3 c m (S93_W_b77_j17 rr l0 o n a1 a2 a3 c (wp l o d, (a : Int), (b : Int), (lim : Int), w1, w2, ((b - a : Nat) : Int), (q : Int)))
     (if a > 0 && !ltc c d[a - 1]! d[q]! then
       match partitionEqual (ltc c) d a b q with
       | (mid, d4) => if _h : a < mid ∧ mid ≤ b then pdq (ltc c) d4 mid b lim w1 w2 else d4
     else match partition (ltc c) d a b q with
       | (mid, alreadyPartitioned, d4) =>
         if _h : a ≤ mid ∧ mid < b then
           if mid - a < b - mid then pdq (ltc c) (pdq (ltc c) d4 a mid lim true true) (mid + 1) b lim (decide (mid - a ≥ (b - a) / 8)) alreadyPartitioned
           else pdq (ltc c) (pdq (ltc c) d4 (mid + 1) b lim true true) a mid lim (decide (b - mid ≥ (b - a) / 8)) alreadyPartitioned
         else d4) := by
 have h20 := pqt20 (a1 := a1) (a2 := a2) (a3 := a3) (l0 := l0) (c := c) hl hn Hr Hm hd hq hb hli hm hnr
 have hl' : o + d.size ≤ l.length := by omega
 unfold PqT at h20 ⊢
 simp only [S93_W_b77_j17, ltc_irr]
 by_cases h0 : a > 0
 · rw [dqt (show (a : Int) > 0 by omega), cond_true, wN (x := (a : Int) - 1) (n := a - 1) (by omega) (by omega), itn, itn, wp_get hl' (by omega), wp_get hl' (by omega), dqt h0, Bool.true_and]
   cases hc : ltc c d[a - 1]! d[q]! with
   | true => exact h20
   | false =>
     rw [Bool.not_false, cond_true, if_pos rfl]
     have hp : F113_W_b77 (wp l o d) o n (a : Int) (b : Int) (q : Int) ((c.1.1, c.1.2.1, (wp l o d, c.1.2.2.2)), c.2) = (((partitionEqual (ltc c) d a b q).1 : Int), wp l o (partitionEqual (ltc c) d a b q).2) := peq_eq (l := l) (c := ((c.1.1, c.1.2.1, (wp l o d, c.1.2.2.2)), c.2)) hl hn hd hq.1 hq.2 hb
     obtain ⟨r1, r2, r3⟩ := peq_rng (d := d) (ltc c) (a := a) (b := b) (q := q) hq.1 hq.2 (by omega)
     generalize partitionEqual (ltc c) d a b q = pt at hp r1 r2 r3 ⊢
     obtain ⟨mid, d4⟩ := pt
     dsimp only at hp r1 r2 r3 ⊢
     rw [dif_pos ⟨r1, r2⟩, hp]
     exact Hm d4 mid b lim w1 w2 (by rw [r3.1]; exact hd) r2 hb hli (by omega) (by omega)
 · rw [dqf (show ¬ (a : Int) > 0 by omega), cond_false, dqf h0, Bool.false_and, if_neg Bool.false_ne_true]
   exact h20
theorem pqt15 {d : Array Int} {a b lim q : Nat} {w1 w2 : Bool} {hi : Hint} (hd : d.size = n) (hq : a ≤ q ∧ q < b) (hb : b ≤ n) (hli : lim ≤ 1048576) (hm : b - a ≤ m) (hnr : b - a ≤ nr) :
   PqT l o n rr l0 a1 a2 a3 c m (S93_W_b77_j15 rr l0 o n a1 a2 a3 c (wp l o d, (a : Int), (b : Int), (lim : Int), w1, w2, ((b - a : Nat) : Int), (q : Int), hintI hi))
     (let pi := if w1 && w2 && hi = .increasing then partialInsertionSort (ltc c) d a b else (d, false)
     if pi.2 then pi.1 else
     if a > 0 && !ltc c pi.1[a - 1]! pi.1[q]! then
       match partitionEqual (ltc c) pi.1 a b q with
       | (mid, d4) => if _h : a < mid ∧ mid ≤ b then pdq (ltc c) d4 mid b lim w1 w2 else d4
     else match partition (ltc c) pi.1 a b q with
       | (mid, alreadyPartitioned, d4) =>
         if _h : a ≤ mid ∧ mid < b then
           if mid - a < b - mid then pdq (ltc c) (pdq (ltc c) d4 a mid lim true true) (mid + 1) b lim (decide (mid - a ≥ (b - a) / 8)) alreadyPartitioned
           else pdq (ltc c) (pdq (ltc c) d4 (mid + 1) b lim true true) a mid lim (decide (b - mid ≥ (b - a) / 8)) alreadyPartitioned
         else d4) := by
 have h17 := pqt17 (a1 := a1) (a2 := a2) (a3 := a3) (l0 := l0) (c := c) (w1 := w1) (w2 := w2) hl hn Hr Hm hd hq hb hli hm hnr
 have hno : (w1 && w2 && decide (hi = .increasing)) = false → PqT l o n rr l0 a1 a2 a3 c m (S93_W_b77_j17 rr l0 o n a1 a2 a3 c (wp l o d, (a : Int), (b : Int), (lim : Int), w1, w2, ((b - a : Nat) : Int), (q : Int)))
     (let pi := if w1 && w2 && hi = .increasing then partialInsertionSort (ltc c) d a b else (d, false)
     if pi.2 then pi.1 else
     if a > 0 && !ltc c pi.1[a - 1]! pi.1[q]! then
       match partitionEqual (ltc c) pi.1 a b q with
       | (mid, d4) => if _h : a < mid ∧ mid ≤ b then pdq (ltc c) d4 mid b lim w1 w2 else d4
     else match partition (ltc c) pi.1 a b q with
       | (mid, alreadyPartitioned, d4) =>
         if _h : a ≤ mid ∧ mid < b then
           if mid - a < b - mid then pdq (ltc c) (pdq (ltc c) d4 a mid lim true true) (mid + 1) b lim (decide (mid - a ≥ (b - a) / 8)) alreadyPartitioned
           else pdq (ltc c) (pdq (ltc c) d4 (mid + 1) b lim true true) a mid lim (decide (b - mid ≥ (b - a) / 8)) alreadyPartitioned
         else d4) := fun h => by rw [h]; exact h17
 simp only [S93_W_b77_j15]
 cases w1 with
 | false => exact hno rfl
 | true =>
   cases w2 with
   | false => exact hno rfl
   | true =>
     rw [cond_true, cond_true]
     cases hi with
     | unknown => exact hno rfl
     | decreasing => exact hno rfl
     | increasing =>
       have hp : F112_W_b77 (wp l o d) o n (a : Int) (b : Int) ((c.1.1, c.1.2.1, (wp l o d, c.1.2.2.2)), c.2) = ((partialInsertionSort (ltc c) d a b).2, wp l o (partialInsertionSort (ltc c) d a b).1) ∧ (partialInsertionSort (ltc c) d a b).1.size = n := pis_eq (l := l) (c := ((c.1.1, c.1.2.1, (wp l o d, c.1.2.2.2)), c.2)) hl hn hd (by omega) hb
       rw [hp.1]
       show PqT l o n rr l0 a1 a2 a3 c m (bif (partialInsertionSort (ltc c) d a b).2 then .inr (wp l o (partialInsertionSort (ltc c) d a b).1) else _) (let pi := partialInsertionSort (ltc c) d a b; _)
       generalize partialInsertionSort (ltc c) d a b = pt at hp ⊢
       obtain ⟨d3, fin⟩ := pt
       dsimp only at hp ⊢
       cases fin with
       | true => exact ⟨rfl, hp.2⟩
       | false => exact pqt17 (a1 := a1) (a2 := a2) (a3 := a3) (l0 := l0) (c := c) (w1 := true) (w2 := true) hl hn Hr Hm hp.2 hq hb hli hm hnr
theorem pqt0 {d : Array Int} {a b lim : Nat} {w1 w2 : Bool} (hd : d.size = n) (hab : a ≤ b) (hb : b ≤ n) (hli : lim ≤ 1048576) (hm : b - a ≤ m) (hnr : b - a ≤ nr) :
   PqT l o n rr l0 a1 a2 a3 c m (S93_W_b77_0 rr l0 o n a1 a2 a3 c (wp l o d, (a : Int), (b : Int), (lim : Int), w1, w2)) (pdq (ltc c) d a b lim w1 w2) := by
 have hw : W ((b : Int) - (a : Int)) = ((b - a : Nat) : Int) := wN (by omega) (by omega)
 rw [pdq]
 simp only [S93_W_b77_0, hw]
 by_cases h12 : b - a ≤ 12
 · rw [dqt (show ((b - a : Nat) : Int) ≤ 12 by omega), cond_true, if_pos h12]
   have := ins_eq (l := l) (c := ((c.1.1, c.1.2.1, (wp l o d, c.1.2.2.2)), c.2)) hl hn hb (by omega) hd (a := a)
   exact ⟨this, by rw [(insertionSort_holds (ltc_swo c) d a b hab (by omega)).1.1]; exact hd⟩
 · rw [dqf (show ¬ ((b - a : Nat) : Int) ≤ 12 by omega), cond_false, if_neg h12]
   by_cases hl0 : lim = 0
   · rw [if_pos hl0, show (((lim : Nat) : Int) == 0) = true by simp [hl0], cond_true]
     have := hso_eq (l := l) (c := ((c.1.1, c.1.2.1, (wp l o d, c.1.2.2.2)), c.2)) hl hn hab hb hd
     exact ⟨this, by rw [(heapSort_holds (ltc_swo c) d a b hab (by omega)).1.1]; exact hd⟩
   · rw [if_neg hl0, show (((lim : Nat) : Int) == 0) = false by simp [hl0], cond_false]
     have j10 : ∀ (d1 : Array Int) (lim : Nat), d1.size = n → lim ≤ 1048576 → PqT l o n rr l0 a1 a2 a3 c m (S93_W_b77_j10 rr l0 o n a1 a2 a3 c (wp l o d1, (a : Int), (b : Int), (lim : Int), w1, w2, ((b - a : Nat) : Int)))
         (let cc := choosePivot (ltc c) d1 a b
         let d2 := if cc.2 = .decreasing then reverseRange d1 a b else d1
         let pivot := if cc.2 = .decreasing then (b - 1) - (cc.1 - a) else cc.1
         let hint := if cc.2 = .decreasing then Hint.increasing else cc.2
         let pi := if w1 && w2 && hint = .increasing then partialInsertionSort (ltc c) d2 a b else (d2, false)
         if pi.2 then pi.1 else
         if a > 0 && !ltc c pi.1[a - 1]! pi.1[pivot]! then
           match partitionEqual (ltc c) pi.1 a b pivot with
           | (mid, d4) => if _h : a < mid ∧ mid ≤ b then pdq (ltc c) d4 mid b lim w1 w2 else d4
         else match partition (ltc c) pi.1 a b pivot with
           | (mid, alreadyPartitioned, d4) =>
             if _h : a ≤ mid ∧ mid < b then
               if mid - a < b - mid then pdq (ltc c) (pdq (ltc c) d4 a mid lim true true) (mid + 1) b lim (decide (mid - a ≥ (b - a) / 8)) alreadyPartitioned
               else pdq (ltc c) (pdq (ltc c) d4 (mid + 1) b lim true true) a mid lim (decide (b - mid ≥ (b - a) / 8)) alreadyPartitioned
             else d4) := fun d1 lim hd1 hli => by
       have hc : F110_W_b77 (wp l o d1) o n (a : Int) (b : Int) ((c.1.1, c.1.2.1, (wp l o d1, c.1.2.2.2)), c.2) = (((choosePivot (ltc c) d1 a b).1 : Int), hintI (choosePivot (ltc c) d1 a b).2) := cpv_eq (l := l) (c := ((c.1.1, c.1.2.1, (wp l o d1, c.1.2.2.2)), c.2)) hl hn hd1 (by omega) hb
       have hr := choosePivot_holds (ltc c) d1 a b (by omega)
       simp only [S93_W_b77_j10, hc]
       generalize choosePivot (ltc c) d1 a b = pt at hr ⊢
       obtain ⟨q, hi⟩ := pt
       dsimp only at hr ⊢
       cases hi with
       | unknown => exact pqt15 (hi := .unknown) (a1 := a1) (a2 := a2) (a3 := a3) (l0 := l0) (c := c) hl hn Hr Hm hd1 hr hb hli hm hnr
       | increasing => exact pqt15 (hi := .increasing) (a1 := a1) (a2 := a2) (a3 := a3) (l0 := l0) (c := c) hl hn Hr Hm hd1 hr hb hli hm hnr
       | decreasing =>
         have hv := rvr_eq (l := l) (c := ((c.1.1, c.1.2.1, (wp l o d1, c.1.2.2.2)), c.2)) hl hn (a := a) (b := b) (by omega) hb hd1
         have e1 : W ((W ((b : Int) - 1)) - (W ((q : Int) - (a : Int)))) = (((b - 1) - (q - a) : Nat) : Int) := by
           rw [wN (x := (b : Int) - 1) (n := b - 1) (by omega) (by omega), wN (x := (q : Int) - (a : Int)) (n := q - a) (by omega) (by omega)]; exact wN (by omega) (by omega)
         show PqT l o n rr l0 a1 a2 a3 c m (S93_W_b77_j15 rr l0 o n a1 a2 a3 c ((F111_W_b77 (wp l o d1) o n (a : Int) (b : Int) ((c.1.1, c.1.2.1, (wp l o d1, c.1.2.2.2)), c.2)), (a : Int), (b : Int), (lim : Int), w1, w2, ((b - a : Nat) : Int), (W ((W ((b : Int) - 1)) - (W ((q : Int) - (a : Int))))), 1)) _
         rw [hv, e1]
         exact pqt15 (hi := .increasing) (a1 := a1) (a2 := a2) (a3 := a3) (l0 := l0) (c := c) hl hn Hr Hm (by rw [(reverseRange_holds d1 a b hab (by omega)).1]; exact hd1) (by omega) hb hli hm hnr
     cases w1 with
     | true => exact j10 d lim hd hli
     | false =>
       have hv := brk_eq (l := l) (c := ((c.1.1, c.1.2.1, (wp l o d, c.1.2.2.2)), c.2)) hl hn hd hab hb
       rw [wN (x := (lim : Int) - 1) (n := lim - 1) (by omega) (by omega), hv]
       exact j10 (breakPatterns d a b) (lim - 1) (by rw [(breakPatterns_holds d a b hab (by omega)).1]; exact hd) (by omega)
omit Hr Hm in
theorem pdq_eq : ∀ (nr : Nat) (c : SBC) (d : Array Int) (a b lim : Nat), d.size = n → a ≤ b → b ≤ n → lim ≤ 1048576 → b - a < nr →
   R93_W_b77 nr (wp l o d) o n (a : Int) (b : Int) (lim : Int) c = wp l o (pdq (ltc c) d a b lim true true) ∧ (pdq (ltc c) d a b lim true true).size = n
 | 0, _, _, _, _, _, _, _, _, _, h => absurd h (nlz _)
 | nr + 1, c, d, a, b, lim, hd, hab, hb, hli, hnr => by
   have Hr := fun (c : SBC) (d : Array Int) (a b lim : Nat) h1 h2 h3 h4 h5 => pdq_eq nr c d a b lim h1 h2 h3 h4 h5
   unfold R93_W_b77
   have lp : ∀ (m : Nat) (d' : Array Int) (a' b' lim' : Nat) (w1 w2 : Bool), d'.size = n → a' ≤ b' → b' ≤ n → lim' ≤ 1048576 → b' - a' < m → b' - a' ≤ nr →
       loopF (S93_W_b77_0 (R93_W_b77 nr) (wp l o d) o n (a : Int) (b : Int) (lim : Int) c) m (wp l o d', (a' : Int), (b' : Int), (lim' : Int), w1, w2) = wp l o (pdq (ltc c) d' a' b' lim' w1 w2) ∧ (pdq (ltc c) d' a' b' lim' w1 w2).size = n := by
     intro m
     induction m with
     | zero => intro _ _ _ _ _ _ _ _ _ _ h; exact absurd h (nlz _)
     | succ m ih =>
       intro d' a' b' lim' w1 w2 h1 h2 h3 h4 h5 h6
       rw [loopF_s]
       exact pqt0 (rr := R93_W_b77 nr) (nr := nr) hl hn Hr ih h1 h2 h3 h4 (by omega) h6
   exact lp _ d a b lim true true hd hab hb hli (by omega) (by omega)
end

end Go.Proofs.Ytnbpiejjeeomkaa

namespace Go.Proofs.Ytnbpiejjeeomkaa
open Go.Proofs Go.Aw Go.RowKit
set_option maxRecDepth 100000

def F75_W_b77 (a0 : List (Int)) (a0_o : Nat) (a0_n : Nat) (a1 : TyB × Int) : List (Int) :=
 (F93_W_b77 a0 a0_o a0_n 0 ((a0_n : Nat) : Int) (F94 (IntKind.wrap .u64 ((a0_n : Nat) : Int))) ((a1.1.1, a1.1.2.1, (a0, a1.1.2.2.2)), a1.2))

theorem C75_W_b77 (a0 : List (Int)) (a0_o : Nat) (a0_n : Nat) (a1 : TyB × Int) (l0 : a0.length ≤ 9223372036854775807) (l1_1_1 : a1.1.1.length ≤ 9223372036854775807) (l1_1_2_2_1 : a1.1.2.2.1.length ≤ 9223372036854775807) (l1_1_2_2_2 : a1.1.2.2.2.length ≤ 9223372036854775807) (hw : a0_o + a0_n ≤ a0.length ∧ a0.length ≤ 1048576) (hr : InR a1.1.1.length a0) : Con Try.prog 75 [(.s 0 (0 + a0_o * 1) a0_n 1), (.f 1000077 [(.a [(.p 1 0), (iv a1.2)])])] [(.live true true (flat c3 a0)), (.live false false [(.s 2 0 a1.1.1.length 10), (iv a1.1.2.1), (.s 0 0 a0.length 1), (.s 3 0 a1.1.2.2.2.length 8)]), (.live false true (flat c81 a1.1.1)), (.live false true (flat c40 a1.1.2.2.2))] (.t []) [] [(.live true true (flat c3 (F75_W_b77 a0 a0_o a0_n a1))), .un, .un, .un] := by
 refine con_s Try.func75 (by kernel_rfl) fun cx hcx => ?_
 have e := Eq.refl (F75_W_b77 a0 a0_o a0_n a1); conv at e => rhs; simp only [F75_W_b77]
 rw [e]
 try dsimp only [thenF]
 try dsimp only
 try rw [show List.length (α := Int) (F93_W_b77 a0 a0_o a0_n 0 ((a0_n : Nat) : Int) (F94 (IntKind.wrap .u64 ((a0_n : Nat) : Int))) ((a1.1.1, a1.1.2.1, (a0, a1.1.2.2.2)), a1.2)) = a0.length from by first | simp; done | omega]
 exact rtn [.c [] (C94 (IntKind.wrap .u64 ((a0_n : Nat) : Int))  (by rw [IntKind.wrap_u64]; omega)), .c [0, 1, 2, 3] (C93_W_b77 a0 a0_o a0_n 0 ((a0_n : Nat) : Int) (F94 (IntKind.wrap .u64 ((a0_n : Nat) : Int))) ((a1.1.1, a1.1.2.1, (a0, a1.1.2.2.2)), a1.2) (by (try simp only [Lt]); omega) (by (try simp only [Lt]); omega) (by (try simp only [Lt]); omega) (by (try simp only [Lt]); omega) hw hr (by omega))] [] [0] [] hcx (by kernel_rfl)


def F88 (a0 : (Int × Int × Int) × (Int × Int × Int) × Int × Int × Int) : (Int × Int × Int) × (Int × Int × Int) × Int × Int × Int :=
 a0

theorem C88 (a0 : (Int × Int × Int) × (Int × Int × Int) × Int × Int × Int) : Con Try.prog 88 [(.a (k9 a0))] [] (.a (k9 (F88 a0))) [] := by
 refine con_s Try.func88 (by kernel_rfl) fun cx hcx => ?_
 have e := Eq.refl (F88 a0); conv at e => rhs; simp only [F88]
 rw [e]
 exact rt [] [] [] hcx (by kernel_rfl)

def F89 (a0 : Int) : Int :=
 (Int.fdiv a0 (2 ^ (min (toNat 1) 64)))

theorem C89 (a0 : Int) : Con Try.prog 89 [(iv a0)] [] (iv (F89 a0)) [] := by
 refine con_s Try.func89 (by kernel_rfl) fun cx hcx => ?_
 have e := Eq.refl (F89 a0); conv at e => rhs; simp only [F89]
 rw [e]
 exact rt [.p (show 0 ≤ (1 : Int) from by decide)] [] [] hcx (by kernel_rfl)

noncomputable def B72_L_L_0 : Code := (loopAtD [1, 1, 0, 1] [] (bodyOf Try.f72) []).1
noncomputable def K72_L_L_0 : List K := (loopAtD [1, 1, 0, 1] [] (bodyOf Try.f72) []).2

def st72_L_L_0 (a0 : TyL) (a1 : List (Int)) (v2c : List SV) (v2n : Nat) (v3 : Int) : LS := ⟨slN 23 [(0, (.s 0 0 a0.length 10)), (5, (.s 2 0 v2n 10)), (8, (.s 1 0 a1.length 1)), (9, (iv (a1.length : Int))), (10, (iv v3))], [(.live false true (flat c81 a0)), (.live false true (flat c3 a1)), (.live true true v2c)]⟩

def S72_L_L_0 (a0 : TyL) (a1 : List (Int)) : TyL × Int → (TyL × Int) ⊕ TyL
 | (v2, v3) =>
  (bif (decide ((v3 : Int) < (a1.length : Int))) then
   (.inl ((v2 ++ [(a0.getD (toNat (a1.getD (toNat v3) default)) default)]), (v3 + 1)))
  else
   (.inr v2))

theorem L72_L_L_0 (a0 : TyL) (a1 : List (Int)) (l0 : a0.length ≤ 9223372036854775807) (l1 : a1.length ≤ 9223372036854775807) (hir : InR a0.length a1) (hl : a1.length ≤ 1048576) {cx : Cx} (hcx : cx.base = 2) : ∀ (n : Nat) (v2 : TyL) (v3 : Int), (0 ≤ v3) ∧ (v2.length = toNat v3) ∧ (v3 ≤ a1.length) → toNat ((a1.length : Int) - v3) < n → Aw.Good Try.prog none 9 (bodyPost Try.prog Try.f72 (RR cx (.s 2 0 (loopF (S72_L_L_0 a0 a1) n (v2, v3)).length 10) [(.live true true (flat c81 (loopF (S72_L_L_0 a0 a1) n (v2, v3))))] [])) cx [] (.l B72_L_L_0 n :: K72_L_L_0) (st72_L_L_0 a0 a1 (flat c81 v2) v2.length v3) := by
 intro n
 induction n with
 | zero => intro v2 v3 hi hn; exact absurd hn (nlz _)
 | succ n ih =>
   intro v2 v3 hi hn
   refine good_round ?_
   try have hr1 := hir.at (i := toNat v3) (by have _ := h0; omega)
   cases h0 : (decide ((v3 : Int) < (a1.length : Int))) with
   | true =>
    have q0 := odt h0
    try have hr1 := hir.at (i := toNat v3) (by have _ := h0; omega)
    have e := Eq.refl (S72_L_L_0 a0 a1 (v2, v3)); conv at e => rhs; simp only [S72_L_L_0, h0, cdb]
    rw [loopF_inl e]
    refine ba [.d h0, .i v3 (a1.length), .L c3_len a1 v3 0 1, .i (a1.getD (toNat v3) default) (a0.length), .L c81_len a0 (a1.getD (toNat v3) default) 0 10, .p (show ((flat c81 v2).length = v2.length * 10 ∧ v2.length + 1 ≤ 2 ^ 40 ∧ (v2.length + 1) * 80 ≤ 2 ^ 47) from app_ok c81_len (by omega) (by omega))] [] [0, 5, 8, 9, 10] [4] hcx (m := n) B72_L_L_0 (K72_L_L_0) (st72_L_L_0 a0 a1 (flat c81 v2 ++ [(iv (a0.getD (toNat (a1.getD (toNat v3) default)) default).1.1.1), (iv (a0.getD (toNat (a1.getD (toNat v3) default)) default).1.1.2.1), (iv (a0.getD (toNat (a1.getD (toNat v3) default)) default).1.1.2.2), (iv (a0.getD (toNat (a1.getD (toNat v3) default)) default).1.2.1.1), (iv (a0.getD (toNat (a1.getD (toNat v3) default)) default).1.2.1.2.1), (iv (a0.getD (toNat (a1.getD (toNat v3) default)) default).1.2.1.2.2), (iv (a0.getD (toNat (a1.getD (toNat v3) default)) default).1.2.2.1), (iv (a0.getD (toNat (a1.getD (toNat v3) default)) default).1.2.2.2.1), (iv (a0.getD (toNat (a1.getD (toNat v3) default)) default).1.2.2.2.2), (iv (a0.getD (toNat (a1.getD (toNat v3) default)) default).2)]) (v2.length + 1) (W (v3 + 1))) (by kernel_rfl) ?_
    have z0 : (W (v3 + 1)) = (v3 + 1) := W_eq (by omega) (by omega)
    have z1 : (flat c81 v2 ++ [(iv (a0.getD (toNat (a1.getD (toNat v3) default)) default).1.1.1), (iv (a0.getD (toNat (a1.getD (toNat v3) default)) default).1.1.2.1), (iv (a0.getD (toNat (a1.getD (toNat v3) default)) default).1.1.2.2), (iv (a0.getD (toNat (a1.getD (toNat v3) default)) default).1.2.1.1), (iv (a0.getD (toNat (a1.getD (toNat v3) default)) default).1.2.1.2.1), (iv (a0.getD (toNat (a1.getD (toNat v3) default)) default).1.2.1.2.2), (iv (a0.getD (toNat (a1.getD (toNat v3) default)) default).1.2.2.1), (iv (a0.getD (toNat (a1.getD (toNat v3) default)) default).1.2.2.2.1), (iv (a0.getD (toNat (a1.getD (toNat v3) default)) default).1.2.2.2.2), (iv (a0.getD (toNat (a1.getD (toNat v3) default)) default).2)]) = (flat c81 (v2 ++ [(a0.getD (toNat (a1.getD (toNat v3) default)) default)])) := (flat_append (c := c81) (l := v2) (m := [(a0.getD (toNat (a1.getD (toNat v3) default)) default)])).symm
    have z2 : (v2.length + 1) = (v2 ++ [(a0.getD (toNat (a1.getD (toNat v3) default)) default)]).length := len_app v2 [(a0.getD (toNat (a1.getD (toNat v3) default)) default)] rfl
    rw [z0, z1, z2]
    exact ih (v2 ++ [(a0.getD (toNat (a1.getD (toNat v3) default)) default)]) (v3 + 1) (by refine ⟨?_, ?_, ?_⟩ <;> (try simp only [Ls]) <;> first | omega | assumption | simp) (by (try simp only [Ls]); omega)
   | false =>
    have q0 := odf h0
    try have hr1 := hir.at (i := toNat v3) (by have _ := h0; omega)
    have e := Eq.refl (S72_L_L_0 a0 a1 (v2, v3)); conv at e => rhs; simp only [S72_L_L_0, h0, cdb]
    rw [loopF_s, e]
    exact rt [.d h0] [] [2] hcx (by kernel_rfl)

def F72_L_L (a0 : TyL) (a1 : List (Int)) : TyL :=
 (loopF (S72_L_L_0 a0 a1) (toNat ((a1.length : Int) - 0) + 1) (([] : TyL), 0))

theorem C72_L_L (a0 : TyL) (a1 : List (Int)) (l0 : a0.length ≤ 9223372036854775807) (l1 : a1.length ≤ 9223372036854775807) (hir : InR a0.length a1) (hl : a1.length ≤ 1048576) : Con Try.prog 72 [(.s 0 0 a0.length 10), (.s 1 0 a1.length 1)] [(.live false true (flat c81 a0)), (.live false true (flat c3 a1))] (.s 2 0 (F72_L_L a0 a1).length 10) [(.live true true (flat c81 (F72_L_L a0 a1)))] := by
 refine con_s Try.func72 (by kernel_rfl) fun cx hcx => ?_
 have e := Eq.refl (F72_L_L a0 a1); conv at e => rhs; simp only [F72_L_L]
 rw [e]
 refine en [] [.slot 5 10] [0, 5, 8, 9, 10] [2] hcx B72_L_L_0 (K72_L_L_0) (st72_L_L_0 a0 a1 (flat c81 ([] : TyL)) 0 0) (toNat ((a1.length : Int) - 0) + 1) (by kernel_rfl) ?_
 exact L72_L_L_0 a0 a1 l0 l1 hir hl hcx (toNat ((a1.length : Int) - 0) + 1) ([] : TyL) 0 (by refine ⟨?_, ?_, ?_⟩ <;> (try simp only [Ls]) <;> first | omega | assumption | simp) (by (try simp only [Ls]); omega)

noncomputable def B73_L_0 : Code := (loopAtD [1, 1, 0, 1] [] (bodyOf Try.f73) []).1
noncomputable def K73_L_0 : List K := (loopAtD [1, 1, 0, 1] [] (bodyOf Try.f73) []).2

def st73_L_0 (a0 : TyL) (v1 v2 v3 v4 v5 v6 v7 : Int) : LS := ⟨slN 84 [(2, (.p 1 0)), (3, (.p 2 0)), (4, (.p 3 0)), (19, (.s 0 0 a0.length 10)), (20, (iv (a0.length : Int))), (21, (iv v1))], [(.live false true (flat c81 a0)), (.live true false [(iv 0), (iv 0), (iv 0)]), (.live true false [(iv v2), (iv v3), (iv v4)]), (.live true false [(iv v5), (iv v6), (iv v7)])]⟩

def S73_L_0 (a0 : TyL) : Int × Int × Int × Int × Int × Int × Int → (Int × Int × Int × Int × Int × Int × Int) ⊕ (Int × Int × Int)
 | (v1, v2, v3, v4, v5, v6, v7) =>
  (bif (decide ((v1 : Int) < (a0.length : Int))) then
   (.inl ((v1 + 1), (imn (imn (imn v2 (F88 (a0.getD (toNat v1) default).1).1.1) (F88 (a0.getD (toNat v1) default).1).2.1.1) (F88 (a0.getD (toNat v1) default).1).2.2.1), (imn (imn (imn v3 (F88 (a0.getD (toNat v1) default).1).1.2.1) (F88 (a0.getD (toNat v1) default).1).2.1.2.1) (F88 (a0.getD (toNat v1) default).1).2.2.2.1), (imn (imn (imn v4 (F88 (a0.getD (toNat v1) default).1).1.2.2) (F88 (a0.getD (toNat v1) default).1).2.1.2.2) (F88 (a0.getD (toNat v1) default).1).2.2.2.2), (imx (imx (imx v5 (F88 (a0.getD (toNat v1) default).1).1.1) (F88 (a0.getD (toNat v1) default).1).2.1.1) (F88 (a0.getD (toNat v1) default).1).2.2.1), (imx (imx (imx v6 (F88 (a0.getD (toNat v1) default).1).1.2.1) (F88 (a0.getD (toNat v1) default).1).2.1.2.1) (F88 (a0.getD (toNat v1) default).1).2.2.2.1), (imx (imx (imx v7 (F88 (a0.getD (toNat v1) default).1).1.2.2) (F88 (a0.getD (toNat v1) default).1).2.1.2.2) (F88 (a0.getD (toNat v1) default).1).2.2.2.2)))
  else
   (.inr ((F89 (W (v2 + v5))), (F89 (W (v3 + v6))), (F89 (W (v4 + v7))))))

theorem L73_L_0 (a0 : TyL) (l0 : a0.length ≤ 9223372036854775807) (hl : 1 ≤ a0.length ∧ a0.length ≤ 1048576) {cx : Cx} (hcx : cx.base = 1) : ∀ (n : Nat) (v1 v2 v3 v4 v5 v6 v7 : Int), (0 ≤ v1) ∧ (v1 ≤ a0.length) → toNat ((a0.length : Int) - v1) < n → Aw.Good Try.prog none 9 (bodyPost Try.prog Try.f73 (RR cx (.a (k3 (loopF (S73_L_0 a0) n (v1, v2, v3, v4, v5, v6, v7)))) [] [])) cx [] (.l B73_L_0 n :: K73_L_0) (st73_L_0 a0 v1 v2 v3 v4 v5 v6 v7) := by
 intro n
 induction n with
 | zero => intro v1 v2 v3 v4 v5 v6 v7 hi hn; exact absurd hn (nlz _)
 | succ n ih =>
   intro v1 v2 v3 v4 v5 v6 v7 hi hn
   refine good_round ?_
   cases h0 : (decide ((v1 : Int) < (a0.length : Int))) with
   | true =>
    have q0 := odt h0
    have e := Eq.refl (S73_L_0 a0 (v1, v2, v3, v4, v5, v6, v7)); conv at e => rhs; simp only [S73_L_0, h0, cdb]
    rw [loopF_inl e]
    refine ba [.d h0, .i v1 (a0.length), .L c81_len a0 v1 0 10, .c [] (C88 (a0.getD (toNat v1) default).1), .u 200, .T, .i 0 3 (by decide), .u 0, .T, .i 1 3 (by decide), .u 0, .T, .i 2 3 (by decide), .u 0, .F] [] [2, 3, 4, 19, 20, 21] [1, 2, 3] hcx (m := n) B73_L_0 (K73_L_0) (st73_L_0 a0 (W (v1 + 1)) (imn (imn (imn v2 (F88 (a0.getD (toNat v1) default).1).1.1) (F88 (a0.getD (toNat v1) default).1).2.1.1) (F88 (a0.getD (toNat v1) default).1).2.2.1) (imn (imn (imn v3 (F88 (a0.getD (toNat v1) default).1).1.2.1) (F88 (a0.getD (toNat v1) default).1).2.1.2.1) (F88 (a0.getD (toNat v1) default).1).2.2.2.1) (imn (imn (imn v4 (F88 (a0.getD (toNat v1) default).1).1.2.2) (F88 (a0.getD (toNat v1) default).1).2.1.2.2) (F88 (a0.getD (toNat v1) default).1).2.2.2.2) (imx (imx (imx v5 (F88 (a0.getD (toNat v1) default).1).1.1) (F88 (a0.getD (toNat v1) default).1).2.1.1) (F88 (a0.getD (toNat v1) default).1).2.2.1) (imx (imx (imx v6 (F88 (a0.getD (toNat v1) default).1).1.2.1) (F88 (a0.getD (toNat v1) default).1).2.1.2.1) (F88 (a0.getD (toNat v1) default).1).2.2.2.1) (imx (imx (imx v7 (F88 (a0.getD (toNat v1) default).1).1.2.2) (F88 (a0.getD (toNat v1) default).1).2.1.2.2) (F88 (a0.getD (toNat v1) default).1).2.2.2.2)) (by kernel_rfl) ?_
    have z0 : (W (v1 + 1)) = (v1 + 1) := W_eq (by omega) (by omega)
    rw [z0]
    exact ih (v1 + 1) (imn (imn (imn v2 (F88 (a0.getD (toNat v1) default).1).1.1) (F88 (a0.getD (toNat v1) default).1).2.1.1) (F88 (a0.getD (toNat v1) default).1).2.2.1) (imn (imn (imn v3 (F88 (a0.getD (toNat v1) default).1).1.2.1) (F88 (a0.getD (toNat v1) default).1).2.1.2.1) (F88 (a0.getD (toNat v1) default).1).2.2.2.1) (imn (imn (imn v4 (F88 (a0.getD (toNat v1) default).1).1.2.2) (F88 (a0.getD (toNat v1) default).1).2.1.2.2) (F88 (a0.getD (toNat v1) default).1).2.2.2.2) (imx (imx (imx v5 (F88 (a0.getD (toNat v1) default).1).1.1) (F88 (a0.getD (toNat v1) default).1).2.1.1) (F88 (a0.getD (toNat v1) default).1).2.2.1) (imx (imx (imx v6 (F88 (a0.getD (toNat v1) default).1).1.2.1) (F88 (a0.getD (toNat v1) default).1).2.1.2.1) (F88 (a0.getD (toNat v1) default).1).2.2.2.1) (imx (imx (imx v7 (F88 (a0.getD (toNat v1) default).1).1.2.2) (F88 (a0.getD (toNat v1) default).1).2.1.2.2) (F88 (a0.getD (toNat v1) default).1).2.2.2.2) (by refine ⟨?_, ?_⟩ <;> (try simp only [Ls]) <;> first | omega | assumption | simp) (by (try simp only [Ls]); omega)
   | false =>
    have q0 := odf h0
    have e := Eq.refl (S73_L_0 a0 (v1, v2, v3, v4, v5, v6, v7)); conv at e => rhs; simp only [S73_L_0, h0, cdb]
    rw [loopF_s, e]
    exact rt [.d h0, .c [] (C89 (W (v2 + v5))), .c [] (C89 (W (v3 + v6))), .c [] (C89 (W (v4 + v7)))] [] [] hcx (by kernel_rfl)

def F73_L (a0 : TyL) : Int × Int × Int :=
 (loopF (S73_L_0 a0) (toNat ((a0.length : Int) - 0) + 1) (0, (a0.getD (toNat 0) default).1.1.1, (a0.getD (toNat 0) default).1.1.2.1, (a0.getD (toNat 0) default).1.1.2.2, (a0.getD (toNat 0) default).1.1.1, (a0.getD (toNat 0) default).1.1.2.1, (a0.getD (toNat 0) default).1.1.2.2))

theorem C73_L (a0 : TyL) (l0 : a0.length ≤ 9223372036854775807) (hl : 1 ≤ a0.length ∧ a0.length ≤ 1048576) : Con Try.prog 73 [(.s 0 0 a0.length 10)] [(.live false true (flat c81 a0))] (.a (k3 (F73_L a0))) [] := by
 refine con_s Try.func73 (by kernel_rfl) fun cx hcx => ?_
 have e := Eq.refl (F73_L a0); conv at e => rhs; simp only [F73_L]
 rw [e]
 refine en [.i 0 (a0.length), .L c81_len a0 0 0 3, .i 0 (a0.length), .L c81_len a0 0 0 3] [] [2, 3, 4, 19, 20, 21] [1, 2, 3] hcx B73_L_0 (K73_L_0) (st73_L_0 a0 0 ((a0.getD (toNat 0) default).1.1.1) ((a0.getD (toNat 0) default).1.1.2.1) ((a0.getD (toNat 0) default).1.1.2.2) ((a0.getD (toNat 0) default).1.1.1) ((a0.getD (toNat 0) default).1.1.2.1) ((a0.getD (toNat 0) default).1.1.2.2)) (toNat ((a0.length : Int) - 0) + 1) (by kernel_rfl) ?_
 exact L73_L_0 a0 l0 hl hcx (toNat ((a0.length : Int) - 0) + 1) 0 ((a0.getD (toNat 0) default).1.1.1) ((a0.getD (toNat 0) default).1.1.2.1) ((a0.getD (toNat 0) default).1.1.2.2) ((a0.getD (toNat 0) default).1.1.1) ((a0.getD (toNat 0) default).1.1.2.1) ((a0.getD (toNat 0) default).1.1.2.2) (by refine ⟨?_, ?_⟩ <;> (try simp only [Ls]) <;> first | omega | assumption | simp) (by (try simp only [Ls]); omega)

def F118 (a0 : Int) (a1 : Int) (a2 : Int) : Bool :=
 (bif (decide ((a1 : Int) ≤ a0)) then
  (decide ((a0 : Int) ≤ a2))
 else
  false)

theorem C118 (a0 : Int) (a1 : Int) (a2 : Int) : Con Try.prog 118 [(iv a0), (iv a1), (iv a2)] [] (.v (.bool (F118 a0 a1 a2))) [] := by
 refine con_s Try.func118 (by kernel_rfl) fun cx hcx => ?_
 cases h0 : (decide ((a1 : Int) ≤ a0)) with
 | true =>
  have q0 := odt h0
  have e := Eq.refl (F118 a0 a1 a2); conv at e => rhs; simp only [F118, h0, cdb]
  rw [e]
  exact rt [.d h0] [] [] hcx (by kernel_rfl)
 | false =>
  have q0 := odf h0
  have e := Eq.refl (F118 a0 a1 a2); conv at e => rhs; simp only [F118, h0, cdb]
  rw [e]
  exact rt [.d h0] [] [] hcx (by kernel_rfl)

def F106 (a0 : Int × Int × Int) (a1 : Int) : Bool :=
 (bif (F118 a0.1 (W (0 - a1)) a1) then
  (bif (F118 a0.2.1 (W (0 - a1)) a1) then
   (F118 a0.2.2 (W (0 - a1)) a1)
  else
   false)
 else
  false)

theorem C106 (a0 : Int × Int × Int) (a1 : Int) : Con Try.prog 106 [(.a (k3 a0)), (iv a1)] [] (.v (.bool (F106 a0 a1))) [] := by
 refine con_s Try.func106 (by kernel_rfl) fun cx hcx => ?_
 let t0 : List (St Try.prog) := [.c [] (C118 a0.1 (W (0 - a1)) a1)]
 cases h0 : (F118 a0.1 (W (0 - a1)) a1) with
 | true =>
  let t1 : List (St Try.prog) := (t0 ++ [.d h0, .c [] (C118 a0.2.1 (W (0 - a1)) a1)])
  cases h1 : (F118 a0.2.1 (W (0 - a1)) a1) with
  | true =>
   have e := Eq.refl (F106 a0 a1); conv at e => rhs; simp only [F106, h0, h1, cdb]
   rw [e]
   exact rt (t1 ++ [.d h1, .c [] (C118 a0.2.2 (W (0 - a1)) a1)]) [] [] hcx (by kernel_rfl)
  | false =>
   have e := Eq.refl (F106 a0 a1); conv at e => rhs; simp only [F106, h0, h1, cdb]
   rw [e]
   exact rt (t1 ++ [.d h1]) [] [] hcx (by kernel_rfl)
 | false =>
  have e := Eq.refl (F106 a0 a1); conv at e => rhs; simp only [F106, h0, cdb]
  rw [e]
  exact rt (t0 ++ [.d h0]) [] [] hcx (by kernel_rfl)

def F91 (a0 : Int × Int × Int) (a1 : Int × Int × Int) : Int × Int × Int :=
 ((W (a0.1 - a1.1)), (W (a0.2.1 - a1.2.1)), (W (a0.2.2 - a1.2.2)))

theorem C91 (a0 : Int × Int × Int) (a1 : Int × Int × Int) : Con Try.prog 91 [(.a (k3 a0)), (.a (k3 a1))] [] (.a (k3 (F91 a0 a1))) [] := by
 refine con_s Try.func91 (by kernel_rfl) fun cx hcx => ?_
 have e := Eq.refl (F91 a0 a1); conv at e => rhs; simp only [F91]
 rw [e]
 exact rt [] [] [] hcx (by kernel_rfl)

def F92 (a0 : Int × Int × Int) (a1 : Int × Int × Int) : Int :=
 (W ((W ((W (a0.1 * a1.1)) + (W (a0.2.1 * a1.2.1)))) + (W (a0.2.2 * a1.2.2))))

theorem C92 (a0 : Int × Int × Int) (a1 : Int × Int × Int) : Con Try.prog 92 [(.a (k3 a0)), (.a (k3 a1))] [] (iv (F92 a0 a1)) [] := by
 refine con_s Try.func92 (by kernel_rfl) fun cx hcx => ?_
 have e := Eq.refl (F92 a0 a1); conv at e => rhs; simp only [F92]
 rw [e]
 exact rt [] [] [] hcx (by kernel_rfl)

def F90_L (a0 : TyL) (a1 : Int × Int × Int) : Int :=
 (bif (((F32_L a0) : Int) != 0) then
  (F32_L a0)
 else
  (bif (!(F106 a1 64)) then
   1
  else
   0))

theorem C90_L (a0 : TyL) (a1 : Int × Int × Int) (l0 : a0.length ≤ 9223372036854775807) : Con Try.prog 90 [(.s 0 0 a0.length 10), (.a (k3 a1))] [(.live false true (flat c81 a0))] (iv (F90_L a0 a1)) [] := by
 refine con_s Try.func90 (by kernel_rfl) fun cx hcx => ?_
 let t0 : List (St Try.prog) := [.c [0] (C32_L a0 (by omega))]
 cases h0 : (((F32_L a0) : Int) != 0) with
 | true =>
  have q0 := bne_iff_ne.1 h0
  have e := Eq.refl (F90_L a0 a1); conv at e => rhs; simp only [F90_L, h0, cdb]
  rw [e]
  exact rt (t0 ++ [.d h0]) [] [] hcx (by kernel_rfl)
 | false =>
  have q0 := bne_eq_false_iff_eq.1 h0
  let t1 : List (St Try.prog) := (t0 ++ [.d h0, .c [] (C106 a1 64)])
  cases h1 : (!(F106 a1 64)) with
  | true =>
   have e := Eq.refl (F90_L a0 a1); conv at e => rhs; simp only [F90_L, h0, h1, cdb]
   rw [e]
   exact rt (t1 ++ [.d h1]) [] [] hcx (by kernel_rfl)
  | false =>
   have e := Eq.refl (F90_L a0 a1); conv at e => rhs; simp only [F90_L, h0, h1, cdb]
   rw [e]
   exact rt (t1 ++ [.d h1]) [] [] hcx (by kernel_rfl)

noncomputable def B74_L_0 : Code := (loopAtD [1, 1, 1, 0, 1] [] (bodyOf Try.f74) []).1
noncomputable def K74_L_0 : List K := (loopAtD [1, 1, 1, 0, 1] [] (bodyOf Try.f74) []).2

def st74_L_0 (a0 : TyL) (a1 : Int × Int × Int) (v1 v2 : Int) : LS := ⟨slN 49 [(3, (.p 1 0)), (7, (iv v1)), (19, (.s 0 0 a0.length 10)), (20, (iv (a0.length : Int))), (21, (iv v2))], [(.live false true (flat c81 a0)), (.live true false (k3 a1))]⟩

def S74_L_0 (a0 : TyL) (a1 : Int × Int × Int) : Int × Int → (Int × Int) ⊕ (Int × Int)
 | (v1, v2) =>
  (bif (decide ((v2 : Int) < (a0.length : Int))) then
   (.inl ((imx (imx (imx v1 (F92 (F91 (a0.getD (toNat v2) default).1.1 a1) (F91 (a0.getD (toNat v2) default).1.1 a1))) (F92 (F91 (a0.getD (toNat v2) default).1.2.1 a1) (F91 (a0.getD (toNat v2) default).1.2.1 a1))) (F92 (F91 (a0.getD (toNat v2) default).1.2.2 a1) (F91 (a0.getD (toNat v2) default).1.2.2 a1))), (v2 + 1)))
  else
   (.inr (v1, 0)))

theorem L74_L_0 (a0 : TyL) (a1 : Int × Int × Int) (l0 : a0.length ≤ 9223372036854775807) (hl : a0.length ≤ 1048576) {cx : Cx} (hcx : cx.base = 1) : ∀ (n : Nat) (v1 v2 : Int), (0 ≤ v2) ∧ (v2 ≤ a0.length) → toNat ((a0.length : Int) - v2) < n → Aw.Good Try.prog none 9 (bodyPost Try.prog Try.f74 (RR cx (.t (k2 (loopF (S74_L_0 a0 a1) n (v1, v2)))) [] [])) cx [] (.l B74_L_0 n :: K74_L_0) (st74_L_0 a0 a1 v1 v2) := by
 intro n
 induction n with
 | zero => intro v1 v2 hi hn; exact absurd hn (nlz _)
 | succ n ih =>
   intro v1 v2 hi hn
   refine good_round ?_
   cases h0 : (decide ((v2 : Int) < (a0.length : Int))) with
   | true =>
    have q0 := odt h0
    have e := Eq.refl (S74_L_0 a0 a1 (v1, v2)); conv at e => rhs; simp only [S74_L_0, h0, cdb]
    rw [loopF_inl e]
    refine ba [.d h0, .i v2 (a0.length), .L c81_len a0 v2 0 10, .u 200, .T, .i 0 3 (by decide), .c [] (C91 (a0.getD (toNat v2) default).1.1 a1), .c [] (C92 (F91 (a0.getD (toNat v2) default).1.1 a1) (F91 (a0.getD (toNat v2) default).1.1 a1)), .u 0, .T, .i 1 3 (by decide), .c [] (C91 (a0.getD (toNat v2) default).1.2.1 a1), .c [] (C92 (F91 (a0.getD (toNat v2) default).1.2.1 a1) (F91 (a0.getD (toNat v2) default).1.2.1 a1)), .u 0, .T, .i 2 3 (by decide), .c [] (C91 (a0.getD (toNat v2) default).1.2.2 a1), .c [] (C92 (F91 (a0.getD (toNat v2) default).1.2.2 a1) (F91 (a0.getD (toNat v2) default).1.2.2 a1)), .u 0, .F] [] [3, 7, 19, 20, 21] [1] hcx (m := n) B74_L_0 (K74_L_0) (st74_L_0 a0 a1 (imx (imx (imx v1 (F92 (F91 (a0.getD (toNat v2) default).1.1 a1) (F91 (a0.getD (toNat v2) default).1.1 a1))) (F92 (F91 (a0.getD (toNat v2) default).1.2.1 a1) (F91 (a0.getD (toNat v2) default).1.2.1 a1))) (F92 (F91 (a0.getD (toNat v2) default).1.2.2 a1) (F91 (a0.getD (toNat v2) default).1.2.2 a1))) (W (v2 + 1))) (by kernel_rfl) ?_
    have z0 : (W (v2 + 1)) = (v2 + 1) := W_eq (by omega) (by omega)
    rw [z0]
    exact ih (imx (imx (imx v1 (F92 (F91 (a0.getD (toNat v2) default).1.1 a1) (F91 (a0.getD (toNat v2) default).1.1 a1))) (F92 (F91 (a0.getD (toNat v2) default).1.2.1 a1) (F91 (a0.getD (toNat v2) default).1.2.1 a1))) (F92 (F91 (a0.getD (toNat v2) default).1.2.2 a1) (F91 (a0.getD (toNat v2) default).1.2.2 a1))) (v2 + 1) (by refine ⟨?_, ?_⟩ <;> (try simp only [Ls]) <;> first | omega | assumption | simp) (by (try simp only [Ls]); omega)
   | false =>
    have q0 := odf h0
    have e := Eq.refl (S74_L_0 a0 a1 (v1, v2)); conv at e => rhs; simp only [S74_L_0, h0, cdb]
    rw [loopF_s, e]
    exact rt [.d h0] [] [] hcx (by kernel_rfl)

def F74_L (a0 : TyL) (a1 : Int × Int × Int) : Int × Int :=
 (bif (((F90_L a0 a1) : Int) != 0) then
  (0, (F90_L a0 a1))
 else
  (loopF (S74_L_0 a0 a1) (toNat ((a0.length : Int) - 0) + 1) (0, 0)))

theorem C74_L (a0 : TyL) (a1 : Int × Int × Int) (l0 : a0.length ≤ 9223372036854775807) (hl : a0.length ≤ 1048576) : Con Try.prog 74 [(.s 0 0 a0.length 10), (.a (k3 a1))] [(.live false true (flat c81 a0))] (.t (k2 (F74_L a0 a1))) [] := by
 refine con_s Try.func74 (by kernel_rfl) fun cx hcx => ?_
 let t0 : List (St Try.prog) := [.c [0] (C90_L a0 a1 (by omega))]
 cases h0 : (((F90_L a0 a1) : Int) != 0) with
 | true =>
  have q0 := bne_iff_ne.1 h0
  have e := Eq.refl (F74_L a0 a1); conv at e => rhs; simp only [F74_L, h0, cdb]
  rw [e]
  exact rt (t0 ++ [.d h0]) [] [] hcx (by kernel_rfl)
 | false =>
  have q0 := bne_eq_false_iff_eq.1 h0
  have e := Eq.refl (F74_L a0 a1); conv at e => rhs; simp only [F74_L, h0, cdb]
  rw [e]
  refine en (t0 ++ [.d h0]) [] [3, 7, 19, 20, 21] [1] hcx B74_L_0 (K74_L_0) (st74_L_0 a0 a1 0 0) (toNat ((a0.length : Int) - 0) + 1) (by kernel_rfl) ?_
  exact L74_L_0 a0 a1 l0 hl hcx (toNat ((a0.length : Int) - 0) + 1) 0 0 (by refine ⟨?_, ?_⟩ <;> (try simp only [Ls]) <;> first | omega | assumption | simp) (by (try simp only [Ls]); omega)


noncomputable def B76_L_1 : Code := (loopAtD [1, 1, 0, 1, 0, 1, 1, 0, 1, 1, 0, 1] [0] (bodyOf Try.f76) []).1
noncomputable def K76_L_1 (m0 : Nat) : List K := (loopAtD [1, 1, 0, 1, 0, 1, 1, 0, 1, 1, 0, 1] [m0] (bodyOf Try.f76) []).2

def st76_L_1 (a0 : TyL × Int × List (Int) × TyN) (a1 : List (Int)) (v15 v16 v17 v18 v19 v20 v21 : Int) : LS := ⟨slN 59 [(0, (.p 0 0)), (1, (.s 4 0 a1.length 1)), (4, (.p 5 0)), (5, (iv v15)), (6, (iv v16)), (7, (iv v17)), (8, (iv v18)), (9, (iv v19)), (12, (iv v20)), (27, (.s 4 0 a1.length 1)), (28, (iv (a1.length : Int))), (29, (iv v21))], [(.live false false [(.s 1 0 a0.1.length 10), (iv a0.2.1), (.s 2 0 a0.2.2.1.length 1), (.s 3 0 a0.2.2.2.length 8)]), (.live false true (flat c81 a0.1)), (.live false true (flat c3 a0.2.2.1)), (.live false true (flat c40 a0.2.2.2)), (.live false true (flat c3 a1)), (.live true false [(.v (.pointer none)), (iv 0)])]⟩

def S76_L_1 (a0 : TyL × Int × List (Int) × TyN) (a1 : List (Int)) : Int × Int × Int × Int × Int × Int × Int → (Int × Int × Int × Int × Int × Int × Int) ⊕ ((Int × Int × Int) ⊕ TyS)
 | (v15, v16, v17, v18, v19, v20, v21) =>
  (bif (decide ((v21 : Int) < (a1.length : Int))) then
   (.inl (v15, v16, v17, (if ((F95 (a0.1, a0.2.1, (a0.2.2.1, a0.2.2.2)) (a1.getD (toNat v21) default) v17) : Int) < v18 then (F95 (a0.1, a0.2.1, (a0.2.2.1, a0.2.2.2)) (a1.getD (toNat v21) default) v17) else v18), (if (v19 : Int) < (F95 (a0.1, a0.2.1, (a0.2.2.1, a0.2.2.2)) (a1.getD (toNat v21) default) v17) then (F95 (a0.1, a0.2.1, (a0.2.2.1, a0.2.2.2)) (a1.getD (toNat v21) default) v17) else v19), v20, (v21 + 1)))
  else
   (bif (decide (((W (v19 - v18)) : Int) > v16)) then
    (.inr (.inl (v17, (W (v19 - v18)), (v20 + 1))))
   else
    (.inr (.inl (v15, v16, (v20 + 1))))))

noncomputable def B76_L_0 : Code := (loopAtD [1, 1, 0, 1] [] (bodyOf Try.f76) []).1
noncomputable def K76_L_0 : List K := (loopAtD [1, 1, 0, 1] [] (bodyOf Try.f76) []).2

def st76_L_0 (a0 : TyL × Int × List (Int) × TyN) (a1 : List (Int)) (v12 v13 v14 : Int) : LS := ⟨slN 59 [(0, (.p 0 0)), (1, (.s 4 0 a1.length 1)), (4, (.p 5 0)), (5, (iv v12)), (6, (iv v13)), (12, (iv v14))], [(.live false false [(.s 1 0 a0.1.length 10), (iv a0.2.1), (.s 2 0 a0.2.2.1.length 1), (.s 3 0 a0.2.2.2.length 8)]), (.live false true (flat c81 a0.1)), (.live false true (flat c3 a0.2.2.1)), (.live false true (flat c40 a0.2.2.2)), (.live false true (flat c3 a1)), (.live true false [(.v (.pointer none)), (iv 0)])]⟩

def S76_L_0 (a0 : TyL × Int × List (Int) × TyN) (a1 : List (Int)) : Int × Int × Int → (Int × Int × Int) ⊕ TyS
 | (v12, v13, v14) =>
  (bif (decide ((v14 : Int) < 3)) then
   (loopF (S76_L_1 a0 a1) (toNat ((a1.length : Int) - 0) + 1) (v12, v13, v14, (F95 (a0.1, a0.2.1, (a0.2.2.1, a0.2.2.2)) (a1.getD (toNat 0) default) v14), (F95 (a0.1, a0.2.1, (a0.2.2.1, a0.2.2.2)) (a1.getD (toNat 0) default) v14), v14, 0))
  else
   (.inr ((a0.1, a0.2.1, (a0.2.2.1, a0.2.2.2)), v12)))

theorem L76_L_1 (a0 : TyL × Int × List (Int) × TyN) (a1 : List (Int)) (l0_1 : a0.1.length ≤ 9223372036854775807) (l0_2_2_1 : a0.2.2.1.length ≤ 9223372036854775807) (l0_2_2_2 : a0.2.2.2.length ≤ 9223372036854775807) (l1 : a1.length ≤ 9223372036854775807) (hir : InR a0.1.length a1) (hl : 1 ≤ a1.length ∧ a1.length ≤ 1048576) {cx : Cx} (hcx : cx.base = 5)
   (n0 : Nat) (g0 : ∀ (v12 v13 v14 : Int), (0 ≤ v14) ∧ (v14 ≤ 3) → toNat (3 - v14) < n0 → Aw.Good Try.prog none 9 (bodyPost Try.prog Try.f76 (RR cx (.a [(.p 0 0), (iv (loopF (S76_L_0 a0 a1) n0 (v12, v13, v14)).2)]) [] [])) cx [] (.l B76_L_0 n0 :: K76_L_0) (st76_L_0 a0 a1 v12 v13 v14)) : ∀ (n : Nat) (v15 v16 v17 v18 v19 v20 v21 : Int), (0 ≤ v21) ∧ (v21 ≤ a1.length) ∧ ((0 ≤ v20)) ∧ ((v20 ≤ 3)) ∧ (v20 < 3) ∧ (toNat (3 - v20) < n0 + 1) → toNat ((a1.length : Int) - v21) < n → Aw.Good Try.prog none 9 (bodyPost Try.prog Try.f76 (RR cx (.a [(.p 0 0), (iv (thenF (S76_L_0 a0 a1) n0 (loopF (S76_L_1 a0 a1) n (v15, v16, v17, v18, v19, v20, v21))).2)]) [] [])) cx [] (.l B76_L_1 n :: K76_L_1 n0) (st76_L_1 a0 a1 v15 v16 v17 v18 v19 v20 v21) := by
 intro n
 induction n with
 | zero => intro v15 v16 v17 v18 v19 v20 v21 hi hn; exact absurd hn (nlz _)
 | succ n ih =>
   intro v15 v16 v17 v18 v19 v20 v21 hi hn
   refine good_round ?_
   try have hr1 := hir.at (i := toNat v21) (by have _ := h0; omega)
   cases h0 : (decide ((v21 : Int) < (a1.length : Int))) with
   | true =>
    have q0 := odt h0
    try have hr1 := hir.at (i := toNat v21) (by have _ := h0; omega)
    have e := Eq.refl (S76_L_1 a0 a1 (v15, v16, v17, v18, v19, v20, v21)); conv at e => rhs; simp only [S76_L_1, h0, cdb]
    rw [loopF_inl e]
    refine ba [.d h0, .i v21 (a1.length), .L c3_len a1 v21 0 1, .c [0, 1, 2, 3] (C95 (a0.1, a0.2.1, (a0.2.2.1, a0.2.2.2)) (a1.getD (toNat v21) default) v17 (by (try simp only [Lt]); omega) (by (try simp only [Lt]); omega) (by (try simp only [Lt]); omega) (by (try simp only [Lt]); omega)), .c [0, 1, 2, 3] (C95 (a0.1, a0.2.1, (a0.2.2.1, a0.2.2.2)) (a1.getD (toNat v21) default) v17 (by (try simp only [Lt]); omega) (by (try simp only [Lt]); omega) (by (try simp only [Lt]); omega) (by (try simp only [Lt]); omega))] [] [0, 1, 4, 5, 6, 7, 8, 9, 12, 27, 28, 29] [5] hcx (m := n) B76_L_1 (K76_L_1 n0) (st76_L_1 a0 a1 v15 v16 v17 (if ((F95 (a0.1, a0.2.1, (a0.2.2.1, a0.2.2.2)) (a1.getD (toNat v21) default) v17) : Int) < v18 then (F95 (a0.1, a0.2.1, (a0.2.2.1, a0.2.2.2)) (a1.getD (toNat v21) default) v17) else v18) (if (v19 : Int) < (F95 (a0.1, a0.2.1, (a0.2.2.1, a0.2.2.2)) (a1.getD (toNat v21) default) v17) then (F95 (a0.1, a0.2.1, (a0.2.2.1, a0.2.2.2)) (a1.getD (toNat v21) default) v17) else v19) v20 (W (v21 + 1))) (by kernel_rfl) ?_
    have z0 : (W (v21 + 1)) = (v21 + 1) := W_eq (by omega) (by omega)
    rw [z0]
    exact ih v15 v16 v17 (if ((F95 (a0.1, a0.2.1, (a0.2.2.1, a0.2.2.2)) (a1.getD (toNat v21) default) v17) : Int) < v18 then (F95 (a0.1, a0.2.1, (a0.2.2.1, a0.2.2.2)) (a1.getD (toNat v21) default) v17) else v18) (if (v19 : Int) < (F95 (a0.1, a0.2.1, (a0.2.2.1, a0.2.2.2)) (a1.getD (toNat v21) default) v17) then (F95 (a0.1, a0.2.1, (a0.2.2.1, a0.2.2.2)) (a1.getD (toNat v21) default) v17) else v19) v20 (v21 + 1) (by refine ⟨?_, ?_, ?_, ?_, ?_, ?_⟩ <;> (try simp only [Ls]) <;> first | omega | assumption | exact hi.2.1 | exact hi.2.2.1 | exact hi.2.2.2.1 | exact hi.2.2.2.2.1 | exact hi.2.2.2.2.2.1 | simp) (by (try simp only [Ls]); omega)
   | false =>
    have q0 := odf h0
    try have hr1 := hir.at (i := toNat v21) (by have _ := h0; omega)
    let t1 : List (St Try.prog) := [.d h0]
    cases h1 : (decide (((W (v19 - v18)) : Int) > v16)) with
    | true =>
     have q1 := odt h1
     try have hr1 := hir.at (i := toNat v21) (by have _ := h0; omega)
     have e := Eq.refl (S76_L_1 a0 a1 (v15, v16, v17, v18, v19, v20, v21)); conv at e => rhs; simp only [S76_L_1, h0, h1, cdb]
     rw [loopF_s, e]
     refine ba (t1 ++ [.d h1]) [] [0, 1, 4, 5, 6, 12] [5] hcx (m := n0) B76_L_0 (K76_L_0) (st76_L_0 a0 a1 v17 (W (v19 - v18)) (W (v20 + 1))) (by kernel_rfl) ?_
     have z0 : (W (v20 + 1)) = (v20 + 1) := W_eq (by omega) (by omega)
     rw [z0]
     exact g0 v17 (W (v19 - v18)) (v20 + 1) (by refine ⟨?_, ?_⟩ <;> (try simp only [Ls]) <;> first | omega | assumption | simp) (by (try simp only [Ls]); omega)
    | false =>
     have q1 := odf h1
     try have hr1 := hir.at (i := toNat v21) (by have _ := h0; omega)
     have e := Eq.refl (S76_L_1 a0 a1 (v15, v16, v17, v18, v19, v20, v21)); conv at e => rhs; simp only [S76_L_1, h0, h1, cdb]
     rw [loopF_s, e]
     refine ba (t1 ++ [.d h1]) [] [0, 1, 4, 5, 6, 12] [5] hcx (m := n0) B76_L_0 (K76_L_0) (st76_L_0 a0 a1 v15 v16 (W (v20 + 1))) (by kernel_rfl) ?_
     have z0 : (W (v20 + 1)) = (v20 + 1) := W_eq (by omega) (by omega)
     rw [z0]
     exact g0 v15 v16 (v20 + 1) (by refine ⟨?_, ?_⟩ <;> (try simp only [Ls]) <;> first | omega | assumption | simp) (by (try simp only [Ls]); omega)

theorem L76_L_0 (a0 : TyL × Int × List (Int) × TyN) (a1 : List (Int)) (l0_1 : a0.1.length ≤ 9223372036854775807) (l0_2_2_1 : a0.2.2.1.length ≤ 9223372036854775807) (l0_2_2_2 : a0.2.2.2.length ≤ 9223372036854775807) (l1 : a1.length ≤ 9223372036854775807) (hir : InR a0.1.length a1) (hl : 1 ≤ a1.length ∧ a1.length ≤ 1048576) {cx : Cx} (hcx : cx.base = 5) : ∀ (n : Nat) (v12 v13 v14 : Int), (0 ≤ v14) ∧ (v14 ≤ 3) → toNat (3 - v14) < n → Aw.Good Try.prog none 9 (bodyPost Try.prog Try.f76 (RR cx (.a [(.p 0 0), (iv (loopF (S76_L_0 a0 a1) n (v12, v13, v14)).2)]) [] [])) cx [] (.l B76_L_0 n :: K76_L_0) (st76_L_0 a0 a1 v12 v13 v14) := by
 intro n
 induction n with
 | zero => intro v12 v13 v14 hi hn; exact absurd hn (nlz _)
 | succ n ih =>
   intro v12 v13 v14 hi hn
   refine good_round ?_
   have hr0 := hir.at (i := 0) (by omega)
   cases h0 : (decide ((v14 : Int) < 3)) with
   | true =>
    have q0 := odt h0
    have e := Eq.refl (S76_L_0 a0 a1 (v12, v13, v14)); conv at e => rhs; simp only [S76_L_0, h0, cdb]
    rw [loopF_s, e]
    refine en [.d h0, .i 0 (a1.length), .L c3_len a1 0 0 1, .c [0, 1, 2, 3] (C95 (a0.1, a0.2.1, (a0.2.2.1, a0.2.2.2)) (a1.getD (toNat 0) default) v14 (by (try simp only [Lt]); omega) (by (try simp only [Lt]); omega) (by (try simp only [Lt]); omega) (by (try simp only [Lt]); omega)), .i 0 (a1.length), .L c3_len a1 0 0 1, .c [0, 1, 2, 3] (C95 (a0.1, a0.2.1, (a0.2.2.1, a0.2.2.2)) (a1.getD (toNat 0) default) v14 (by (try simp only [Lt]); omega) (by (try simp only [Lt]); omega) (by (try simp only [Lt]); omega) (by (try simp only [Lt]); omega))] [] [0, 1, 4, 5, 6, 7, 8, 9, 12, 27, 28, 29] [5] hcx B76_L_1 (K76_L_1 n) (st76_L_1 a0 a1 v12 v13 v14 (F95 (a0.1, a0.2.1, (a0.2.2.1, a0.2.2.2)) (a1.getD (toNat 0) default) v14) (F95 (a0.1, a0.2.1, (a0.2.2.1, a0.2.2.2)) (a1.getD (toNat 0) default) v14) v14 0) (toNat ((a1.length : Int) - 0) + 1) (by kernel_rfl) ?_
    exact L76_L_1 a0 a1 l0_1 l0_2_2_1 l0_2_2_2 l1 hir hl hcx n ih (toNat ((a1.length : Int) - 0) + 1) v12 v13 v14 (F95 (a0.1, a0.2.1, (a0.2.2.1, a0.2.2.2)) (a1.getD (toNat 0) default) v14) (F95 (a0.1, a0.2.1, (a0.2.2.1, a0.2.2.2)) (a1.getD (toNat 0) default) v14) v14 0 (by refine ⟨?_, ?_, ?_, ?_, ?_, ?_⟩ <;> (try simp only [Ls]) <;> first | omega | assumption | exact hi.2.1 | exact hi.2.2.1 | exact hi.2.2.2.1 | exact hi.2.2.2.2.1 | exact hi.2.2.2.2.2.1 | simp) (by (try simp only [Ls]); omega)
   | false =>
    have q0 := odf h0
    have e := Eq.refl (S76_L_0 a0 a1 (v12, v13, v14)); conv at e => rhs; simp only [S76_L_0, h0, cdb]
    rw [loopF_s, e]
    exact rt [.d h0] [] [] hcx (by kernel_rfl)

def F76_L (a0 : TyL × Int × List (Int) × TyN) (a1 : List (Int)) : TyB × Int :=
 (loopF (S76_L_0 a0 a1) (toNat (3 - 0) + 1) (0, (-1), 0))

theorem C76_L (a0 : TyL × Int × List (Int) × TyN) (a1 : List (Int)) (l0_1 : a0.1.length ≤ 9223372036854775807) (l0_2_2_1 : a0.2.2.1.length ≤ 9223372036854775807) (l0_2_2_2 : a0.2.2.2.length ≤ 9223372036854775807) (l1 : a1.length ≤ 9223372036854775807) (hir : InR a0.1.length a1) (hl : 1 ≤ a1.length ∧ a1.length ≤ 1048576) : Con Try.prog 76 [(.p 0 0), (.s 4 0 a1.length 1)] [(.live false false [(.s 1 0 a0.1.length 10), (iv a0.2.1), (.s 2 0 a0.2.2.1.length 1), (.s 3 0 a0.2.2.2.length 8)]), (.live false true (flat c81 a0.1)), (.live false true (flat c3 a0.2.2.1)), (.live false true (flat c40 a0.2.2.2)), (.live false true (flat c3 a1))] (.a [(.p 0 0), (iv (F76_L a0 a1).2)]) [] := by
 refine con_s Try.func76 (by kernel_rfl) fun cx hcx => ?_
 have e := Eq.refl (F76_L a0 a1); conv at e => rhs; simp only [F76_L]
 rw [e]
 refine en [] [] [0, 1, 4, 5, 6, 12] [5] hcx B76_L_0 (K76_L_0) (st76_L_0 a0 a1 0 (-1) 0) (toNat (3 - 0) + 1) (by kernel_rfl) ?_
 exact L76_L_0 a0 a1 l0_1 l0_2_2_1 l0_2_2_2 l1 hir hl hcx (toNat (3 - 0) + 1) 0 (-1) 0 (by refine ⟨?_, ?_⟩ <;> (try simp only [Ls]) <;> first | omega | assumption | simp) (by (try simp only [Ls]); omega)

end Go.Proofs.Ytnbpiejjeeomkaa
