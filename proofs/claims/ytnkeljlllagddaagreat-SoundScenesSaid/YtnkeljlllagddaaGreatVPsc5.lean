/-
  Parts of the proofs of the laws: the executor, what functions of the program compute, and that it is what the statements ask. No premise.
-/
import Derived.Test.YtnkeljlllagddaaGreatVPsc4
import Derived.Deep.Slices
import Derived.ProofKit
import Derived.RowKit
namespace Go.Proofs.YtnkeljlllagddaaGreat
open Go.Proofs Go.Aw Go.RowKit
set_option maxRecDepth 100000
set_option linter.unusedVariables false
set_option linter.unusedSimpArgs false

theorem ist_p {n : Int} (h : F54 n = true) : 0 ≤ n ∧ n ≤ 2000 := by
  unfold F54 at h; rw [sfrom_eq] at h; simpa using h
theorem isd_p {n : Int} (h : F55 n = true) : 0 ≤ n ∧ n ≤ 3 := by
  unfold F55 at h; rw [sfrom_eq] at h; simpa using h
theorem sp_len (p : PN) (d : Int) : (F188 p d).1.length ≤ 64 := by
  rw [parts_f]
  split
  · split
    · rename_i h
      simp only [cutL_len]
      have : Int.toNat d = 0 ∨ Int.toNat d = 1 ∨ Int.toNat d = 2 ∨ Int.toNat d = 3 := by omega
      rcases this with e | e | e | e <;> rw [e] <;> decide
    · simp
  · simp
theorem rp_len (p : PN) {d : Int} (hd : 0 ≤ d ∧ d ≤ 3) : (F192 p d).length ≤ 64 := R8_le _ _ _ hd (Nat.lt_succ_self _)

noncomputable def B116_0 : Code := (loopAtD [1, 1, 1, 1, 1, 1, 1, 1, 1, 0, 1] [] (Tryz.f116.body.getD .skip) []).1
noncomputable def K116_0 : List K := (loopAtD [1, 1, 1, 1, 1, 1, 1, 1, 1, 0, 1] [] (Tryz.f116.body.getD .skip) []).2

/-- a round of loop 0 of facet/sound.heard; the variables: v2 = s18, v3 = s73 -/
def S116_0 (a0 : ((Int × Int × Int) × (Int × Int × Int) × Int × Int × Int) × Int × Int) (a1 : Int × Int × Int) (a2 : Int) (a3 : Int) (a4 : Int) : (List (Int × Int)) × Int → ((List (Int × Int)) × Int) ⊕ ((Int × Int) × Int)
  | (v2, v3) =>
   (bif (decide ((v3 : Int) < (((F188 a0.1 a4).1.length : Nat) : Int))) then
    (bif (((F189 ((F186 (W ((W ((W (1 * 2 ^ (min (Int.toNat a4) 64))) * a2)) * (W ((W (a3 - a0.2.1)) - 1))))), (F186 (W ((W ((W (1 * 2 ^ (min (Int.toNat a4) 64))) * a2)) * (W (a3 - a0.2.1))))), (W (1 * 2 ^ (min (Int.toNat a4) 64)))) (F187 ((F188 a0.1 a4).1.getD (Int.toNat v3) default) ((W ((W (1 * 2 ^ (min (Int.toNat a4) 64))) * a1.1)), (W ((W (1 * 2 ^ (min (Int.toNat a4) 64))) * a1.2.1)), (W ((W (1 * 2 ^ (min (Int.toNat a4) 64))) * a1.2.2)))) (F190 ((F188 a0.1 a4).1.getD (Int.toNat v3) default) ((W ((W (1 * 2 ^ (min (Int.toNat a4) 64))) * a1.1)), (W ((W (1 * 2 ^ (min (Int.toNat a4) 64))) * a1.2.1)), (W ((W (1 * 2 ^ (min (Int.toNat a4) 64))) * a1.2.2))))).2 : Int) != 0) then
     (.inr ((0, 0), (F189 ((F186 (W ((W ((W (1 * 2 ^ (min (Int.toNat a4) 64))) * a2)) * (W ((W (a3 - a0.2.1)) - 1))))), (F186 (W ((W ((W (1 * 2 ^ (min (Int.toNat a4) 64))) * a2)) * (W (a3 - a0.2.1))))), (W (1 * 2 ^ (min (Int.toNat a4) 64)))) (F187 ((F188 a0.1 a4).1.getD (Int.toNat v3) default) ((W ((W (1 * 2 ^ (min (Int.toNat a4) 64))) * a1.1)), (W ((W (1 * 2 ^ (min (Int.toNat a4) 64))) * a1.2.1)), (W ((W (1 * 2 ^ (min (Int.toNat a4) 64))) * a1.2.2)))) (F190 ((F188 a0.1 a4).1.getD (Int.toNat v3) default) ((W ((W (1 * 2 ^ (min (Int.toNat a4) 64))) * a1.1)), (W ((W (1 * 2 ^ (min (Int.toNat a4) 64))) * a1.2.1)), (W ((W (1 * 2 ^ (min (Int.toNat a4) 64))) * a1.2.2))))).2))
    else
     (.inl ((v2 ++ [(F189 ((F186 (W ((W ((W (1 * 2 ^ (min (Int.toNat a4) 64))) * a2)) * (W ((W (a3 - a0.2.1)) - 1))))), (F186 (W ((W ((W (1 * 2 ^ (min (Int.toNat a4) 64))) * a2)) * (W (a3 - a0.2.1))))), (W (1 * 2 ^ (min (Int.toNat a4) 64)))) (F187 ((F188 a0.1 a4).1.getD (Int.toNat v3) default) ((W ((W (1 * 2 ^ (min (Int.toNat a4) 64))) * a1.1)), (W ((W (1 * 2 ^ (min (Int.toNat a4) 64))) * a1.2.1)), (W ((W (1 * 2 ^ (min (Int.toNat a4) 64))) * a1.2.2)))) (F190 ((F188 a0.1 a4).1.getD (Int.toNat v3) default) ((W ((W (1 * 2 ^ (min (Int.toNat a4) 64))) * a1.1)), (W ((W (1 * 2 ^ (min (Int.toNat a4) 64))) * a1.2.1)), (W ((W (1 * 2 ^ (min (Int.toNat a4) 64))) * a1.2.2))))).1]), (v3 + 1))))
   else
    (bif (((F177_L v2).2 : Int) != 0) then
     (.inr ((0, 0), (F177_L v2).2))
    else
     (.inr ((F65 (F177_L v2).1 a0.2.2).1, (F65 (F177_L v2).1 a0.2.2).2))))

set_option maxHeartbeats 4000000 in
theorem L116_0 (a0 : ((Int × Int × Int) × (Int × Int × Int) × Int × Int × Int) × Int × Int) (a1 : Int × Int × Int) (a2 : Int) (a3 : Int) (a4 : Int) (hp : POK a0) (hx : bd 256 a1) (hs : 1 ≤ a2 ∧ a2 ≤ 16) (ht : 0 ≤ a3 ∧ a3 ≤ 2000) (hd : 0 ≤ a4 ∧ a4 ≤ 3) {cx : Cx} (hcx : cx.base = 0) : ∀ (n : Nat) (v2 : List (Int × Int)) (v3 : Int), (0 ≤ v3) ∧ (v2.length = Int.toNat v3) ∧ (v3 ≤ (F188 a0.1 a4).1.length) → Int.toNat ((((F188 a0.1 a4).1.length : Nat) : Int) - v3) < n → Aw.Good Tryz.prog none 9 (bodyPost Tryz.prog Tryz.f116 (RR cx (.t [(.a (k2 (loopF (S116_0 a0 a1 a2 a3 a4) n (v2, v3)).1)), (iv (loopF (S116_0 a0 a1 a2 a3 a4) n (v2, v3)).2)]) [] [])) cx [] (.l B116_0 n :: K116_0) ⟨[.u, .u, .u, .u, .u, (.p 0 0), .u, .u, .u, .u, (.p 1 0), .u, .u, (.s 2 0 (F188 a0.1 a4).1.length 9), .u, .u, (.p 3 0), (.p 4 0), (.s 5 0 v2.length 2), .u, .u, .u, .u, .u, .u, .u, .u, .u, .u, .u, .u, .u, .u, .u, .u, .u, .u, .u, .u, .u, .u, .u, .u, .u, .u, .u, .u, .u, .u, .u, .u, .u, .u, .u, .u, .u, .u, .u, .u, .u, .u, .u, .u, .u, .u, .u, .u, .u, .u, .u, .u, .u, (iv (((F188 a0.1 a4).1.length : Nat) : Int)), (iv v3), .u, .u, .u, .u, .u, .u, .u, .u, .u, .u, .u, .u, .u, .u, .u, .u, .u, .u, .u, .u, .u, .u, .u, .u, .u, .u, .u, .u, .u, .u, .u, .u, .u, .u, .u, .u, .u, .u, .u, .u, .u, .u, .u], [(.live true false [(iv a0.1.1.1), (iv a0.1.1.2.1), (iv a0.1.1.2.2), (iv a0.1.2.1.1), (iv a0.1.2.1.2.1), (iv a0.1.2.1.2.2), (iv a0.1.2.2.1), (iv a0.1.2.2.2.1), (iv a0.1.2.2.2.2), (iv a0.2.1), (iv a0.2.2)]), (.live true false [(iv 0), (iv 0)]), (.live true true (flat c65 (F188 a0.1 a4).1)), (.live true false [(iv (F186 (W ((W ((W (1 * 2 ^ (min (Int.toNat a4) 64))) * a2)) * (W ((W (a3 - a0.2.1)) - 1)))))), (iv (F186 (W ((W ((W (1 * 2 ^ (min (Int.toNat a4) 64))) * a2)) * (W (a3 - a0.2.1)))))), (iv (W (1 * 2 ^ (min (Int.toNat a4) 64))))]), (.live true false [(iv (W ((W (1 * 2 ^ (min (Int.toNat a4) 64))) * a1.1))), (iv (W ((W (1 * 2 ^ (min (Int.toNat a4) 64))) * a1.2.1))), (iv (W ((W (1 * 2 ^ (min (Int.toNat a4) 64))) * a1.2.2)))]), (.live true true (flat c29 v2))]⟩ := by
  intro n
  induction n with
  | zero => intro v2 v3 hi hn; exact absurd hn (Nat.not_lt_zero _)
  | succ n ih =>
    intro v2 v3 hi hn
    refine good_round ?_
    cases h0 : (decide ((v3 : Int) < (((F188 a0.1 a4).1.length : Nat) : Int))) with
    | true =>
      cases h1 : (((F189 ((F186 (W ((W ((W (1 * 2 ^ (min (Int.toNat a4) 64))) * a2)) * (W ((W (a3 - a0.2.1)) - 1))))), (F186 (W ((W ((W (1 * 2 ^ (min (Int.toNat a4) 64))) * a2)) * (W (a3 - a0.2.1))))), (W (1 * 2 ^ (min (Int.toNat a4) 64)))) (F187 ((F188 a0.1 a4).1.getD (Int.toNat v3) default) ((W ((W (1 * 2 ^ (min (Int.toNat a4) 64))) * a1.1)), (W ((W (1 * 2 ^ (min (Int.toNat a4) 64))) * a1.2.1)), (W ((W (1 * 2 ^ (min (Int.toNat a4) 64))) * a1.2.2)))) (F190 ((F188 a0.1 a4).1.getD (Int.toNat v3) default) ((W ((W (1 * 2 ^ (min (Int.toNat a4) 64))) * a1.1)), (W ((W (1 * 2 ^ (min (Int.toNat a4) 64))) * a1.2.1)), (W ((W (1 * 2 ^ (min (Int.toNat a4) 64))) * a1.2.2))))).2 : Int) != 0) with
      | true =>
        have q0 := of_decide_eq_true h0
        have q1 := bne_iff_ne.1 h1
        have hpl := sp_len a0.1 a4
        have e : S116_0 a0 a1 a2 a3 a4 (v2, v3) = (.inr ((0, 0), (F189 ((F186 (W ((W ((W (1 * 2 ^ (min (Int.toNat a4) 64))) * a2)) * (W ((W (a3 - a0.2.1)) - 1))))), (F186 (W ((W ((W (1 * 2 ^ (min (Int.toNat a4) 64))) * a2)) * (W (a3 - a0.2.1))))), (W (1 * 2 ^ (min (Int.toNat a4) 64)))) (F187 ((F188 a0.1 a4).1.getD (Int.toNat v3) default) ((W ((W (1 * 2 ^ (min (Int.toNat a4) 64))) * a1.1)), (W ((W (1 * 2 ^ (min (Int.toNat a4) 64))) * a1.2.1)), (W ((W (1 * 2 ^ (min (Int.toNat a4) 64))) * a1.2.2)))) (F190 ((F188 a0.1 a4).1.getD (Int.toNat v3) default) ((W ((W (1 * 2 ^ (min (Int.toNat a4) 64))) * a1.1)), (W ((W (1 * 2 ^ (min (Int.toNat a4) 64))) * a1.2.1)), (W ((W (1 * 2 ^ (min (Int.toNat a4) 64))) * a1.2.2))))).2)) := by simp only [S116_0, h0, h1, cond_true, cond_false]
        rw [show loopF (S116_0 a0 a1 a2 a3 a4) (n + 1) (v2, v3) = thenF (S116_0 a0 a1 a2 a3 a4) n (S116_0 a0 a1 a2 a3 a4 (v2, v3)) from rfl, e]
        exact ret_of (T := T0) hT hm (f := 5000) (orc := [.d true, .ld (k9 ((F188 a0.1 a4).1.getD (Int.toNat v3) default)), .call [] (iv (F187 ((F188 a0.1 a4).1.getD (Int.toNat v3) default) ((W ((W (1 * 2 ^ (min (Int.toNat a4) 64))) * a1.1)), (W ((W (1 * 2 ^ (min (Int.toNat a4) 64))) * a1.2.1)), (W ((W (1 * 2 ^ (min (Int.toNat a4) 64))) * a1.2.2))))) [], .ld (k9 ((F188 a0.1 a4).1.getD (Int.toNat v3) default)), .call [] (iv (F190 ((F188 a0.1 a4).1.getD (Int.toNat v3) default) ((W ((W (1 * 2 ^ (min (Int.toNat a4) 64))) * a1.1)), (W ((W (1 * 2 ^ (min (Int.toNat a4) 64))) * a1.2.1)), (W ((W (1 * 2 ^ (min (Int.toNat a4) 64))) * a1.2.2))))) [], .call [] (.t [(.a [(iv (F189 ((F186 (W ((W ((W (1 * 2 ^ (min (Int.toNat a4) 64))) * a2)) * (W ((W (a3 - a0.2.1)) - 1))))), (F186 (W ((W ((W (1 * 2 ^ (min (Int.toNat a4) 64))) * a2)) * (W (a3 - a0.2.1))))), (W (1 * 2 ^ (min (Int.toNat a4) 64)))) (F187 ((F188 a0.1 a4).1.getD (Int.toNat v3) default) ((W ((W (1 * 2 ^ (min (Int.toNat a4) 64))) * a1.1)), (W ((W (1 * 2 ^ (min (Int.toNat a4) 64))) * a1.2.1)), (W ((W (1 * 2 ^ (min (Int.toNat a4) 64))) * a1.2.2)))) (F190 ((F188 a0.1 a4).1.getD (Int.toNat v3) default) ((W ((W (1 * 2 ^ (min (Int.toNat a4) 64))) * a1.1)), (W ((W (1 * 2 ^ (min (Int.toNat a4) 64))) * a1.2.1)), (W ((W (1 * 2 ^ (min (Int.toNat a4) 64))) * a1.2.2))))).1.1), (iv (F189 ((F186 (W ((W ((W (1 * 2 ^ (min (Int.toNat a4) 64))) * a2)) * (W ((W (a3 - a0.2.1)) - 1))))), (F186 (W ((W ((W (1 * 2 ^ (min (Int.toNat a4) 64))) * a2)) * (W (a3 - a0.2.1))))), (W (1 * 2 ^ (min (Int.toNat a4) 64)))) (F187 ((F188 a0.1 a4).1.getD (Int.toNat v3) default) ((W ((W (1 * 2 ^ (min (Int.toNat a4) 64))) * a1.1)), (W ((W (1 * 2 ^ (min (Int.toNat a4) 64))) * a1.2.1)), (W ((W (1 * 2 ^ (min (Int.toNat a4) 64))) * a1.2.2)))) (F190 ((F188 a0.1 a4).1.getD (Int.toNat v3) default) ((W ((W (1 * 2 ^ (min (Int.toNat a4) 64))) * a1.1)), (W ((W (1 * 2 ^ (min (Int.toNat a4) 64))) * a1.2.1)), (W ((W (1 * 2 ^ (min (Int.toNat a4) 64))) * a1.2.2))))).1.2)]), (iv (F189 ((F186 (W ((W ((W (1 * 2 ^ (min (Int.toNat a4) 64))) * a2)) * (W ((W (a3 - a0.2.1)) - 1))))), (F186 (W ((W ((W (1 * 2 ^ (min (Int.toNat a4) 64))) * a2)) * (W (a3 - a0.2.1))))), (W (1 * 2 ^ (min (Int.toNat a4) 64)))) (F187 ((F188 a0.1 a4).1.getD (Int.toNat v3) default) ((W ((W (1 * 2 ^ (min (Int.toNat a4) 64))) * a1.1)), (W ((W (1 * 2 ^ (min (Int.toNat a4) 64))) * a1.2.1)), (W ((W (1 * 2 ^ (min (Int.toNat a4) 64))) * a1.2.2)))) (F190 ((F188 a0.1 a4).1.getD (Int.toNat v3) default) ((W ((W (1 * 2 ^ (min (Int.toNat a4) 64))) * a1.1)), (W ((W (1 * 2 ^ (min (Int.toNat a4) 64))) * a1.2.1)), (W ((W (1 * 2 ^ (min (Int.toNat a4) 64))) * a1.2.2))))).2)]) [], .d true]) [] [] [] hcx
          (obs := [.eq (decide ((v3 : Int) < (((F188 a0.1 a4).1.length : Nat) : Int))) true, .pr (0 ≤ (v3 : Int) ∧ (v3 : Int) < (((F188 a0.1 a4).1.length : Nat) : Int)), .pr (((((flat c65 (F188 a0.1 a4).1)).drop (0 + Int.toNat v3 * 9)).take 9) = (k9 ((F188 a0.1 a4).1.getD (Int.toNat v3) default))), .call 187 [(.a (k9 ((F188 a0.1 a4).1.getD (Int.toNat v3) default))), (.a [(iv (W ((W (1 * 2 ^ (min (Int.toNat a4) 64))) * a1.1))), (iv (W ((W (1 * 2 ^ (min (Int.toNat a4) 64))) * a1.2.1))), (iv (W ((W (1 * 2 ^ (min (Int.toNat a4) 64))) * a1.2.2)))])] [] (iv (F187 ((F188 a0.1 a4).1.getD (Int.toNat v3) default) ((W ((W (1 * 2 ^ (min (Int.toNat a4) 64))) * a1.1)), (W ((W (1 * 2 ^ (min (Int.toNat a4) 64))) * a1.2.1)), (W ((W (1 * 2 ^ (min (Int.toNat a4) 64))) * a1.2.2))))) [], .pr (0 ≤ (v3 : Int) ∧ (v3 : Int) < (((F188 a0.1 a4).1.length : Nat) : Int)), .pr (((((flat c65 (F188 a0.1 a4).1)).drop (0 + Int.toNat v3 * 9)).take 9) = (k9 ((F188 a0.1 a4).1.getD (Int.toNat v3) default))), .call 190 [(.a (k9 ((F188 a0.1 a4).1.getD (Int.toNat v3) default))), (.a [(iv (W ((W (1 * 2 ^ (min (Int.toNat a4) 64))) * a1.1))), (iv (W ((W (1 * 2 ^ (min (Int.toNat a4) 64))) * a1.2.1))), (iv (W ((W (1 * 2 ^ (min (Int.toNat a4) 64))) * a1.2.2)))])] [] (iv (F190 ((F188 a0.1 a4).1.getD (Int.toNat v3) default) ((W ((W (1 * 2 ^ (min (Int.toNat a4) 64))) * a1.1)), (W ((W (1 * 2 ^ (min (Int.toNat a4) 64))) * a1.2.1)), (W ((W (1 * 2 ^ (min (Int.toNat a4) 64))) * a1.2.2))))) [], .call 189 [(.a [(iv (F186 (W ((W ((W (1 * 2 ^ (min (Int.toNat a4) 64))) * a2)) * (W ((W (a3 - a0.2.1)) - 1)))))), (iv (F186 (W ((W ((W (1 * 2 ^ (min (Int.toNat a4) 64))) * a2)) * (W (a3 - a0.2.1)))))), (iv (W (1 * 2 ^ (min (Int.toNat a4) 64))))]), (iv (F187 ((F188 a0.1 a4).1.getD (Int.toNat v3) default) ((W ((W (1 * 2 ^ (min (Int.toNat a4) 64))) * a1.1)), (W ((W (1 * 2 ^ (min (Int.toNat a4) 64))) * a1.2.1)), (W ((W (1 * 2 ^ (min (Int.toNat a4) 64))) * a1.2.2))))), (iv (F190 ((F188 a0.1 a4).1.getD (Int.toNat v3) default) ((W ((W (1 * 2 ^ (min (Int.toNat a4) 64))) * a1.1)), (W ((W (1 * 2 ^ (min (Int.toNat a4) 64))) * a1.2.1)), (W ((W (1 * 2 ^ (min (Int.toNat a4) 64))) * a1.2.2)))))] [] (.t [(.a [(iv (F189 ((F186 (W ((W ((W (1 * 2 ^ (min (Int.toNat a4) 64))) * a2)) * (W ((W (a3 - a0.2.1)) - 1))))), (F186 (W ((W ((W (1 * 2 ^ (min (Int.toNat a4) 64))) * a2)) * (W (a3 - a0.2.1))))), (W (1 * 2 ^ (min (Int.toNat a4) 64)))) (F187 ((F188 a0.1 a4).1.getD (Int.toNat v3) default) ((W ((W (1 * 2 ^ (min (Int.toNat a4) 64))) * a1.1)), (W ((W (1 * 2 ^ (min (Int.toNat a4) 64))) * a1.2.1)), (W ((W (1 * 2 ^ (min (Int.toNat a4) 64))) * a1.2.2)))) (F190 ((F188 a0.1 a4).1.getD (Int.toNat v3) default) ((W ((W (1 * 2 ^ (min (Int.toNat a4) 64))) * a1.1)), (W ((W (1 * 2 ^ (min (Int.toNat a4) 64))) * a1.2.1)), (W ((W (1 * 2 ^ (min (Int.toNat a4) 64))) * a1.2.2))))).1.1), (iv (F189 ((F186 (W ((W ((W (1 * 2 ^ (min (Int.toNat a4) 64))) * a2)) * (W ((W (a3 - a0.2.1)) - 1))))), (F186 (W ((W ((W (1 * 2 ^ (min (Int.toNat a4) 64))) * a2)) * (W (a3 - a0.2.1))))), (W (1 * 2 ^ (min (Int.toNat a4) 64)))) (F187 ((F188 a0.1 a4).1.getD (Int.toNat v3) default) ((W ((W (1 * 2 ^ (min (Int.toNat a4) 64))) * a1.1)), (W ((W (1 * 2 ^ (min (Int.toNat a4) 64))) * a1.2.1)), (W ((W (1 * 2 ^ (min (Int.toNat a4) 64))) * a1.2.2)))) (F190 ((F188 a0.1 a4).1.getD (Int.toNat v3) default) ((W ((W (1 * 2 ^ (min (Int.toNat a4) 64))) * a1.1)), (W ((W (1 * 2 ^ (min (Int.toNat a4) 64))) * a1.2.1)), (W ((W (1 * 2 ^ (min (Int.toNat a4) 64))) * a1.2.2))))).1.2)]), (iv (F189 ((F186 (W ((W ((W (1 * 2 ^ (min (Int.toNat a4) 64))) * a2)) * (W ((W (a3 - a0.2.1)) - 1))))), (F186 (W ((W ((W (1 * 2 ^ (min (Int.toNat a4) 64))) * a2)) * (W (a3 - a0.2.1))))), (W (1 * 2 ^ (min (Int.toNat a4) 64)))) (F187 ((F188 a0.1 a4).1.getD (Int.toNat v3) default) ((W ((W (1 * 2 ^ (min (Int.toNat a4) 64))) * a1.1)), (W ((W (1 * 2 ^ (min (Int.toNat a4) 64))) * a1.2.1)), (W ((W (1 * 2 ^ (min (Int.toNat a4) 64))) * a1.2.2)))) (F190 ((F188 a0.1 a4).1.getD (Int.toNat v3) default) ((W ((W (1 * 2 ^ (min (Int.toNat a4) 64))) * a1.1)), (W ((W (1 * 2 ^ (min (Int.toNat a4) 64))) * a1.2.1)), (W ((W (1 * 2 ^ (min (Int.toNat a4) 64))) * a1.2.2))))).2)]) [], .eq (((F189 ((F186 (W ((W ((W (1 * 2 ^ (min (Int.toNat a4) 64))) * a2)) * (W ((W (a3 - a0.2.1)) - 1))))), (F186 (W ((W ((W (1 * 2 ^ (min (Int.toNat a4) 64))) * a2)) * (W (a3 - a0.2.1))))), (W (1 * 2 ^ (min (Int.toNat a4) 64)))) (F187 ((F188 a0.1 a4).1.getD (Int.toNat v3) default) ((W ((W (1 * 2 ^ (min (Int.toNat a4) 64))) * a1.1)), (W ((W (1 * 2 ^ (min (Int.toNat a4) 64))) * a1.2.1)), (W ((W (1 * 2 ^ (min (Int.toNat a4) 64))) * a1.2.2)))) (F190 ((F188 a0.1 a4).1.getD (Int.toNat v3) default) ((W ((W (1 * 2 ^ (min (Int.toNat a4) 64))) * a1.1)), (W ((W (1 * 2 ^ (min (Int.toNat a4) 64))) * a1.2.1)), (W ((W (1 * 2 ^ (min (Int.toNat a4) 64))) * a1.2.2))))).2 : Int) != 0) true]) (by kernel_rfl) ⟨h0, (show 0 ≤ (v3 : Int) ∧ (v3 : Int) < (((F188 a0.1 a4).1.length : Nat) : Int) from by first | omega | (rw [W_eq] <;> omega) | exact u64_nn _), (ld_part c65_len default (F188 a0.1 a4).1 v3 0 9 (by omega) (by decide) (by omega) rfl), (C187 ((F188 a0.1 a4).1.getD (Int.toNat v3) default) ((W ((W (1 * 2 ^ (min (Int.toNat a4) 64))) * a1.1)), (W ((W (1 * 2 ^ (min (Int.toNat a4) 64))) * a1.2.1)), (W ((W (1 * 2 ^ (min (Int.toNat a4) 64))) * a1.2.2)))), (show 0 ≤ (v3 : Int) ∧ (v3 : Int) < (((F188 a0.1 a4).1.length : Nat) : Int) from by first | omega | (rw [W_eq] <;> omega) | exact u64_nn _), (ld_part c65_len default (F188 a0.1 a4).1 v3 0 9 (by omega) (by decide) (by omega) rfl), (C190 ((F188 a0.1 a4).1.getD (Int.toNat v3) default) ((W ((W (1 * 2 ^ (min (Int.toNat a4) 64))) * a1.1)), (W ((W (1 * 2 ^ (min (Int.toNat a4) 64))) * a1.2.1)), (W ((W (1 * 2 ^ (min (Int.toNat a4) 64))) * a1.2.2)))), (C189 ((F186 (W ((W ((W (1 * 2 ^ (min (Int.toNat a4) 64))) * a2)) * (W ((W (a3 - a0.2.1)) - 1))))), (F186 (W ((W ((W (1 * 2 ^ (min (Int.toNat a4) 64))) * a2)) * (W (a3 - a0.2.1))))), (W (1 * 2 ^ (min (Int.toNat a4) 64)))) (F187 ((F188 a0.1 a4).1.getD (Int.toNat v3) default) ((W ((W (1 * 2 ^ (min (Int.toNat a4) 64))) * a1.1)), (W ((W (1 * 2 ^ (min (Int.toNat a4) 64))) * a1.2.1)), (W ((W (1 * 2 ^ (min (Int.toNat a4) 64))) * a1.2.2)))) (F190 ((F188 a0.1 a4).1.getD (Int.toNat v3) default) ((W ((W (1 * 2 ^ (min (Int.toNat a4) 64))) * a1.1)), (W ((W (1 * 2 ^ (min (Int.toNat a4) 64))) * a1.2.1)), (W ((W (1 * 2 ^ (min (Int.toNat a4) 64))) * a1.2.2))))), h1, trivial⟩
      | false =>
        have q0 := of_decide_eq_true h0
        have q1 := bne_eq_false_iff_eq.1 h1
        have hpl := sp_len a0.1 a4
        have e : S116_0 a0 a1 a2 a3 a4 (v2, v3) = (.inl ((v2 ++ [(F189 ((F186 (W ((W ((W (1 * 2 ^ (min (Int.toNat a4) 64))) * a2)) * (W ((W (a3 - a0.2.1)) - 1))))), (F186 (W ((W ((W (1 * 2 ^ (min (Int.toNat a4) 64))) * a2)) * (W (a3 - a0.2.1))))), (W (1 * 2 ^ (min (Int.toNat a4) 64)))) (F187 ((F188 a0.1 a4).1.getD (Int.toNat v3) default) ((W ((W (1 * 2 ^ (min (Int.toNat a4) 64))) * a1.1)), (W ((W (1 * 2 ^ (min (Int.toNat a4) 64))) * a1.2.1)), (W ((W (1 * 2 ^ (min (Int.toNat a4) 64))) * a1.2.2)))) (F190 ((F188 a0.1 a4).1.getD (Int.toNat v3) default) ((W ((W (1 * 2 ^ (min (Int.toNat a4) 64))) * a1.1)), (W ((W (1 * 2 ^ (min (Int.toNat a4) 64))) * a1.2.1)), (W ((W (1 * 2 ^ (min (Int.toNat a4) 64))) * a1.2.2))))).1]), (v3 + 1))) := by simp only [S116_0, h0, h1, cond_true, cond_false]
        rw [loopF_inl e]
        refine back_of (T := T0) hT hm (f := 5000) (orc := [.d true, .ld (k9 ((F188 a0.1 a4).1.getD (Int.toNat v3) default)), .call [] (iv (F187 ((F188 a0.1 a4).1.getD (Int.toNat v3) default) ((W ((W (1 * 2 ^ (min (Int.toNat a4) 64))) * a1.1)), (W ((W (1 * 2 ^ (min (Int.toNat a4) 64))) * a1.2.1)), (W ((W (1 * 2 ^ (min (Int.toNat a4) 64))) * a1.2.2))))) [], .ld (k9 ((F188 a0.1 a4).1.getD (Int.toNat v3) default)), .call [] (iv (F190 ((F188 a0.1 a4).1.getD (Int.toNat v3) default) ((W ((W (1 * 2 ^ (min (Int.toNat a4) 64))) * a1.1)), (W ((W (1 * 2 ^ (min (Int.toNat a4) 64))) * a1.2.1)), (W ((W (1 * 2 ^ (min (Int.toNat a4) 64))) * a1.2.2))))) [], .call [] (.t [(.a [(iv (F189 ((F186 (W ((W ((W (1 * 2 ^ (min (Int.toNat a4) 64))) * a2)) * (W ((W (a3 - a0.2.1)) - 1))))), (F186 (W ((W ((W (1 * 2 ^ (min (Int.toNat a4) 64))) * a2)) * (W (a3 - a0.2.1))))), (W (1 * 2 ^ (min (Int.toNat a4) 64)))) (F187 ((F188 a0.1 a4).1.getD (Int.toNat v3) default) ((W ((W (1 * 2 ^ (min (Int.toNat a4) 64))) * a1.1)), (W ((W (1 * 2 ^ (min (Int.toNat a4) 64))) * a1.2.1)), (W ((W (1 * 2 ^ (min (Int.toNat a4) 64))) * a1.2.2)))) (F190 ((F188 a0.1 a4).1.getD (Int.toNat v3) default) ((W ((W (1 * 2 ^ (min (Int.toNat a4) 64))) * a1.1)), (W ((W (1 * 2 ^ (min (Int.toNat a4) 64))) * a1.2.1)), (W ((W (1 * 2 ^ (min (Int.toNat a4) 64))) * a1.2.2))))).1.1), (iv (F189 ((F186 (W ((W ((W (1 * 2 ^ (min (Int.toNat a4) 64))) * a2)) * (W ((W (a3 - a0.2.1)) - 1))))), (F186 (W ((W ((W (1 * 2 ^ (min (Int.toNat a4) 64))) * a2)) * (W (a3 - a0.2.1))))), (W (1 * 2 ^ (min (Int.toNat a4) 64)))) (F187 ((F188 a0.1 a4).1.getD (Int.toNat v3) default) ((W ((W (1 * 2 ^ (min (Int.toNat a4) 64))) * a1.1)), (W ((W (1 * 2 ^ (min (Int.toNat a4) 64))) * a1.2.1)), (W ((W (1 * 2 ^ (min (Int.toNat a4) 64))) * a1.2.2)))) (F190 ((F188 a0.1 a4).1.getD (Int.toNat v3) default) ((W ((W (1 * 2 ^ (min (Int.toNat a4) 64))) * a1.1)), (W ((W (1 * 2 ^ (min (Int.toNat a4) 64))) * a1.2.1)), (W ((W (1 * 2 ^ (min (Int.toNat a4) 64))) * a1.2.2))))).1.2)]), (iv (F189 ((F186 (W ((W ((W (1 * 2 ^ (min (Int.toNat a4) 64))) * a2)) * (W ((W (a3 - a0.2.1)) - 1))))), (F186 (W ((W ((W (1 * 2 ^ (min (Int.toNat a4) 64))) * a2)) * (W (a3 - a0.2.1))))), (W (1 * 2 ^ (min (Int.toNat a4) 64)))) (F187 ((F188 a0.1 a4).1.getD (Int.toNat v3) default) ((W ((W (1 * 2 ^ (min (Int.toNat a4) 64))) * a1.1)), (W ((W (1 * 2 ^ (min (Int.toNat a4) 64))) * a1.2.1)), (W ((W (1 * 2 ^ (min (Int.toNat a4) 64))) * a1.2.2)))) (F190 ((F188 a0.1 a4).1.getD (Int.toNat v3) default) ((W ((W (1 * 2 ^ (min (Int.toNat a4) 64))) * a1.1)), (W ((W (1 * 2 ^ (min (Int.toNat a4) 64))) * a1.2.1)), (W ((W (1 * 2 ^ (min (Int.toNat a4) 64))) * a1.2.2))))).2)]) [], .d false]) [] [5, 10, 13, 16, 17, 18, 72, 73] [0, 1, 2, 3, 4, 8] hcx (body := B116_0) (m := n) (k' := K116_0) (s' := ⟨[.u, .u, .u, .u, .u, (.p 0 0), .u, .u, .u, .u, (.p 1 0), .u, .u, (.s 2 0 (F188 a0.1 a4).1.length 9), .u, .u, (.p 3 0), (.p 4 0), (.s 5 0 (v2.length + 1) 2), .u, .u, .u, .u, .u, .u, .u, .u, .u, .u, .u, .u, .u, .u, .u, .u, .u, .u, .u, .u, .u, .u, .u, .u, .u, .u, .u, .u, .u, .u, .u, .u, .u, .u, .u, .u, .u, .u, .u, .u, .u, .u, .u, .u, .u, .u, .u, .u, .u, .u, .u, .u, .u, (iv (((F188 a0.1 a4).1.length : Nat) : Int)), (iv (W (v3 + 1))), .u, .u, .u, .u, .u, .u, .u, .u, .u, .u, .u, .u, .u, .u, .u, .u, .u, .u, .u, .u, .u, .u, .u, .u, .u, .u, .u, .u, .u, .u, .u, .u, .u, .u, .u, .u, .u, .u, .u, .u, .u, .u, .u], [(.live true false [(iv a0.1.1.1), (iv a0.1.1.2.1), (iv a0.1.1.2.2), (iv a0.1.2.1.1), (iv a0.1.2.1.2.1), (iv a0.1.2.1.2.2), (iv a0.1.2.2.1), (iv a0.1.2.2.2.1), (iv a0.1.2.2.2.2), (iv a0.2.1), (iv a0.2.2)]), (.live true false [(iv 0), (iv 0)]), (.live true true (flat c65 (F188 a0.1 a4).1)), (.live true false [(iv (F186 (W ((W ((W (1 * 2 ^ (min (Int.toNat a4) 64))) * a2)) * (W ((W (a3 - a0.2.1)) - 1)))))), (iv (F186 (W ((W ((W (1 * 2 ^ (min (Int.toNat a4) 64))) * a2)) * (W (a3 - a0.2.1)))))), (iv (W (1 * 2 ^ (min (Int.toNat a4) 64))))]), (.live true false [(iv (W ((W (1 * 2 ^ (min (Int.toNat a4) 64))) * a1.1))), (iv (W ((W (1 * 2 ^ (min (Int.toNat a4) 64))) * a1.2.1))), (iv (W ((W (1 * 2 ^ (min (Int.toNat a4) 64))) * a1.2.2)))]), (.live true true (flat c29 v2 ++ [(iv (F189 ((F186 (W ((W ((W (1 * 2 ^ (min (Int.toNat a4) 64))) * a2)) * (W ((W (a3 - a0.2.1)) - 1))))), (F186 (W ((W ((W (1 * 2 ^ (min (Int.toNat a4) 64))) * a2)) * (W (a3 - a0.2.1))))), (W (1 * 2 ^ (min (Int.toNat a4) 64)))) (F187 ((F188 a0.1 a4).1.getD (Int.toNat v3) default) ((W ((W (1 * 2 ^ (min (Int.toNat a4) 64))) * a1.1)), (W ((W (1 * 2 ^ (min (Int.toNat a4) 64))) * a1.2.1)), (W ((W (1 * 2 ^ (min (Int.toNat a4) 64))) * a1.2.2)))) (F190 ((F188 a0.1 a4).1.getD (Int.toNat v3) default) ((W ((W (1 * 2 ^ (min (Int.toNat a4) 64))) * a1.1)), (W ((W (1 * 2 ^ (min (Int.toNat a4) 64))) * a1.2.1)), (W ((W (1 * 2 ^ (min (Int.toNat a4) 64))) * a1.2.2))))).1.1), (iv (F189 ((F186 (W ((W ((W (1 * 2 ^ (min (Int.toNat a4) 64))) * a2)) * (W ((W (a3 - a0.2.1)) - 1))))), (F186 (W ((W ((W (1 * 2 ^ (min (Int.toNat a4) 64))) * a2)) * (W (a3 - a0.2.1))))), (W (1 * 2 ^ (min (Int.toNat a4) 64)))) (F187 ((F188 a0.1 a4).1.getD (Int.toNat v3) default) ((W ((W (1 * 2 ^ (min (Int.toNat a4) 64))) * a1.1)), (W ((W (1 * 2 ^ (min (Int.toNat a4) 64))) * a1.2.1)), (W ((W (1 * 2 ^ (min (Int.toNat a4) 64))) * a1.2.2)))) (F190 ((F188 a0.1 a4).1.getD (Int.toNat v3) default) ((W ((W (1 * 2 ^ (min (Int.toNat a4) 64))) * a1.1)), (W ((W (1 * 2 ^ (min (Int.toNat a4) 64))) * a1.2.1)), (W ((W (1 * 2 ^ (min (Int.toNat a4) 64))) * a1.2.2))))).1.2)]))]⟩)
          (obs := [.eq (decide ((v3 : Int) < (((F188 a0.1 a4).1.length : Nat) : Int))) true, .pr (0 ≤ (v3 : Int) ∧ (v3 : Int) < (((F188 a0.1 a4).1.length : Nat) : Int)), .pr (((((flat c65 (F188 a0.1 a4).1)).drop (0 + Int.toNat v3 * 9)).take 9) = (k9 ((F188 a0.1 a4).1.getD (Int.toNat v3) default))), .call 187 [(.a (k9 ((F188 a0.1 a4).1.getD (Int.toNat v3) default))), (.a [(iv (W ((W (1 * 2 ^ (min (Int.toNat a4) 64))) * a1.1))), (iv (W ((W (1 * 2 ^ (min (Int.toNat a4) 64))) * a1.2.1))), (iv (W ((W (1 * 2 ^ (min (Int.toNat a4) 64))) * a1.2.2)))])] [] (iv (F187 ((F188 a0.1 a4).1.getD (Int.toNat v3) default) ((W ((W (1 * 2 ^ (min (Int.toNat a4) 64))) * a1.1)), (W ((W (1 * 2 ^ (min (Int.toNat a4) 64))) * a1.2.1)), (W ((W (1 * 2 ^ (min (Int.toNat a4) 64))) * a1.2.2))))) [], .pr (0 ≤ (v3 : Int) ∧ (v3 : Int) < (((F188 a0.1 a4).1.length : Nat) : Int)), .pr (((((flat c65 (F188 a0.1 a4).1)).drop (0 + Int.toNat v3 * 9)).take 9) = (k9 ((F188 a0.1 a4).1.getD (Int.toNat v3) default))), .call 190 [(.a (k9 ((F188 a0.1 a4).1.getD (Int.toNat v3) default))), (.a [(iv (W ((W (1 * 2 ^ (min (Int.toNat a4) 64))) * a1.1))), (iv (W ((W (1 * 2 ^ (min (Int.toNat a4) 64))) * a1.2.1))), (iv (W ((W (1 * 2 ^ (min (Int.toNat a4) 64))) * a1.2.2)))])] [] (iv (F190 ((F188 a0.1 a4).1.getD (Int.toNat v3) default) ((W ((W (1 * 2 ^ (min (Int.toNat a4) 64))) * a1.1)), (W ((W (1 * 2 ^ (min (Int.toNat a4) 64))) * a1.2.1)), (W ((W (1 * 2 ^ (min (Int.toNat a4) 64))) * a1.2.2))))) [], .call 189 [(.a [(iv (F186 (W ((W ((W (1 * 2 ^ (min (Int.toNat a4) 64))) * a2)) * (W ((W (a3 - a0.2.1)) - 1)))))), (iv (F186 (W ((W ((W (1 * 2 ^ (min (Int.toNat a4) 64))) * a2)) * (W (a3 - a0.2.1)))))), (iv (W (1 * 2 ^ (min (Int.toNat a4) 64))))]), (iv (F187 ((F188 a0.1 a4).1.getD (Int.toNat v3) default) ((W ((W (1 * 2 ^ (min (Int.toNat a4) 64))) * a1.1)), (W ((W (1 * 2 ^ (min (Int.toNat a4) 64))) * a1.2.1)), (W ((W (1 * 2 ^ (min (Int.toNat a4) 64))) * a1.2.2))))), (iv (F190 ((F188 a0.1 a4).1.getD (Int.toNat v3) default) ((W ((W (1 * 2 ^ (min (Int.toNat a4) 64))) * a1.1)), (W ((W (1 * 2 ^ (min (Int.toNat a4) 64))) * a1.2.1)), (W ((W (1 * 2 ^ (min (Int.toNat a4) 64))) * a1.2.2)))))] [] (.t [(.a [(iv (F189 ((F186 (W ((W ((W (1 * 2 ^ (min (Int.toNat a4) 64))) * a2)) * (W ((W (a3 - a0.2.1)) - 1))))), (F186 (W ((W ((W (1 * 2 ^ (min (Int.toNat a4) 64))) * a2)) * (W (a3 - a0.2.1))))), (W (1 * 2 ^ (min (Int.toNat a4) 64)))) (F187 ((F188 a0.1 a4).1.getD (Int.toNat v3) default) ((W ((W (1 * 2 ^ (min (Int.toNat a4) 64))) * a1.1)), (W ((W (1 * 2 ^ (min (Int.toNat a4) 64))) * a1.2.1)), (W ((W (1 * 2 ^ (min (Int.toNat a4) 64))) * a1.2.2)))) (F190 ((F188 a0.1 a4).1.getD (Int.toNat v3) default) ((W ((W (1 * 2 ^ (min (Int.toNat a4) 64))) * a1.1)), (W ((W (1 * 2 ^ (min (Int.toNat a4) 64))) * a1.2.1)), (W ((W (1 * 2 ^ (min (Int.toNat a4) 64))) * a1.2.2))))).1.1), (iv (F189 ((F186 (W ((W ((W (1 * 2 ^ (min (Int.toNat a4) 64))) * a2)) * (W ((W (a3 - a0.2.1)) - 1))))), (F186 (W ((W ((W (1 * 2 ^ (min (Int.toNat a4) 64))) * a2)) * (W (a3 - a0.2.1))))), (W (1 * 2 ^ (min (Int.toNat a4) 64)))) (F187 ((F188 a0.1 a4).1.getD (Int.toNat v3) default) ((W ((W (1 * 2 ^ (min (Int.toNat a4) 64))) * a1.1)), (W ((W (1 * 2 ^ (min (Int.toNat a4) 64))) * a1.2.1)), (W ((W (1 * 2 ^ (min (Int.toNat a4) 64))) * a1.2.2)))) (F190 ((F188 a0.1 a4).1.getD (Int.toNat v3) default) ((W ((W (1 * 2 ^ (min (Int.toNat a4) 64))) * a1.1)), (W ((W (1 * 2 ^ (min (Int.toNat a4) 64))) * a1.2.1)), (W ((W (1 * 2 ^ (min (Int.toNat a4) 64))) * a1.2.2))))).1.2)]), (iv (F189 ((F186 (W ((W ((W (1 * 2 ^ (min (Int.toNat a4) 64))) * a2)) * (W ((W (a3 - a0.2.1)) - 1))))), (F186 (W ((W ((W (1 * 2 ^ (min (Int.toNat a4) 64))) * a2)) * (W (a3 - a0.2.1))))), (W (1 * 2 ^ (min (Int.toNat a4) 64)))) (F187 ((F188 a0.1 a4).1.getD (Int.toNat v3) default) ((W ((W (1 * 2 ^ (min (Int.toNat a4) 64))) * a1.1)), (W ((W (1 * 2 ^ (min (Int.toNat a4) 64))) * a1.2.1)), (W ((W (1 * 2 ^ (min (Int.toNat a4) 64))) * a1.2.2)))) (F190 ((F188 a0.1 a4).1.getD (Int.toNat v3) default) ((W ((W (1 * 2 ^ (min (Int.toNat a4) 64))) * a1.1)), (W ((W (1 * 2 ^ (min (Int.toNat a4) 64))) * a1.2.1)), (W ((W (1 * 2 ^ (min (Int.toNat a4) 64))) * a1.2.2))))).2)]) [], .eq (((F189 ((F186 (W ((W ((W (1 * 2 ^ (min (Int.toNat a4) 64))) * a2)) * (W ((W (a3 - a0.2.1)) - 1))))), (F186 (W ((W ((W (1 * 2 ^ (min (Int.toNat a4) 64))) * a2)) * (W (a3 - a0.2.1))))), (W (1 * 2 ^ (min (Int.toNat a4) 64)))) (F187 ((F188 a0.1 a4).1.getD (Int.toNat v3) default) ((W ((W (1 * 2 ^ (min (Int.toNat a4) 64))) * a1.1)), (W ((W (1 * 2 ^ (min (Int.toNat a4) 64))) * a1.2.1)), (W ((W (1 * 2 ^ (min (Int.toNat a4) 64))) * a1.2.2)))) (F190 ((F188 a0.1 a4).1.getD (Int.toNat v3) default) ((W ((W (1 * 2 ^ (min (Int.toNat a4) 64))) * a1.1)), (W ((W (1 * 2 ^ (min (Int.toNat a4) 64))) * a1.2.1)), (W ((W (1 * 2 ^ (min (Int.toNat a4) 64))) * a1.2.2))))).2 : Int) != 0) false, .pr ((flat c29 v2).length = v2.length * 2 ∧ v2.length + 1 ≤ 2 ^ 40 ∧ (v2.length + 1) * 16 ≤ 2 ^ 47)]) (by kernel_rfl) ⟨h0, (show 0 ≤ (v3 : Int) ∧ (v3 : Int) < (((F188 a0.1 a4).1.length : Nat) : Int) from by first | omega | (rw [W_eq] <;> omega) | exact u64_nn _), (ld_part c65_len default (F188 a0.1 a4).1 v3 0 9 (by omega) (by decide) (by omega) rfl), (C187 ((F188 a0.1 a4).1.getD (Int.toNat v3) default) ((W ((W (1 * 2 ^ (min (Int.toNat a4) 64))) * a1.1)), (W ((W (1 * 2 ^ (min (Int.toNat a4) 64))) * a1.2.1)), (W ((W (1 * 2 ^ (min (Int.toNat a4) 64))) * a1.2.2)))), (show 0 ≤ (v3 : Int) ∧ (v3 : Int) < (((F188 a0.1 a4).1.length : Nat) : Int) from by first | omega | (rw [W_eq] <;> omega) | exact u64_nn _), (ld_part c65_len default (F188 a0.1 a4).1 v3 0 9 (by omega) (by decide) (by omega) rfl), (C190 ((F188 a0.1 a4).1.getD (Int.toNat v3) default) ((W ((W (1 * 2 ^ (min (Int.toNat a4) 64))) * a1.1)), (W ((W (1 * 2 ^ (min (Int.toNat a4) 64))) * a1.2.1)), (W ((W (1 * 2 ^ (min (Int.toNat a4) 64))) * a1.2.2)))), (C189 ((F186 (W ((W ((W (1 * 2 ^ (min (Int.toNat a4) 64))) * a2)) * (W ((W (a3 - a0.2.1)) - 1))))), (F186 (W ((W ((W (1 * 2 ^ (min (Int.toNat a4) 64))) * a2)) * (W (a3 - a0.2.1))))), (W (1 * 2 ^ (min (Int.toNat a4) 64)))) (F187 ((F188 a0.1 a4).1.getD (Int.toNat v3) default) ((W ((W (1 * 2 ^ (min (Int.toNat a4) 64))) * a1.1)), (W ((W (1 * 2 ^ (min (Int.toNat a4) 64))) * a1.2.1)), (W ((W (1 * 2 ^ (min (Int.toNat a4) 64))) * a1.2.2)))) (F190 ((F188 a0.1 a4).1.getD (Int.toNat v3) default) ((W ((W (1 * 2 ^ (min (Int.toNat a4) 64))) * a1.1)), (W ((W (1 * 2 ^ (min (Int.toNat a4) 64))) * a1.2.1)), (W ((W (1 * 2 ^ (min (Int.toNat a4) 64))) * a1.2.2))))), h1, (app_ok c29_len (by omega) (by omega)), trivial⟩ ?_
        have z0 : (W (v3 + 1)) = (v3 + 1) := W_eq (by omega) (by omega)
        have z1 : (flat c29 v2 ++ [(iv (F189 ((F186 (W ((W ((W (1 * 2 ^ (min (Int.toNat a4) 64))) * a2)) * (W ((W (a3 - a0.2.1)) - 1))))), (F186 (W ((W ((W (1 * 2 ^ (min (Int.toNat a4) 64))) * a2)) * (W (a3 - a0.2.1))))), (W (1 * 2 ^ (min (Int.toNat a4) 64)))) (F187 ((F188 a0.1 a4).1.getD (Int.toNat v3) default) ((W ((W (1 * 2 ^ (min (Int.toNat a4) 64))) * a1.1)), (W ((W (1 * 2 ^ (min (Int.toNat a4) 64))) * a1.2.1)), (W ((W (1 * 2 ^ (min (Int.toNat a4) 64))) * a1.2.2)))) (F190 ((F188 a0.1 a4).1.getD (Int.toNat v3) default) ((W ((W (1 * 2 ^ (min (Int.toNat a4) 64))) * a1.1)), (W ((W (1 * 2 ^ (min (Int.toNat a4) 64))) * a1.2.1)), (W ((W (1 * 2 ^ (min (Int.toNat a4) 64))) * a1.2.2))))).1.1), (iv (F189 ((F186 (W ((W ((W (1 * 2 ^ (min (Int.toNat a4) 64))) * a2)) * (W ((W (a3 - a0.2.1)) - 1))))), (F186 (W ((W ((W (1 * 2 ^ (min (Int.toNat a4) 64))) * a2)) * (W (a3 - a0.2.1))))), (W (1 * 2 ^ (min (Int.toNat a4) 64)))) (F187 ((F188 a0.1 a4).1.getD (Int.toNat v3) default) ((W ((W (1 * 2 ^ (min (Int.toNat a4) 64))) * a1.1)), (W ((W (1 * 2 ^ (min (Int.toNat a4) 64))) * a1.2.1)), (W ((W (1 * 2 ^ (min (Int.toNat a4) 64))) * a1.2.2)))) (F190 ((F188 a0.1 a4).1.getD (Int.toNat v3) default) ((W ((W (1 * 2 ^ (min (Int.toNat a4) 64))) * a1.1)), (W ((W (1 * 2 ^ (min (Int.toNat a4) 64))) * a1.2.1)), (W ((W (1 * 2 ^ (min (Int.toNat a4) 64))) * a1.2.2))))).1.2)]) = (flat c29 (v2 ++ [(F189 ((F186 (W ((W ((W (1 * 2 ^ (min (Int.toNat a4) 64))) * a2)) * (W ((W (a3 - a0.2.1)) - 1))))), (F186 (W ((W ((W (1 * 2 ^ (min (Int.toNat a4) 64))) * a2)) * (W (a3 - a0.2.1))))), (W (1 * 2 ^ (min (Int.toNat a4) 64)))) (F187 ((F188 a0.1 a4).1.getD (Int.toNat v3) default) ((W ((W (1 * 2 ^ (min (Int.toNat a4) 64))) * a1.1)), (W ((W (1 * 2 ^ (min (Int.toNat a4) 64))) * a1.2.1)), (W ((W (1 * 2 ^ (min (Int.toNat a4) 64))) * a1.2.2)))) (F190 ((F188 a0.1 a4).1.getD (Int.toNat v3) default) ((W ((W (1 * 2 ^ (min (Int.toNat a4) 64))) * a1.1)), (W ((W (1 * 2 ^ (min (Int.toNat a4) 64))) * a1.2.1)), (W ((W (1 * 2 ^ (min (Int.toNat a4) 64))) * a1.2.2))))).1])) := (flat_append (c := c29) (l := v2) (m := [(F189 ((F186 (W ((W ((W (1 * 2 ^ (min (Int.toNat a4) 64))) * a2)) * (W ((W (a3 - a0.2.1)) - 1))))), (F186 (W ((W ((W (1 * 2 ^ (min (Int.toNat a4) 64))) * a2)) * (W (a3 - a0.2.1))))), (W (1 * 2 ^ (min (Int.toNat a4) 64)))) (F187 ((F188 a0.1 a4).1.getD (Int.toNat v3) default) ((W ((W (1 * 2 ^ (min (Int.toNat a4) 64))) * a1.1)), (W ((W (1 * 2 ^ (min (Int.toNat a4) 64))) * a1.2.1)), (W ((W (1 * 2 ^ (min (Int.toNat a4) 64))) * a1.2.2)))) (F190 ((F188 a0.1 a4).1.getD (Int.toNat v3) default) ((W ((W (1 * 2 ^ (min (Int.toNat a4) 64))) * a1.1)), (W ((W (1 * 2 ^ (min (Int.toNat a4) 64))) * a1.2.1)), (W ((W (1 * 2 ^ (min (Int.toNat a4) 64))) * a1.2.2))))).1])).symm
        have z2 : (v2.length + 1) = (v2 ++ [(F189 ((F186 (W ((W ((W (1 * 2 ^ (min (Int.toNat a4) 64))) * a2)) * (W ((W (a3 - a0.2.1)) - 1))))), (F186 (W ((W ((W (1 * 2 ^ (min (Int.toNat a4) 64))) * a2)) * (W (a3 - a0.2.1))))), (W (1 * 2 ^ (min (Int.toNat a4) 64)))) (F187 ((F188 a0.1 a4).1.getD (Int.toNat v3) default) ((W ((W (1 * 2 ^ (min (Int.toNat a4) 64))) * a1.1)), (W ((W (1 * 2 ^ (min (Int.toNat a4) 64))) * a1.2.1)), (W ((W (1 * 2 ^ (min (Int.toNat a4) 64))) * a1.2.2)))) (F190 ((F188 a0.1 a4).1.getD (Int.toNat v3) default) ((W ((W (1 * 2 ^ (min (Int.toNat a4) 64))) * a1.1)), (W ((W (1 * 2 ^ (min (Int.toNat a4) 64))) * a1.2.1)), (W ((W (1 * 2 ^ (min (Int.toNat a4) 64))) * a1.2.2))))).1]).length := len_app v2 [(F189 ((F186 (W ((W ((W (1 * 2 ^ (min (Int.toNat a4) 64))) * a2)) * (W ((W (a3 - a0.2.1)) - 1))))), (F186 (W ((W ((W (1 * 2 ^ (min (Int.toNat a4) 64))) * a2)) * (W (a3 - a0.2.1))))), (W (1 * 2 ^ (min (Int.toNat a4) 64)))) (F187 ((F188 a0.1 a4).1.getD (Int.toNat v3) default) ((W ((W (1 * 2 ^ (min (Int.toNat a4) 64))) * a1.1)), (W ((W (1 * 2 ^ (min (Int.toNat a4) 64))) * a1.2.1)), (W ((W (1 * 2 ^ (min (Int.toNat a4) 64))) * a1.2.2)))) (F190 ((F188 a0.1 a4).1.getD (Int.toNat v3) default) ((W ((W (1 * 2 ^ (min (Int.toNat a4) 64))) * a1.1)), (W ((W (1 * 2 ^ (min (Int.toNat a4) 64))) * a1.2.1)), (W ((W (1 * 2 ^ (min (Int.toNat a4) 64))) * a1.2.2))))).1] rfl
        rw [z0, z1, z2]
        exact ih (v2 ++ [(F189 ((F186 (W ((W ((W (1 * 2 ^ (min (Int.toNat a4) 64))) * a2)) * (W ((W (a3 - a0.2.1)) - 1))))), (F186 (W ((W ((W (1 * 2 ^ (min (Int.toNat a4) 64))) * a2)) * (W (a3 - a0.2.1))))), (W (1 * 2 ^ (min (Int.toNat a4) 64)))) (F187 ((F188 a0.1 a4).1.getD (Int.toNat v3) default) ((W ((W (1 * 2 ^ (min (Int.toNat a4) 64))) * a1.1)), (W ((W (1 * 2 ^ (min (Int.toNat a4) 64))) * a1.2.1)), (W ((W (1 * 2 ^ (min (Int.toNat a4) 64))) * a1.2.2)))) (F190 ((F188 a0.1 a4).1.getD (Int.toNat v3) default) ((W ((W (1 * 2 ^ (min (Int.toNat a4) 64))) * a1.1)), (W ((W (1 * 2 ^ (min (Int.toNat a4) 64))) * a1.2.1)), (W ((W (1 * 2 ^ (min (Int.toNat a4) 64))) * a1.2.2))))).1]) (v3 + 1) (by refine ⟨?_, ?_, ?_⟩ <;> (try simp only [List.length_append, List.length_cons, List.length_nil, Int.toNat_zero]) <;> first | omega | assumption | simp) (by (try simp only [List.length_append, List.length_cons, List.length_nil, Int.toNat_zero]); omega)
    | false =>
      cases h1 : (((F177_L v2).2 : Int) != 0) with
      | true =>
        have q0 := of_decide_eq_false h0
        have q1 := bne_iff_ne.1 h1
        have hpl := sp_len a0.1 a4
        have e : S116_0 a0 a1 a2 a3 a4 (v2, v3) = (.inr ((0, 0), (F177_L v2).2)) := by simp only [S116_0, h0, h1, cond_true, cond_false]
        rw [show loopF (S116_0 a0 a1 a2 a3 a4) (n + 1) (v2, v3) = thenF (S116_0 a0 a1 a2 a3 a4) n (S116_0 a0 a1 a2 a3 a4 (v2, v3)) from rfl, e]
        exact ret_of (T := T0) hT hm (f := 5000) (orc := [.d false, .call [5] (.t [(.a (k2 (F177_L v2).1)), (iv (F177_L v2).2)]) [], .d true]) [] [] [] hcx
          (obs := [.eq (decide ((v3 : Int) < (((F188 a0.1 a4).1.length : Nat) : Int))) false, .call 177 [(.s 0 0 v2.length 2)] [(.live false true (flat c29 v2))] (.t [(.a (k2 (F177_L v2).1)), (iv (F177_L v2).2)]) [], .eq (((F177_L v2).2 : Int) != 0) true]) (by kernel_rfl) ⟨h0, (C177_L v2 (by (try simp only [List.length_append, List.length_cons, List.length_nil, Int.toNat_zero]); omega)), h1, trivial⟩
      | false =>
        have q0 := of_decide_eq_false h0
        have q1 := bne_eq_false_iff_eq.1 h1
        have hpl := sp_len a0.1 a4
        have e : S116_0 a0 a1 a2 a3 a4 (v2, v3) = (.inr ((F65 (F177_L v2).1 a0.2.2).1, (F65 (F177_L v2).1 a0.2.2).2)) := by simp only [S116_0, h0, h1, cond_true, cond_false]
        rw [show loopF (S116_0 a0 a1 a2 a3 a4) (n + 1) (v2, v3) = thenF (S116_0 a0 a1 a2 a3 a4) n (S116_0 a0 a1 a2 a3 a4 (v2, v3)) from rfl, e]
        exact ret_of (T := T0) hT hm (f := 5000) (orc := [.d false, .call [5] (.t [(.a (k2 (F177_L v2).1)), (iv (F177_L v2).2)]) [], .d false, .call [] (.t [(.a (k2 (F65 (F177_L v2).1 a0.2.2).1)), (iv (F65 (F177_L v2).1 a0.2.2).2)]) []]) [] [] [] hcx
          (obs := [.eq (decide ((v3 : Int) < (((F188 a0.1 a4).1.length : Nat) : Int))) false, .call 177 [(.s 0 0 v2.length 2)] [(.live false true (flat c29 v2))] (.t [(.a (k2 (F177_L v2).1)), (iv (F177_L v2).2)]) [], .eq (((F177_L v2).2 : Int) != 0) false, .call 65 [(.a (k2 (F177_L v2).1)), (iv a0.2.2)] [] (.t [(.a (k2 (F65 (F177_L v2).1 a0.2.2).1)), (iv (F65 (F177_L v2).1 a0.2.2).2)]) []]) (by kernel_rfl) ⟨h0, (C177_L v2 (by (try simp only [List.length_append, List.length_cons, List.length_nil, Int.toNat_zero]); omega)), h1, (C65 (F177_L v2).1 a0.2.2), trivial⟩

/-- facet/sound.heard -/
def F116 (a0 : ((Int × Int × Int) × (Int × Int × Int) × Int × Int × Int) × Int × Int) (a1 : Int × Int × Int) (a2 : Int) (a3 : Int) (a4 : Int) : (Int × Int) × Int :=
  (bif (decide (((W (a3 - a0.2.1)) : Int) < 1)) then
   ((0, 0), 0)
  else
   (bif (((F188 a0.1 a4).2 : Int) != 0) then
    ((0, 0), (F188 a0.1 a4).2)
   else
    (loopF (S116_0 a0 a1 a2 a3 a4) (Int.toNat ((((F188 a0.1 a4).1.length : Nat) : Int) - 0) + 1) (([] : List (Int × Int)), 0))))

theorem C116 (a0 : ((Int × Int × Int) × (Int × Int × Int) × Int × Int × Int) × Int × Int) (a1 : Int × Int × Int) (a2 : Int) (a3 : Int) (a4 : Int) (hp : POK a0) (hx : bd 256 a1) (hs : 1 ≤ a2 ∧ a2 ≤ 16) (ht : 0 ≤ a3 ∧ a3 ≤ 2000) (hd : 0 ≤ a4 ∧ a4 ≤ 3) : Con Tryz.prog 116 [(.a [(iv a0.1.1.1), (iv a0.1.1.2.1), (iv a0.1.1.2.2), (iv a0.1.2.1.1), (iv a0.1.2.1.2.1), (iv a0.1.2.1.2.2), (iv a0.1.2.2.1), (iv a0.1.2.2.2.1), (iv a0.1.2.2.2.2), (iv a0.2.1), (iv a0.2.2)]), (.a (k3 a1)), (iv a2), (iv a3), (iv a4)] [] (.t [(.a (k2 (F116 a0 a1 a2 a3 a4).1)), (iv (F116 a0 a1 a2 a3 a4).2)]) [] := by
  cases h0 : (decide (((W (a3 - a0.2.1)) : Int) < 1)) with
  | true =>
    have q0 := of_decide_eq_true h0
    have e : (F116 a0 a1 a2 a3 a4) = ((0, 0), 0) := by simp only [F116, h0, cond_true, cond_false]
    rw [e]
    refine con_of (n := 9) Tryz.func116 rfl (ent Tryz.func116 (by kernel_rfl) rfl) (by show 5 ≤ Tryz.f116.ntmps; decide) (by kernel_rfl) trivial (fun cx hcx => ?_)
    exact ret_of (T := T0) hT hm (f := 5000) (orc := [.d true]) [] [] [] hcx
      (obs := [.eq (decide (((W (a3 - a0.2.1)) : Int) < 1)) true]) (by kernel_rfl) ⟨h0, trivial⟩
  | false =>
    cases h1 : (((F188 a0.1 a4).2 : Int) != 0) with
    | true =>
      have q0 := of_decide_eq_false h0
      have q1 := bne_iff_ne.1 h1
      have e : (F116 a0 a1 a2 a3 a4) = ((0, 0), (F188 a0.1 a4).2) := by simp only [F116, h0, h1, cond_true, cond_false]
      rw [e]
      refine con_of (n := 9) Tryz.func116 rfl (ent Tryz.func116 (by kernel_rfl) rfl) (by show 5 ≤ Tryz.f116.ntmps; decide) (by kernel_rfl) trivial (fun cx hcx => ?_)
      exact ret_of (T := T0) hT hm (f := 5000) (orc := [.d false, .call [] (.t [(.s 0 0 (F188 a0.1 a4).1.length 9), (iv (F188 a0.1 a4).2)]) [(.live true true (flat c65 (F188 a0.1 a4).1))], .d true]) [] [] [] hcx
        (obs := [.eq (decide (((W (a3 - a0.2.1)) : Int) < 1)) false, .call 188 [(.a (k9 a0.1)), (iv a4)] [] (.t [(.s 0 0 (F188 a0.1 a4).1.length 9), (iv (F188 a0.1 a4).2)]) [(.live true true (flat c65 (F188 a0.1 a4).1))], .eq (((F188 a0.1 a4).2 : Int) != 0) true]) (by kernel_rfl) ⟨h0, (C188 a0.1 a4), h1, trivial⟩
    | false =>
      have q0 := of_decide_eq_false h0
      have q1 := bne_eq_false_iff_eq.1 h1
      have e : (F116 a0 a1 a2 a3 a4) = (loopF (S116_0 a0 a1 a2 a3 a4) (Int.toNat ((((F188 a0.1 a4).1.length : Nat) : Int) - 0) + 1) (([] : List (Int × Int)), 0)) := by simp only [F116, h0, h1, cond_true, cond_false]
      rw [e]
      refine con_of (n := 9) Tryz.func116 rfl (ent Tryz.func116 (by kernel_rfl) rfl) (by show 5 ≤ Tryz.f116.ntmps; decide) (by kernel_rfl) trivial (fun cx hcx => ?_)
      refine enter_of (T := T0) hT hm (f := 5000) (orc := [.d false, .call [] (.t [(.s 0 0 (F188 a0.1 a4).1.length 9), (iv (F188 a0.1 a4).2)]) [(.live true true (flat c65 (F188 a0.1 a4).1))], .d false, .call [] (iv (F186 (W ((W ((W (1 * 2 ^ (min (Int.toNat a4) 64))) * a2)) * (W ((W (a3 - a0.2.1)) - 1)))))) [], .call [] (iv (F186 (W ((W ((W (1 * 2 ^ (min (Int.toNat a4) 64))) * a2)) * (W (a3 - a0.2.1)))))) []]) [.slot 18 2] [5, 10, 13, 16, 17, 18, 72, 73] [0, 2, 3, 4, 5, 6] hcx (body := B116_0) (k' := K116_0) (s' := ⟨[.u, .u, .u, .u, .u, (.p 0 0), .u, .u, .u, .u, (.p 1 0), .u, .u, (.s 2 0 (F188 a0.1 a4).1.length 9), .u, .u, (.p 3 0), (.p 4 0), (.s 5 0 0 2), .u, .u, .u, .u, .u, .u, .u, .u, .u, .u, .u, .u, .u, .u, .u, .u, .u, .u, .u, .u, .u, .u, .u, .u, .u, .u, .u, .u, .u, .u, .u, .u, .u, .u, .u, .u, .u, .u, .u, .u, .u, .u, .u, .u, .u, .u, .u, .u, .u, .u, .u, .u, .u, (iv (((F188 a0.1 a4).1.length : Nat) : Int)), (iv 0), .u, .u, .u, .u, .u, .u, .u, .u, .u, .u, .u, .u, .u, .u, .u, .u, .u, .u, .u, .u, .u, .u, .u, .u, .u, .u, .u, .u, .u, .u, .u, .u, .u, .u, .u, .u, .u, .u, .u, .u, .u, .u, .u], [(.live true false [(iv a0.1.1.1), (iv a0.1.1.2.1), (iv a0.1.1.2.2), (iv a0.1.2.1.1), (iv a0.1.2.1.2.1), (iv a0.1.2.1.2.2), (iv a0.1.2.2.1), (iv a0.1.2.2.2.1), (iv a0.1.2.2.2.2), (iv a0.2.1), (iv a0.2.2)]), (.live true false [(iv 0), (iv 0)]), (.live true true (flat c65 (F188 a0.1 a4).1)), (.live true false [(iv (F186 (W ((W ((W (1 * 2 ^ (min (Int.toNat a4) 64))) * a2)) * (W ((W (a3 - a0.2.1)) - 1)))))), (iv (F186 (W ((W ((W (1 * 2 ^ (min (Int.toNat a4) 64))) * a2)) * (W (a3 - a0.2.1)))))), (iv (W (1 * 2 ^ (min (Int.toNat a4) 64))))]), (.live true false [(iv (W ((W (1 * 2 ^ (min (Int.toNat a4) 64))) * a1.1))), (iv (W ((W (1 * 2 ^ (min (Int.toNat a4) 64))) * a1.2.1))), (iv (W ((W (1 * 2 ^ (min (Int.toNat a4) 64))) * a1.2.2)))]), (.live true true (flat c29 ([] : List (Int × Int))))]⟩)
        (obs := [.eq (decide (((W (a3 - a0.2.1)) : Int) < 1)) false, .call 188 [(.a (k9 a0.1)), (iv a4)] [] (.t [(.s 0 0 (F188 a0.1 a4).1.length 9), (iv (F188 a0.1 a4).2)]) [(.live true true (flat c65 (F188 a0.1 a4).1))], .eq (((F188 a0.1 a4).2 : Int) != 0) false, .pr (0 ≤ (a4 : Int)), .call 186 [(iv (W ((W ((W (1 * 2 ^ (min (Int.toNat a4) 64))) * a2)) * (W ((W (a3 - a0.2.1)) - 1)))))] [] (iv (F186 (W ((W ((W (1 * 2 ^ (min (Int.toNat a4) 64))) * a2)) * (W ((W (a3 - a0.2.1)) - 1)))))) [], .call 186 [(iv (W ((W ((W (1 * 2 ^ (min (Int.toNat a4) 64))) * a2)) * (W (a3 - a0.2.1)))))] [] (iv (F186 (W ((W ((W (1 * 2 ^ (min (Int.toNat a4) 64))) * a2)) * (W (a3 - a0.2.1)))))) []]) (by kernel_rfl) ⟨h0, (C188 a0.1 a4), h1, (show 0 ≤ (a4 : Int) from by first | omega | (rw [W_eq] <;> omega) | exact u64_nn _), (C186 (W ((W ((W (1 * 2 ^ (min (Int.toNat a4) 64))) * a2)) * (W ((W (a3 - a0.2.1)) - 1))))), (C186 (W ((W ((W (1 * 2 ^ (min (Int.toNat a4) 64))) * a2)) * (W (a3 - a0.2.1))))), trivial⟩ ⟨Int.toNat ((((F188 a0.1 a4).1.length : Nat) : Int) - 0) + 1, ?_⟩
      exact L116_0 a0 a1 a2 a3 a4 hp hx hs ht hd hcx (Int.toNat ((((F188 a0.1 a4).1.length : Nat) : Int) - 0) + 1) ([] : List (Int × Int)) 0 (by refine ⟨?_, ?_, ?_⟩ <;> (try simp only [List.length_append, List.length_cons, List.length_nil, Int.toNat_zero]) <;> first | omega | assumption | simp) (by (try simp only [List.length_append, List.length_cons, List.length_nil, Int.toNat_zero]); omega)

noncomputable def B125_0 : Code := (loopAtD [1, 1, 1, 1, 1, 1, 1, 1, 0, 1] [] (Tryz.f125.body.getD .skip) []).1
noncomputable def K125_0 : List K := (loopAtD [1, 1, 1, 1, 1, 1, 1, 1, 0, 1] [] (Tryz.f125.body.getD .skip) []).2

/-- a round of loop 0 of facet/facetref08.heard; the variables: v2 = s18, v3 = s19 -/
def S125_0 (a0 : ((Int × Int × Int) × (Int × Int × Int) × Int × Int × Int) × Int × Int) (a1 : Int × Int × Int) (a2 : Int) (a3 : Int) (a4 : Int) : (List (Int × Int)) × Int → ((List (Int × Int)) × Int) ⊕ ((Int × Int) × Int)
  | (v2, v3) =>
   (bif (decide ((v3 : Int) < (((F192 a0.1 a4).length : Nat) : Int))) then
    (bif (((F193 ((F192 a0.1 a4).getD (Int.toNat v3) default) ((W ((W (1 * 2 ^ (min (Int.toNat (IntKind.wrap .u64 a4)) 64))) * a1.1)), (W ((W (1 * 2 ^ (min (Int.toNat (IntKind.wrap .u64 a4)) 64))) * a1.2.1)), (W ((W (1 * 2 ^ (min (Int.toNat (IntKind.wrap .u64 a4)) 64))) * a1.2.2))) (W ((W ((W ((W (1 * 2 ^ (min (Int.toNat (IntKind.wrap .u64 a4)) 64))) * a2)) * (W ((W (a3 - a0.2.1)) - 1)))) * (W ((W ((W (1 * 2 ^ (min (Int.toNat (IntKind.wrap .u64 a4)) 64))) * a2)) * (W ((W (a3 - a0.2.1)) - 1)))))) (W ((W ((W ((W (1 * 2 ^ (min (Int.toNat (IntKind.wrap .u64 a4)) 64))) * a2)) * (W (a3 - a0.2.1)))) * (W ((W ((W (1 * 2 ^ (min (Int.toNat (IntKind.wrap .u64 a4)) 64))) * a2)) * (W (a3 - a0.2.1)))))) (W (1 * 2 ^ (min (Int.toNat (IntKind.wrap .u64 a4)) 64)))).2 : Int) != 0) then
     (.inr ((0, 0), (F193 ((F192 a0.1 a4).getD (Int.toNat v3) default) ((W ((W (1 * 2 ^ (min (Int.toNat (IntKind.wrap .u64 a4)) 64))) * a1.1)), (W ((W (1 * 2 ^ (min (Int.toNat (IntKind.wrap .u64 a4)) 64))) * a1.2.1)), (W ((W (1 * 2 ^ (min (Int.toNat (IntKind.wrap .u64 a4)) 64))) * a1.2.2))) (W ((W ((W ((W (1 * 2 ^ (min (Int.toNat (IntKind.wrap .u64 a4)) 64))) * a2)) * (W ((W (a3 - a0.2.1)) - 1)))) * (W ((W ((W (1 * 2 ^ (min (Int.toNat (IntKind.wrap .u64 a4)) 64))) * a2)) * (W ((W (a3 - a0.2.1)) - 1)))))) (W ((W ((W ((W (1 * 2 ^ (min (Int.toNat (IntKind.wrap .u64 a4)) 64))) * a2)) * (W (a3 - a0.2.1)))) * (W ((W ((W (1 * 2 ^ (min (Int.toNat (IntKind.wrap .u64 a4)) 64))) * a2)) * (W (a3 - a0.2.1)))))) (W (1 * 2 ^ (min (Int.toNat (IntKind.wrap .u64 a4)) 64)))).2))
    else
     (.inl ((v2 ++ [(F193 ((F192 a0.1 a4).getD (Int.toNat v3) default) ((W ((W (1 * 2 ^ (min (Int.toNat (IntKind.wrap .u64 a4)) 64))) * a1.1)), (W ((W (1 * 2 ^ (min (Int.toNat (IntKind.wrap .u64 a4)) 64))) * a1.2.1)), (W ((W (1 * 2 ^ (min (Int.toNat (IntKind.wrap .u64 a4)) 64))) * a1.2.2))) (W ((W ((W ((W (1 * 2 ^ (min (Int.toNat (IntKind.wrap .u64 a4)) 64))) * a2)) * (W ((W (a3 - a0.2.1)) - 1)))) * (W ((W ((W (1 * 2 ^ (min (Int.toNat (IntKind.wrap .u64 a4)) 64))) * a2)) * (W ((W (a3 - a0.2.1)) - 1)))))) (W ((W ((W ((W (1 * 2 ^ (min (Int.toNat (IntKind.wrap .u64 a4)) 64))) * a2)) * (W (a3 - a0.2.1)))) * (W ((W ((W (1 * 2 ^ (min (Int.toNat (IntKind.wrap .u64 a4)) 64))) * a2)) * (W (a3 - a0.2.1)))))) (W (1 * 2 ^ (min (Int.toNat (IntKind.wrap .u64 a4)) 64)))).1]), (v3 + 1))))
   else
    (bif (((F179_L v2).2 : Int) != 0) then
     (.inr ((0, 0), (F179_L v2).2))
    else
     (.inr ((F67 (F179_L v2).1 a0.2.2).1, (F67 (F179_L v2).1 a0.2.2).2))))

set_option maxHeartbeats 4000000 in
theorem L125_0 (a0 : ((Int × Int × Int) × (Int × Int × Int) × Int × Int × Int) × Int × Int) (a1 : Int × Int × Int) (a2 : Int) (a3 : Int) (a4 : Int) (hp : POK a0) (hx : bd 256 a1) (hs : 1 ≤ a2 ∧ a2 ≤ 16) (ht : 0 ≤ a3 ∧ a3 ≤ 2000) (hd : 0 ≤ a4 ∧ a4 ≤ 3) {cx : Cx} (hcx : cx.base = 0) : ∀ (n : Nat) (v2 : List (Int × Int)) (v3 : Int), (0 ≤ v3) ∧ (v2.length = Int.toNat v3) ∧ (v3 ≤ (F192 a0.1 a4).length) → Int.toNat ((((F192 a0.1 a4).length : Nat) : Int) - v3) < n → Aw.Good Tryz.prog none 9 (bodyPost Tryz.prog Tryz.f125 (RR cx (.t [(.a (k2 (loopF (S125_0 a0 a1 a2 a3 a4) n (v2, v3)).1)), (iv (loopF (S125_0 a0 a1 a2 a3 a4) n (v2, v3)).2)]) [] [])) cx [] (.l B125_0 n :: K125_0) ⟨[.u, .u, .u, .u, .u, (.p 0 0), .u, .u, .u, .u, (.p 1 0), .u, .u, (iv (W (1 * 2 ^ (min (Int.toNat (IntKind.wrap .u64 a4)) 64)))), (iv (W ((W ((W (1 * 2 ^ (min (Int.toNat (IntKind.wrap .u64 a4)) 64))) * a2)) * (W ((W (a3 - a0.2.1)) - 1))))), (iv (W ((W ((W (1 * 2 ^ (min (Int.toNat (IntKind.wrap .u64 a4)) 64))) * a2)) * (W (a3 - a0.2.1))))), (.p 2 0), (.s 3 0 (F192 a0.1 a4).length 9), (.s 4 0 v2.length 2), (iv v3), .u, .u, .u, .u, .u, .u, .u, .u, .u, .u, .u, .u, .u, .u, .u, .u, .u, .u, .u, .u, .u, .u, .u, .u, .u, .u, .u, .u, .u, .u, .u, .u, .u, .u, .u, .u, .u, .u, .u, .u, .u, .u, .u, .u, .u, .u, .u, .u, .u, .u, .u, .u, .u, .u, .u, .u, .u, .u, .u, .u, .u, .u, .u, .u, .u, .u, .u, .u, .u, .u, .u, .u, .u, .u, .u, .u, .u, .u, .u, .u, .u, .u, .u, .u, .u, .u, .u], [(.live true false [(iv a0.1.1.1), (iv a0.1.1.2.1), (iv a0.1.1.2.2), (iv a0.1.2.1.1), (iv a0.1.2.1.2.1), (iv a0.1.2.1.2.2), (iv a0.1.2.2.1), (iv a0.1.2.2.2.1), (iv a0.1.2.2.2.2), (iv a0.2.1), (iv a0.2.2)]), (.live true false [(iv 0), (iv 0)]), (.live true false [(iv (W ((W (1 * 2 ^ (min (Int.toNat (IntKind.wrap .u64 a4)) 64))) * a1.1))), (iv (W ((W (1 * 2 ^ (min (Int.toNat (IntKind.wrap .u64 a4)) 64))) * a1.2.1))), (iv (W ((W (1 * 2 ^ (min (Int.toNat (IntKind.wrap .u64 a4)) 64))) * a1.2.2)))]), (.live true true (flat c65 (F192 a0.1 a4))), (.live true true (flat c29 v2))]⟩ := by
  intro n
  induction n with
  | zero => intro v2 v3 hi hn; exact absurd hn (Nat.not_lt_zero _)
  | succ n ih =>
    intro v2 v3 hi hn
    refine good_round ?_
    cases h0 : (decide ((v3 : Int) < (((F192 a0.1 a4).length : Nat) : Int))) with
    | true =>
      cases h1 : (((F193 ((F192 a0.1 a4).getD (Int.toNat v3) default) ((W ((W (1 * 2 ^ (min (Int.toNat (IntKind.wrap .u64 a4)) 64))) * a1.1)), (W ((W (1 * 2 ^ (min (Int.toNat (IntKind.wrap .u64 a4)) 64))) * a1.2.1)), (W ((W (1 * 2 ^ (min (Int.toNat (IntKind.wrap .u64 a4)) 64))) * a1.2.2))) (W ((W ((W ((W (1 * 2 ^ (min (Int.toNat (IntKind.wrap .u64 a4)) 64))) * a2)) * (W ((W (a3 - a0.2.1)) - 1)))) * (W ((W ((W (1 * 2 ^ (min (Int.toNat (IntKind.wrap .u64 a4)) 64))) * a2)) * (W ((W (a3 - a0.2.1)) - 1)))))) (W ((W ((W ((W (1 * 2 ^ (min (Int.toNat (IntKind.wrap .u64 a4)) 64))) * a2)) * (W (a3 - a0.2.1)))) * (W ((W ((W (1 * 2 ^ (min (Int.toNat (IntKind.wrap .u64 a4)) 64))) * a2)) * (W (a3 - a0.2.1)))))) (W (1 * 2 ^ (min (Int.toNat (IntKind.wrap .u64 a4)) 64)))).2 : Int) != 0) with
      | true =>
        have q0 := of_decide_eq_true h0
        have q1 := bne_iff_ne.1 h1
        have hpl := rp_len a0.1 hd
        have e : S125_0 a0 a1 a2 a3 a4 (v2, v3) = (.inr ((0, 0), (F193 ((F192 a0.1 a4).getD (Int.toNat v3) default) ((W ((W (1 * 2 ^ (min (Int.toNat (IntKind.wrap .u64 a4)) 64))) * a1.1)), (W ((W (1 * 2 ^ (min (Int.toNat (IntKind.wrap .u64 a4)) 64))) * a1.2.1)), (W ((W (1 * 2 ^ (min (Int.toNat (IntKind.wrap .u64 a4)) 64))) * a1.2.2))) (W ((W ((W ((W (1 * 2 ^ (min (Int.toNat (IntKind.wrap .u64 a4)) 64))) * a2)) * (W ((W (a3 - a0.2.1)) - 1)))) * (W ((W ((W (1 * 2 ^ (min (Int.toNat (IntKind.wrap .u64 a4)) 64))) * a2)) * (W ((W (a3 - a0.2.1)) - 1)))))) (W ((W ((W ((W (1 * 2 ^ (min (Int.toNat (IntKind.wrap .u64 a4)) 64))) * a2)) * (W (a3 - a0.2.1)))) * (W ((W ((W (1 * 2 ^ (min (Int.toNat (IntKind.wrap .u64 a4)) 64))) * a2)) * (W (a3 - a0.2.1)))))) (W (1 * 2 ^ (min (Int.toNat (IntKind.wrap .u64 a4)) 64)))).2)) := by simp only [S125_0, h0, h1, cond_true, cond_false]
        rw [show loopF (S125_0 a0 a1 a2 a3 a4) (n + 1) (v2, v3) = thenF (S125_0 a0 a1 a2 a3 a4) n (S125_0 a0 a1 a2 a3 a4 (v2, v3)) from rfl, e]
        exact ret_of (T := T0) hT hm (f := 5000) (orc := [.d true, .ld (k9 ((F192 a0.1 a4).getD (Int.toNat v3) default)), .call [] (.t [(.a [(iv (F193 ((F192 a0.1 a4).getD (Int.toNat v3) default) ((W ((W (1 * 2 ^ (min (Int.toNat (IntKind.wrap .u64 a4)) 64))) * a1.1)), (W ((W (1 * 2 ^ (min (Int.toNat (IntKind.wrap .u64 a4)) 64))) * a1.2.1)), (W ((W (1 * 2 ^ (min (Int.toNat (IntKind.wrap .u64 a4)) 64))) * a1.2.2))) (W ((W ((W ((W (1 * 2 ^ (min (Int.toNat (IntKind.wrap .u64 a4)) 64))) * a2)) * (W ((W (a3 - a0.2.1)) - 1)))) * (W ((W ((W (1 * 2 ^ (min (Int.toNat (IntKind.wrap .u64 a4)) 64))) * a2)) * (W ((W (a3 - a0.2.1)) - 1)))))) (W ((W ((W ((W (1 * 2 ^ (min (Int.toNat (IntKind.wrap .u64 a4)) 64))) * a2)) * (W (a3 - a0.2.1)))) * (W ((W ((W (1 * 2 ^ (min (Int.toNat (IntKind.wrap .u64 a4)) 64))) * a2)) * (W (a3 - a0.2.1)))))) (W (1 * 2 ^ (min (Int.toNat (IntKind.wrap .u64 a4)) 64)))).1.1), (iv (F193 ((F192 a0.1 a4).getD (Int.toNat v3) default) ((W ((W (1 * 2 ^ (min (Int.toNat (IntKind.wrap .u64 a4)) 64))) * a1.1)), (W ((W (1 * 2 ^ (min (Int.toNat (IntKind.wrap .u64 a4)) 64))) * a1.2.1)), (W ((W (1 * 2 ^ (min (Int.toNat (IntKind.wrap .u64 a4)) 64))) * a1.2.2))) (W ((W ((W ((W (1 * 2 ^ (min (Int.toNat (IntKind.wrap .u64 a4)) 64))) * a2)) * (W ((W (a3 - a0.2.1)) - 1)))) * (W ((W ((W (1 * 2 ^ (min (Int.toNat (IntKind.wrap .u64 a4)) 64))) * a2)) * (W ((W (a3 - a0.2.1)) - 1)))))) (W ((W ((W ((W (1 * 2 ^ (min (Int.toNat (IntKind.wrap .u64 a4)) 64))) * a2)) * (W (a3 - a0.2.1)))) * (W ((W ((W (1 * 2 ^ (min (Int.toNat (IntKind.wrap .u64 a4)) 64))) * a2)) * (W (a3 - a0.2.1)))))) (W (1 * 2 ^ (min (Int.toNat (IntKind.wrap .u64 a4)) 64)))).1.2)]), (iv (F193 ((F192 a0.1 a4).getD (Int.toNat v3) default) ((W ((W (1 * 2 ^ (min (Int.toNat (IntKind.wrap .u64 a4)) 64))) * a1.1)), (W ((W (1 * 2 ^ (min (Int.toNat (IntKind.wrap .u64 a4)) 64))) * a1.2.1)), (W ((W (1 * 2 ^ (min (Int.toNat (IntKind.wrap .u64 a4)) 64))) * a1.2.2))) (W ((W ((W ((W (1 * 2 ^ (min (Int.toNat (IntKind.wrap .u64 a4)) 64))) * a2)) * (W ((W (a3 - a0.2.1)) - 1)))) * (W ((W ((W (1 * 2 ^ (min (Int.toNat (IntKind.wrap .u64 a4)) 64))) * a2)) * (W ((W (a3 - a0.2.1)) - 1)))))) (W ((W ((W ((W (1 * 2 ^ (min (Int.toNat (IntKind.wrap .u64 a4)) 64))) * a2)) * (W (a3 - a0.2.1)))) * (W ((W ((W (1 * 2 ^ (min (Int.toNat (IntKind.wrap .u64 a4)) 64))) * a2)) * (W (a3 - a0.2.1)))))) (W (1 * 2 ^ (min (Int.toNat (IntKind.wrap .u64 a4)) 64)))).2)]) [], .d true]) [] [] [] hcx
          (obs := [.eq (decide ((v3 : Int) < (((F192 a0.1 a4).length : Nat) : Int))) true, .pr (0 ≤ (v3 : Int) ∧ (v3 : Int) < (((F192 a0.1 a4).length : Nat) : Int)), .pr (((((flat c65 (F192 a0.1 a4))).drop (0 + Int.toNat v3 * 9)).take 9) = (k9 ((F192 a0.1 a4).getD (Int.toNat v3) default))), .call 193 [(.a (k9 ((F192 a0.1 a4).getD (Int.toNat v3) default))), (.a [(iv (W ((W (1 * 2 ^ (min (Int.toNat (IntKind.wrap .u64 a4)) 64))) * a1.1))), (iv (W ((W (1 * 2 ^ (min (Int.toNat (IntKind.wrap .u64 a4)) 64))) * a1.2.1))), (iv (W ((W (1 * 2 ^ (min (Int.toNat (IntKind.wrap .u64 a4)) 64))) * a1.2.2)))]), (iv (W ((W ((W ((W (1 * 2 ^ (min (Int.toNat (IntKind.wrap .u64 a4)) 64))) * a2)) * (W ((W (a3 - a0.2.1)) - 1)))) * (W ((W ((W (1 * 2 ^ (min (Int.toNat (IntKind.wrap .u64 a4)) 64))) * a2)) * (W ((W (a3 - a0.2.1)) - 1))))))), (iv (W ((W ((W ((W (1 * 2 ^ (min (Int.toNat (IntKind.wrap .u64 a4)) 64))) * a2)) * (W (a3 - a0.2.1)))) * (W ((W ((W (1 * 2 ^ (min (Int.toNat (IntKind.wrap .u64 a4)) 64))) * a2)) * (W (a3 - a0.2.1))))))), (iv (W (1 * 2 ^ (min (Int.toNat (IntKind.wrap .u64 a4)) 64))))] [] (.t [(.a [(iv (F193 ((F192 a0.1 a4).getD (Int.toNat v3) default) ((W ((W (1 * 2 ^ (min (Int.toNat (IntKind.wrap .u64 a4)) 64))) * a1.1)), (W ((W (1 * 2 ^ (min (Int.toNat (IntKind.wrap .u64 a4)) 64))) * a1.2.1)), (W ((W (1 * 2 ^ (min (Int.toNat (IntKind.wrap .u64 a4)) 64))) * a1.2.2))) (W ((W ((W ((W (1 * 2 ^ (min (Int.toNat (IntKind.wrap .u64 a4)) 64))) * a2)) * (W ((W (a3 - a0.2.1)) - 1)))) * (W ((W ((W (1 * 2 ^ (min (Int.toNat (IntKind.wrap .u64 a4)) 64))) * a2)) * (W ((W (a3 - a0.2.1)) - 1)))))) (W ((W ((W ((W (1 * 2 ^ (min (Int.toNat (IntKind.wrap .u64 a4)) 64))) * a2)) * (W (a3 - a0.2.1)))) * (W ((W ((W (1 * 2 ^ (min (Int.toNat (IntKind.wrap .u64 a4)) 64))) * a2)) * (W (a3 - a0.2.1)))))) (W (1 * 2 ^ (min (Int.toNat (IntKind.wrap .u64 a4)) 64)))).1.1), (iv (F193 ((F192 a0.1 a4).getD (Int.toNat v3) default) ((W ((W (1 * 2 ^ (min (Int.toNat (IntKind.wrap .u64 a4)) 64))) * a1.1)), (W ((W (1 * 2 ^ (min (Int.toNat (IntKind.wrap .u64 a4)) 64))) * a1.2.1)), (W ((W (1 * 2 ^ (min (Int.toNat (IntKind.wrap .u64 a4)) 64))) * a1.2.2))) (W ((W ((W ((W (1 * 2 ^ (min (Int.toNat (IntKind.wrap .u64 a4)) 64))) * a2)) * (W ((W (a3 - a0.2.1)) - 1)))) * (W ((W ((W (1 * 2 ^ (min (Int.toNat (IntKind.wrap .u64 a4)) 64))) * a2)) * (W ((W (a3 - a0.2.1)) - 1)))))) (W ((W ((W ((W (1 * 2 ^ (min (Int.toNat (IntKind.wrap .u64 a4)) 64))) * a2)) * (W (a3 - a0.2.1)))) * (W ((W ((W (1 * 2 ^ (min (Int.toNat (IntKind.wrap .u64 a4)) 64))) * a2)) * (W (a3 - a0.2.1)))))) (W (1 * 2 ^ (min (Int.toNat (IntKind.wrap .u64 a4)) 64)))).1.2)]), (iv (F193 ((F192 a0.1 a4).getD (Int.toNat v3) default) ((W ((W (1 * 2 ^ (min (Int.toNat (IntKind.wrap .u64 a4)) 64))) * a1.1)), (W ((W (1 * 2 ^ (min (Int.toNat (IntKind.wrap .u64 a4)) 64))) * a1.2.1)), (W ((W (1 * 2 ^ (min (Int.toNat (IntKind.wrap .u64 a4)) 64))) * a1.2.2))) (W ((W ((W ((W (1 * 2 ^ (min (Int.toNat (IntKind.wrap .u64 a4)) 64))) * a2)) * (W ((W (a3 - a0.2.1)) - 1)))) * (W ((W ((W (1 * 2 ^ (min (Int.toNat (IntKind.wrap .u64 a4)) 64))) * a2)) * (W ((W (a3 - a0.2.1)) - 1)))))) (W ((W ((W ((W (1 * 2 ^ (min (Int.toNat (IntKind.wrap .u64 a4)) 64))) * a2)) * (W (a3 - a0.2.1)))) * (W ((W ((W (1 * 2 ^ (min (Int.toNat (IntKind.wrap .u64 a4)) 64))) * a2)) * (W (a3 - a0.2.1)))))) (W (1 * 2 ^ (min (Int.toNat (IntKind.wrap .u64 a4)) 64)))).2)]) [], .eq (((F193 ((F192 a0.1 a4).getD (Int.toNat v3) default) ((W ((W (1 * 2 ^ (min (Int.toNat (IntKind.wrap .u64 a4)) 64))) * a1.1)), (W ((W (1 * 2 ^ (min (Int.toNat (IntKind.wrap .u64 a4)) 64))) * a1.2.1)), (W ((W (1 * 2 ^ (min (Int.toNat (IntKind.wrap .u64 a4)) 64))) * a1.2.2))) (W ((W ((W ((W (1 * 2 ^ (min (Int.toNat (IntKind.wrap .u64 a4)) 64))) * a2)) * (W ((W (a3 - a0.2.1)) - 1)))) * (W ((W ((W (1 * 2 ^ (min (Int.toNat (IntKind.wrap .u64 a4)) 64))) * a2)) * (W ((W (a3 - a0.2.1)) - 1)))))) (W ((W ((W ((W (1 * 2 ^ (min (Int.toNat (IntKind.wrap .u64 a4)) 64))) * a2)) * (W (a3 - a0.2.1)))) * (W ((W ((W (1 * 2 ^ (min (Int.toNat (IntKind.wrap .u64 a4)) 64))) * a2)) * (W (a3 - a0.2.1)))))) (W (1 * 2 ^ (min (Int.toNat (IntKind.wrap .u64 a4)) 64)))).2 : Int) != 0) true]) (by kernel_rfl) ⟨h0, (show 0 ≤ (v3 : Int) ∧ (v3 : Int) < (((F192 a0.1 a4).length : Nat) : Int) from by first | omega | (rw [W_eq] <;> omega) | exact u64_nn _), (ld_part c65_len default (F192 a0.1 a4) v3 0 9 (by omega) (by decide) (by omega) rfl), (C193 ((F192 a0.1 a4).getD (Int.toNat v3) default) ((W ((W (1 * 2 ^ (min (Int.toNat (IntKind.wrap .u64 a4)) 64))) * a1.1)), (W ((W (1 * 2 ^ (min (Int.toNat (IntKind.wrap .u64 a4)) 64))) * a1.2.1)), (W ((W (1 * 2 ^ (min (Int.toNat (IntKind.wrap .u64 a4)) 64))) * a1.2.2))) (W ((W ((W ((W (1 * 2 ^ (min (Int.toNat (IntKind.wrap .u64 a4)) 64))) * a2)) * (W ((W (a3 - a0.2.1)) - 1)))) * (W ((W ((W (1 * 2 ^ (min (Int.toNat (IntKind.wrap .u64 a4)) 64))) * a2)) * (W ((W (a3 - a0.2.1)) - 1)))))) (W ((W ((W ((W (1 * 2 ^ (min (Int.toNat (IntKind.wrap .u64 a4)) 64))) * a2)) * (W (a3 - a0.2.1)))) * (W ((W ((W (1 * 2 ^ (min (Int.toNat (IntKind.wrap .u64 a4)) 64))) * a2)) * (W (a3 - a0.2.1)))))) (W (1 * 2 ^ (min (Int.toNat (IntKind.wrap .u64 a4)) 64)))), h1, trivial⟩
      | false =>
        have q0 := of_decide_eq_true h0
        have q1 := bne_eq_false_iff_eq.1 h1
        have hpl := rp_len a0.1 hd
        have e : S125_0 a0 a1 a2 a3 a4 (v2, v3) = (.inl ((v2 ++ [(F193 ((F192 a0.1 a4).getD (Int.toNat v3) default) ((W ((W (1 * 2 ^ (min (Int.toNat (IntKind.wrap .u64 a4)) 64))) * a1.1)), (W ((W (1 * 2 ^ (min (Int.toNat (IntKind.wrap .u64 a4)) 64))) * a1.2.1)), (W ((W (1 * 2 ^ (min (Int.toNat (IntKind.wrap .u64 a4)) 64))) * a1.2.2))) (W ((W ((W ((W (1 * 2 ^ (min (Int.toNat (IntKind.wrap .u64 a4)) 64))) * a2)) * (W ((W (a3 - a0.2.1)) - 1)))) * (W ((W ((W (1 * 2 ^ (min (Int.toNat (IntKind.wrap .u64 a4)) 64))) * a2)) * (W ((W (a3 - a0.2.1)) - 1)))))) (W ((W ((W ((W (1 * 2 ^ (min (Int.toNat (IntKind.wrap .u64 a4)) 64))) * a2)) * (W (a3 - a0.2.1)))) * (W ((W ((W (1 * 2 ^ (min (Int.toNat (IntKind.wrap .u64 a4)) 64))) * a2)) * (W (a3 - a0.2.1)))))) (W (1 * 2 ^ (min (Int.toNat (IntKind.wrap .u64 a4)) 64)))).1]), (v3 + 1))) := by simp only [S125_0, h0, h1, cond_true, cond_false]
        rw [loopF_inl e]
        refine back_of (T := T0) hT hm (f := 5000) (orc := [.d true, .ld (k9 ((F192 a0.1 a4).getD (Int.toNat v3) default)), .call [] (.t [(.a [(iv (F193 ((F192 a0.1 a4).getD (Int.toNat v3) default) ((W ((W (1 * 2 ^ (min (Int.toNat (IntKind.wrap .u64 a4)) 64))) * a1.1)), (W ((W (1 * 2 ^ (min (Int.toNat (IntKind.wrap .u64 a4)) 64))) * a1.2.1)), (W ((W (1 * 2 ^ (min (Int.toNat (IntKind.wrap .u64 a4)) 64))) * a1.2.2))) (W ((W ((W ((W (1 * 2 ^ (min (Int.toNat (IntKind.wrap .u64 a4)) 64))) * a2)) * (W ((W (a3 - a0.2.1)) - 1)))) * (W ((W ((W (1 * 2 ^ (min (Int.toNat (IntKind.wrap .u64 a4)) 64))) * a2)) * (W ((W (a3 - a0.2.1)) - 1)))))) (W ((W ((W ((W (1 * 2 ^ (min (Int.toNat (IntKind.wrap .u64 a4)) 64))) * a2)) * (W (a3 - a0.2.1)))) * (W ((W ((W (1 * 2 ^ (min (Int.toNat (IntKind.wrap .u64 a4)) 64))) * a2)) * (W (a3 - a0.2.1)))))) (W (1 * 2 ^ (min (Int.toNat (IntKind.wrap .u64 a4)) 64)))).1.1), (iv (F193 ((F192 a0.1 a4).getD (Int.toNat v3) default) ((W ((W (1 * 2 ^ (min (Int.toNat (IntKind.wrap .u64 a4)) 64))) * a1.1)), (W ((W (1 * 2 ^ (min (Int.toNat (IntKind.wrap .u64 a4)) 64))) * a1.2.1)), (W ((W (1 * 2 ^ (min (Int.toNat (IntKind.wrap .u64 a4)) 64))) * a1.2.2))) (W ((W ((W ((W (1 * 2 ^ (min (Int.toNat (IntKind.wrap .u64 a4)) 64))) * a2)) * (W ((W (a3 - a0.2.1)) - 1)))) * (W ((W ((W (1 * 2 ^ (min (Int.toNat (IntKind.wrap .u64 a4)) 64))) * a2)) * (W ((W (a3 - a0.2.1)) - 1)))))) (W ((W ((W ((W (1 * 2 ^ (min (Int.toNat (IntKind.wrap .u64 a4)) 64))) * a2)) * (W (a3 - a0.2.1)))) * (W ((W ((W (1 * 2 ^ (min (Int.toNat (IntKind.wrap .u64 a4)) 64))) * a2)) * (W (a3 - a0.2.1)))))) (W (1 * 2 ^ (min (Int.toNat (IntKind.wrap .u64 a4)) 64)))).1.2)]), (iv (F193 ((F192 a0.1 a4).getD (Int.toNat v3) default) ((W ((W (1 * 2 ^ (min (Int.toNat (IntKind.wrap .u64 a4)) 64))) * a1.1)), (W ((W (1 * 2 ^ (min (Int.toNat (IntKind.wrap .u64 a4)) 64))) * a1.2.1)), (W ((W (1 * 2 ^ (min (Int.toNat (IntKind.wrap .u64 a4)) 64))) * a1.2.2))) (W ((W ((W ((W (1 * 2 ^ (min (Int.toNat (IntKind.wrap .u64 a4)) 64))) * a2)) * (W ((W (a3 - a0.2.1)) - 1)))) * (W ((W ((W (1 * 2 ^ (min (Int.toNat (IntKind.wrap .u64 a4)) 64))) * a2)) * (W ((W (a3 - a0.2.1)) - 1)))))) (W ((W ((W ((W (1 * 2 ^ (min (Int.toNat (IntKind.wrap .u64 a4)) 64))) * a2)) * (W (a3 - a0.2.1)))) * (W ((W ((W (1 * 2 ^ (min (Int.toNat (IntKind.wrap .u64 a4)) 64))) * a2)) * (W (a3 - a0.2.1)))))) (W (1 * 2 ^ (min (Int.toNat (IntKind.wrap .u64 a4)) 64)))).2)]) [], .d false]) [] [5, 10, 13, 14, 15, 16, 17, 18, 19] [0, 1, 2, 3, 7] hcx (body := B125_0) (m := n) (k' := K125_0) (s' := ⟨[.u, .u, .u, .u, .u, (.p 0 0), .u, .u, .u, .u, (.p 1 0), .u, .u, (iv (W (1 * 2 ^ (min (Int.toNat (IntKind.wrap .u64 a4)) 64)))), (iv (W ((W ((W (1 * 2 ^ (min (Int.toNat (IntKind.wrap .u64 a4)) 64))) * a2)) * (W ((W (a3 - a0.2.1)) - 1))))), (iv (W ((W ((W (1 * 2 ^ (min (Int.toNat (IntKind.wrap .u64 a4)) 64))) * a2)) * (W (a3 - a0.2.1))))), (.p 2 0), (.s 3 0 (F192 a0.1 a4).length 9), (.s 4 0 (v2.length + 1) 2), (iv (W (v3 + 1))), .u, .u, .u, .u, .u, .u, .u, .u, .u, .u, .u, .u, .u, .u, .u, .u, .u, .u, .u, .u, .u, .u, .u, .u, .u, .u, .u, .u, .u, .u, .u, .u, .u, .u, .u, .u, .u, .u, .u, .u, .u, .u, .u, .u, .u, .u, .u, .u, .u, .u, .u, .u, .u, .u, .u, .u, .u, .u, .u, .u, .u, .u, .u, .u, .u, .u, .u, .u, .u, .u, .u, .u, .u, .u, .u, .u, .u, .u, .u, .u, .u, .u, .u, .u, .u, .u, .u], [(.live true false [(iv a0.1.1.1), (iv a0.1.1.2.1), (iv a0.1.1.2.2), (iv a0.1.2.1.1), (iv a0.1.2.1.2.1), (iv a0.1.2.1.2.2), (iv a0.1.2.2.1), (iv a0.1.2.2.2.1), (iv a0.1.2.2.2.2), (iv a0.2.1), (iv a0.2.2)]), (.live true false [(iv 0), (iv 0)]), (.live true false [(iv (W ((W (1 * 2 ^ (min (Int.toNat (IntKind.wrap .u64 a4)) 64))) * a1.1))), (iv (W ((W (1 * 2 ^ (min (Int.toNat (IntKind.wrap .u64 a4)) 64))) * a1.2.1))), (iv (W ((W (1 * 2 ^ (min (Int.toNat (IntKind.wrap .u64 a4)) 64))) * a1.2.2)))]), (.live true true (flat c65 (F192 a0.1 a4))), (.live true true (flat c29 v2 ++ [(iv (F193 ((F192 a0.1 a4).getD (Int.toNat v3) default) ((W ((W (1 * 2 ^ (min (Int.toNat (IntKind.wrap .u64 a4)) 64))) * a1.1)), (W ((W (1 * 2 ^ (min (Int.toNat (IntKind.wrap .u64 a4)) 64))) * a1.2.1)), (W ((W (1 * 2 ^ (min (Int.toNat (IntKind.wrap .u64 a4)) 64))) * a1.2.2))) (W ((W ((W ((W (1 * 2 ^ (min (Int.toNat (IntKind.wrap .u64 a4)) 64))) * a2)) * (W ((W (a3 - a0.2.1)) - 1)))) * (W ((W ((W (1 * 2 ^ (min (Int.toNat (IntKind.wrap .u64 a4)) 64))) * a2)) * (W ((W (a3 - a0.2.1)) - 1)))))) (W ((W ((W ((W (1 * 2 ^ (min (Int.toNat (IntKind.wrap .u64 a4)) 64))) * a2)) * (W (a3 - a0.2.1)))) * (W ((W ((W (1 * 2 ^ (min (Int.toNat (IntKind.wrap .u64 a4)) 64))) * a2)) * (W (a3 - a0.2.1)))))) (W (1 * 2 ^ (min (Int.toNat (IntKind.wrap .u64 a4)) 64)))).1.1), (iv (F193 ((F192 a0.1 a4).getD (Int.toNat v3) default) ((W ((W (1 * 2 ^ (min (Int.toNat (IntKind.wrap .u64 a4)) 64))) * a1.1)), (W ((W (1 * 2 ^ (min (Int.toNat (IntKind.wrap .u64 a4)) 64))) * a1.2.1)), (W ((W (1 * 2 ^ (min (Int.toNat (IntKind.wrap .u64 a4)) 64))) * a1.2.2))) (W ((W ((W ((W (1 * 2 ^ (min (Int.toNat (IntKind.wrap .u64 a4)) 64))) * a2)) * (W ((W (a3 - a0.2.1)) - 1)))) * (W ((W ((W (1 * 2 ^ (min (Int.toNat (IntKind.wrap .u64 a4)) 64))) * a2)) * (W ((W (a3 - a0.2.1)) - 1)))))) (W ((W ((W ((W (1 * 2 ^ (min (Int.toNat (IntKind.wrap .u64 a4)) 64))) * a2)) * (W (a3 - a0.2.1)))) * (W ((W ((W (1 * 2 ^ (min (Int.toNat (IntKind.wrap .u64 a4)) 64))) * a2)) * (W (a3 - a0.2.1)))))) (W (1 * 2 ^ (min (Int.toNat (IntKind.wrap .u64 a4)) 64)))).1.2)]))]⟩)
          (obs := [.eq (decide ((v3 : Int) < (((F192 a0.1 a4).length : Nat) : Int))) true, .pr (0 ≤ (v3 : Int) ∧ (v3 : Int) < (((F192 a0.1 a4).length : Nat) : Int)), .pr (((((flat c65 (F192 a0.1 a4))).drop (0 + Int.toNat v3 * 9)).take 9) = (k9 ((F192 a0.1 a4).getD (Int.toNat v3) default))), .call 193 [(.a (k9 ((F192 a0.1 a4).getD (Int.toNat v3) default))), (.a [(iv (W ((W (1 * 2 ^ (min (Int.toNat (IntKind.wrap .u64 a4)) 64))) * a1.1))), (iv (W ((W (1 * 2 ^ (min (Int.toNat (IntKind.wrap .u64 a4)) 64))) * a1.2.1))), (iv (W ((W (1 * 2 ^ (min (Int.toNat (IntKind.wrap .u64 a4)) 64))) * a1.2.2)))]), (iv (W ((W ((W ((W (1 * 2 ^ (min (Int.toNat (IntKind.wrap .u64 a4)) 64))) * a2)) * (W ((W (a3 - a0.2.1)) - 1)))) * (W ((W ((W (1 * 2 ^ (min (Int.toNat (IntKind.wrap .u64 a4)) 64))) * a2)) * (W ((W (a3 - a0.2.1)) - 1))))))), (iv (W ((W ((W ((W (1 * 2 ^ (min (Int.toNat (IntKind.wrap .u64 a4)) 64))) * a2)) * (W (a3 - a0.2.1)))) * (W ((W ((W (1 * 2 ^ (min (Int.toNat (IntKind.wrap .u64 a4)) 64))) * a2)) * (W (a3 - a0.2.1))))))), (iv (W (1 * 2 ^ (min (Int.toNat (IntKind.wrap .u64 a4)) 64))))] [] (.t [(.a [(iv (F193 ((F192 a0.1 a4).getD (Int.toNat v3) default) ((W ((W (1 * 2 ^ (min (Int.toNat (IntKind.wrap .u64 a4)) 64))) * a1.1)), (W ((W (1 * 2 ^ (min (Int.toNat (IntKind.wrap .u64 a4)) 64))) * a1.2.1)), (W ((W (1 * 2 ^ (min (Int.toNat (IntKind.wrap .u64 a4)) 64))) * a1.2.2))) (W ((W ((W ((W (1 * 2 ^ (min (Int.toNat (IntKind.wrap .u64 a4)) 64))) * a2)) * (W ((W (a3 - a0.2.1)) - 1)))) * (W ((W ((W (1 * 2 ^ (min (Int.toNat (IntKind.wrap .u64 a4)) 64))) * a2)) * (W ((W (a3 - a0.2.1)) - 1)))))) (W ((W ((W ((W (1 * 2 ^ (min (Int.toNat (IntKind.wrap .u64 a4)) 64))) * a2)) * (W (a3 - a0.2.1)))) * (W ((W ((W (1 * 2 ^ (min (Int.toNat (IntKind.wrap .u64 a4)) 64))) * a2)) * (W (a3 - a0.2.1)))))) (W (1 * 2 ^ (min (Int.toNat (IntKind.wrap .u64 a4)) 64)))).1.1), (iv (F193 ((F192 a0.1 a4).getD (Int.toNat v3) default) ((W ((W (1 * 2 ^ (min (Int.toNat (IntKind.wrap .u64 a4)) 64))) * a1.1)), (W ((W (1 * 2 ^ (min (Int.toNat (IntKind.wrap .u64 a4)) 64))) * a1.2.1)), (W ((W (1 * 2 ^ (min (Int.toNat (IntKind.wrap .u64 a4)) 64))) * a1.2.2))) (W ((W ((W ((W (1 * 2 ^ (min (Int.toNat (IntKind.wrap .u64 a4)) 64))) * a2)) * (W ((W (a3 - a0.2.1)) - 1)))) * (W ((W ((W (1 * 2 ^ (min (Int.toNat (IntKind.wrap .u64 a4)) 64))) * a2)) * (W ((W (a3 - a0.2.1)) - 1)))))) (W ((W ((W ((W (1 * 2 ^ (min (Int.toNat (IntKind.wrap .u64 a4)) 64))) * a2)) * (W (a3 - a0.2.1)))) * (W ((W ((W (1 * 2 ^ (min (Int.toNat (IntKind.wrap .u64 a4)) 64))) * a2)) * (W (a3 - a0.2.1)))))) (W (1 * 2 ^ (min (Int.toNat (IntKind.wrap .u64 a4)) 64)))).1.2)]), (iv (F193 ((F192 a0.1 a4).getD (Int.toNat v3) default) ((W ((W (1 * 2 ^ (min (Int.toNat (IntKind.wrap .u64 a4)) 64))) * a1.1)), (W ((W (1 * 2 ^ (min (Int.toNat (IntKind.wrap .u64 a4)) 64))) * a1.2.1)), (W ((W (1 * 2 ^ (min (Int.toNat (IntKind.wrap .u64 a4)) 64))) * a1.2.2))) (W ((W ((W ((W (1 * 2 ^ (min (Int.toNat (IntKind.wrap .u64 a4)) 64))) * a2)) * (W ((W (a3 - a0.2.1)) - 1)))) * (W ((W ((W (1 * 2 ^ (min (Int.toNat (IntKind.wrap .u64 a4)) 64))) * a2)) * (W ((W (a3 - a0.2.1)) - 1)))))) (W ((W ((W ((W (1 * 2 ^ (min (Int.toNat (IntKind.wrap .u64 a4)) 64))) * a2)) * (W (a3 - a0.2.1)))) * (W ((W ((W (1 * 2 ^ (min (Int.toNat (IntKind.wrap .u64 a4)) 64))) * a2)) * (W (a3 - a0.2.1)))))) (W (1 * 2 ^ (min (Int.toNat (IntKind.wrap .u64 a4)) 64)))).2)]) [], .eq (((F193 ((F192 a0.1 a4).getD (Int.toNat v3) default) ((W ((W (1 * 2 ^ (min (Int.toNat (IntKind.wrap .u64 a4)) 64))) * a1.1)), (W ((W (1 * 2 ^ (min (Int.toNat (IntKind.wrap .u64 a4)) 64))) * a1.2.1)), (W ((W (1 * 2 ^ (min (Int.toNat (IntKind.wrap .u64 a4)) 64))) * a1.2.2))) (W ((W ((W ((W (1 * 2 ^ (min (Int.toNat (IntKind.wrap .u64 a4)) 64))) * a2)) * (W ((W (a3 - a0.2.1)) - 1)))) * (W ((W ((W (1 * 2 ^ (min (Int.toNat (IntKind.wrap .u64 a4)) 64))) * a2)) * (W ((W (a3 - a0.2.1)) - 1)))))) (W ((W ((W ((W (1 * 2 ^ (min (Int.toNat (IntKind.wrap .u64 a4)) 64))) * a2)) * (W (a3 - a0.2.1)))) * (W ((W ((W (1 * 2 ^ (min (Int.toNat (IntKind.wrap .u64 a4)) 64))) * a2)) * (W (a3 - a0.2.1)))))) (W (1 * 2 ^ (min (Int.toNat (IntKind.wrap .u64 a4)) 64)))).2 : Int) != 0) false, .pr ((flat c29 v2).length = v2.length * 2 ∧ v2.length + 1 ≤ 2 ^ 40 ∧ (v2.length + 1) * 16 ≤ 2 ^ 47)]) (by kernel_rfl) ⟨h0, (show 0 ≤ (v3 : Int) ∧ (v3 : Int) < (((F192 a0.1 a4).length : Nat) : Int) from by first | omega | (rw [W_eq] <;> omega) | exact u64_nn _), (ld_part c65_len default (F192 a0.1 a4) v3 0 9 (by omega) (by decide) (by omega) rfl), (C193 ((F192 a0.1 a4).getD (Int.toNat v3) default) ((W ((W (1 * 2 ^ (min (Int.toNat (IntKind.wrap .u64 a4)) 64))) * a1.1)), (W ((W (1 * 2 ^ (min (Int.toNat (IntKind.wrap .u64 a4)) 64))) * a1.2.1)), (W ((W (1 * 2 ^ (min (Int.toNat (IntKind.wrap .u64 a4)) 64))) * a1.2.2))) (W ((W ((W ((W (1 * 2 ^ (min (Int.toNat (IntKind.wrap .u64 a4)) 64))) * a2)) * (W ((W (a3 - a0.2.1)) - 1)))) * (W ((W ((W (1 * 2 ^ (min (Int.toNat (IntKind.wrap .u64 a4)) 64))) * a2)) * (W ((W (a3 - a0.2.1)) - 1)))))) (W ((W ((W ((W (1 * 2 ^ (min (Int.toNat (IntKind.wrap .u64 a4)) 64))) * a2)) * (W (a3 - a0.2.1)))) * (W ((W ((W (1 * 2 ^ (min (Int.toNat (IntKind.wrap .u64 a4)) 64))) * a2)) * (W (a3 - a0.2.1)))))) (W (1 * 2 ^ (min (Int.toNat (IntKind.wrap .u64 a4)) 64)))), h1, (app_ok c29_len (by omega) (by omega)), trivial⟩ ?_
        have z0 : (W (v3 + 1)) = (v3 + 1) := W_eq (by omega) (by omega)
        have z1 : (flat c29 v2 ++ [(iv (F193 ((F192 a0.1 a4).getD (Int.toNat v3) default) ((W ((W (1 * 2 ^ (min (Int.toNat (IntKind.wrap .u64 a4)) 64))) * a1.1)), (W ((W (1 * 2 ^ (min (Int.toNat (IntKind.wrap .u64 a4)) 64))) * a1.2.1)), (W ((W (1 * 2 ^ (min (Int.toNat (IntKind.wrap .u64 a4)) 64))) * a1.2.2))) (W ((W ((W ((W (1 * 2 ^ (min (Int.toNat (IntKind.wrap .u64 a4)) 64))) * a2)) * (W ((W (a3 - a0.2.1)) - 1)))) * (W ((W ((W (1 * 2 ^ (min (Int.toNat (IntKind.wrap .u64 a4)) 64))) * a2)) * (W ((W (a3 - a0.2.1)) - 1)))))) (W ((W ((W ((W (1 * 2 ^ (min (Int.toNat (IntKind.wrap .u64 a4)) 64))) * a2)) * (W (a3 - a0.2.1)))) * (W ((W ((W (1 * 2 ^ (min (Int.toNat (IntKind.wrap .u64 a4)) 64))) * a2)) * (W (a3 - a0.2.1)))))) (W (1 * 2 ^ (min (Int.toNat (IntKind.wrap .u64 a4)) 64)))).1.1), (iv (F193 ((F192 a0.1 a4).getD (Int.toNat v3) default) ((W ((W (1 * 2 ^ (min (Int.toNat (IntKind.wrap .u64 a4)) 64))) * a1.1)), (W ((W (1 * 2 ^ (min (Int.toNat (IntKind.wrap .u64 a4)) 64))) * a1.2.1)), (W ((W (1 * 2 ^ (min (Int.toNat (IntKind.wrap .u64 a4)) 64))) * a1.2.2))) (W ((W ((W ((W (1 * 2 ^ (min (Int.toNat (IntKind.wrap .u64 a4)) 64))) * a2)) * (W ((W (a3 - a0.2.1)) - 1)))) * (W ((W ((W (1 * 2 ^ (min (Int.toNat (IntKind.wrap .u64 a4)) 64))) * a2)) * (W ((W (a3 - a0.2.1)) - 1)))))) (W ((W ((W ((W (1 * 2 ^ (min (Int.toNat (IntKind.wrap .u64 a4)) 64))) * a2)) * (W (a3 - a0.2.1)))) * (W ((W ((W (1 * 2 ^ (min (Int.toNat (IntKind.wrap .u64 a4)) 64))) * a2)) * (W (a3 - a0.2.1)))))) (W (1 * 2 ^ (min (Int.toNat (IntKind.wrap .u64 a4)) 64)))).1.2)]) = (flat c29 (v2 ++ [(F193 ((F192 a0.1 a4).getD (Int.toNat v3) default) ((W ((W (1 * 2 ^ (min (Int.toNat (IntKind.wrap .u64 a4)) 64))) * a1.1)), (W ((W (1 * 2 ^ (min (Int.toNat (IntKind.wrap .u64 a4)) 64))) * a1.2.1)), (W ((W (1 * 2 ^ (min (Int.toNat (IntKind.wrap .u64 a4)) 64))) * a1.2.2))) (W ((W ((W ((W (1 * 2 ^ (min (Int.toNat (IntKind.wrap .u64 a4)) 64))) * a2)) * (W ((W (a3 - a0.2.1)) - 1)))) * (W ((W ((W (1 * 2 ^ (min (Int.toNat (IntKind.wrap .u64 a4)) 64))) * a2)) * (W ((W (a3 - a0.2.1)) - 1)))))) (W ((W ((W ((W (1 * 2 ^ (min (Int.toNat (IntKind.wrap .u64 a4)) 64))) * a2)) * (W (a3 - a0.2.1)))) * (W ((W ((W (1 * 2 ^ (min (Int.toNat (IntKind.wrap .u64 a4)) 64))) * a2)) * (W (a3 - a0.2.1)))))) (W (1 * 2 ^ (min (Int.toNat (IntKind.wrap .u64 a4)) 64)))).1])) := (flat_append (c := c29) (l := v2) (m := [(F193 ((F192 a0.1 a4).getD (Int.toNat v3) default) ((W ((W (1 * 2 ^ (min (Int.toNat (IntKind.wrap .u64 a4)) 64))) * a1.1)), (W ((W (1 * 2 ^ (min (Int.toNat (IntKind.wrap .u64 a4)) 64))) * a1.2.1)), (W ((W (1 * 2 ^ (min (Int.toNat (IntKind.wrap .u64 a4)) 64))) * a1.2.2))) (W ((W ((W ((W (1 * 2 ^ (min (Int.toNat (IntKind.wrap .u64 a4)) 64))) * a2)) * (W ((W (a3 - a0.2.1)) - 1)))) * (W ((W ((W (1 * 2 ^ (min (Int.toNat (IntKind.wrap .u64 a4)) 64))) * a2)) * (W ((W (a3 - a0.2.1)) - 1)))))) (W ((W ((W ((W (1 * 2 ^ (min (Int.toNat (IntKind.wrap .u64 a4)) 64))) * a2)) * (W (a3 - a0.2.1)))) * (W ((W ((W (1 * 2 ^ (min (Int.toNat (IntKind.wrap .u64 a4)) 64))) * a2)) * (W (a3 - a0.2.1)))))) (W (1 * 2 ^ (min (Int.toNat (IntKind.wrap .u64 a4)) 64)))).1])).symm
        have z2 : (v2.length + 1) = (v2 ++ [(F193 ((F192 a0.1 a4).getD (Int.toNat v3) default) ((W ((W (1 * 2 ^ (min (Int.toNat (IntKind.wrap .u64 a4)) 64))) * a1.1)), (W ((W (1 * 2 ^ (min (Int.toNat (IntKind.wrap .u64 a4)) 64))) * a1.2.1)), (W ((W (1 * 2 ^ (min (Int.toNat (IntKind.wrap .u64 a4)) 64))) * a1.2.2))) (W ((W ((W ((W (1 * 2 ^ (min (Int.toNat (IntKind.wrap .u64 a4)) 64))) * a2)) * (W ((W (a3 - a0.2.1)) - 1)))) * (W ((W ((W (1 * 2 ^ (min (Int.toNat (IntKind.wrap .u64 a4)) 64))) * a2)) * (W ((W (a3 - a0.2.1)) - 1)))))) (W ((W ((W ((W (1 * 2 ^ (min (Int.toNat (IntKind.wrap .u64 a4)) 64))) * a2)) * (W (a3 - a0.2.1)))) * (W ((W ((W (1 * 2 ^ (min (Int.toNat (IntKind.wrap .u64 a4)) 64))) * a2)) * (W (a3 - a0.2.1)))))) (W (1 * 2 ^ (min (Int.toNat (IntKind.wrap .u64 a4)) 64)))).1]).length := len_app v2 [(F193 ((F192 a0.1 a4).getD (Int.toNat v3) default) ((W ((W (1 * 2 ^ (min (Int.toNat (IntKind.wrap .u64 a4)) 64))) * a1.1)), (W ((W (1 * 2 ^ (min (Int.toNat (IntKind.wrap .u64 a4)) 64))) * a1.2.1)), (W ((W (1 * 2 ^ (min (Int.toNat (IntKind.wrap .u64 a4)) 64))) * a1.2.2))) (W ((W ((W ((W (1 * 2 ^ (min (Int.toNat (IntKind.wrap .u64 a4)) 64))) * a2)) * (W ((W (a3 - a0.2.1)) - 1)))) * (W ((W ((W (1 * 2 ^ (min (Int.toNat (IntKind.wrap .u64 a4)) 64))) * a2)) * (W ((W (a3 - a0.2.1)) - 1)))))) (W ((W ((W ((W (1 * 2 ^ (min (Int.toNat (IntKind.wrap .u64 a4)) 64))) * a2)) * (W (a3 - a0.2.1)))) * (W ((W ((W (1 * 2 ^ (min (Int.toNat (IntKind.wrap .u64 a4)) 64))) * a2)) * (W (a3 - a0.2.1)))))) (W (1 * 2 ^ (min (Int.toNat (IntKind.wrap .u64 a4)) 64)))).1] rfl
        rw [z0, z1, z2]
        exact ih (v2 ++ [(F193 ((F192 a0.1 a4).getD (Int.toNat v3) default) ((W ((W (1 * 2 ^ (min (Int.toNat (IntKind.wrap .u64 a4)) 64))) * a1.1)), (W ((W (1 * 2 ^ (min (Int.toNat (IntKind.wrap .u64 a4)) 64))) * a1.2.1)), (W ((W (1 * 2 ^ (min (Int.toNat (IntKind.wrap .u64 a4)) 64))) * a1.2.2))) (W ((W ((W ((W (1 * 2 ^ (min (Int.toNat (IntKind.wrap .u64 a4)) 64))) * a2)) * (W ((W (a3 - a0.2.1)) - 1)))) * (W ((W ((W (1 * 2 ^ (min (Int.toNat (IntKind.wrap .u64 a4)) 64))) * a2)) * (W ((W (a3 - a0.2.1)) - 1)))))) (W ((W ((W ((W (1 * 2 ^ (min (Int.toNat (IntKind.wrap .u64 a4)) 64))) * a2)) * (W (a3 - a0.2.1)))) * (W ((W ((W (1 * 2 ^ (min (Int.toNat (IntKind.wrap .u64 a4)) 64))) * a2)) * (W (a3 - a0.2.1)))))) (W (1 * 2 ^ (min (Int.toNat (IntKind.wrap .u64 a4)) 64)))).1]) (v3 + 1) (by refine ⟨?_, ?_, ?_⟩ <;> (try simp only [List.length_append, List.length_cons, List.length_nil, Int.toNat_zero]) <;> first | omega | assumption | simp) (by (try simp only [List.length_append, List.length_cons, List.length_nil, Int.toNat_zero]); omega)
    | false =>
      cases h1 : (((F179_L v2).2 : Int) != 0) with
      | true =>
        have q0 := of_decide_eq_false h0
        have q1 := bne_iff_ne.1 h1
        have hpl := rp_len a0.1 hd
        have e : S125_0 a0 a1 a2 a3 a4 (v2, v3) = (.inr ((0, 0), (F179_L v2).2)) := by simp only [S125_0, h0, h1, cond_true, cond_false]
        rw [show loopF (S125_0 a0 a1 a2 a3 a4) (n + 1) (v2, v3) = thenF (S125_0 a0 a1 a2 a3 a4) n (S125_0 a0 a1 a2 a3 a4 (v2, v3)) from rfl, e]
        exact ret_of (T := T0) hT hm (f := 5000) (orc := [.d false, .call [4] (.t [(.a (k2 (F179_L v2).1)), (iv (F179_L v2).2)]) [], .d true]) [] [] [] hcx
          (obs := [.eq (decide ((v3 : Int) < (((F192 a0.1 a4).length : Nat) : Int))) false, .call 179 [(.s 0 0 v2.length 2)] [(.live false true (flat c29 v2))] (.t [(.a (k2 (F179_L v2).1)), (iv (F179_L v2).2)]) [], .eq (((F179_L v2).2 : Int) != 0) true]) (by kernel_rfl) ⟨h0, (C179_L v2 (by (try simp only [List.length_append, List.length_cons, List.length_nil, Int.toNat_zero]); omega)), h1, trivial⟩
      | false =>
        have q0 := of_decide_eq_false h0
        have q1 := bne_eq_false_iff_eq.1 h1
        have hpl := rp_len a0.1 hd
        have e : S125_0 a0 a1 a2 a3 a4 (v2, v3) = (.inr ((F67 (F179_L v2).1 a0.2.2).1, (F67 (F179_L v2).1 a0.2.2).2)) := by simp only [S125_0, h0, h1, cond_true, cond_false]
        rw [show loopF (S125_0 a0 a1 a2 a3 a4) (n + 1) (v2, v3) = thenF (S125_0 a0 a1 a2 a3 a4) n (S125_0 a0 a1 a2 a3 a4 (v2, v3)) from rfl, e]
        exact ret_of (T := T0) hT hm (f := 5000) (orc := [.d false, .call [4] (.t [(.a (k2 (F179_L v2).1)), (iv (F179_L v2).2)]) [], .d false, .call [] (.t [(.a (k2 (F67 (F179_L v2).1 a0.2.2).1)), (iv (F67 (F179_L v2).1 a0.2.2).2)]) []]) [] [] [] hcx
          (obs := [.eq (decide ((v3 : Int) < (((F192 a0.1 a4).length : Nat) : Int))) false, .call 179 [(.s 0 0 v2.length 2)] [(.live false true (flat c29 v2))] (.t [(.a (k2 (F179_L v2).1)), (iv (F179_L v2).2)]) [], .eq (((F179_L v2).2 : Int) != 0) false, .call 67 [(.a (k2 (F179_L v2).1)), (iv a0.2.2)] [] (.t [(.a (k2 (F67 (F179_L v2).1 a0.2.2).1)), (iv (F67 (F179_L v2).1 a0.2.2).2)]) []]) (by kernel_rfl) ⟨h0, (C179_L v2 (by (try simp only [List.length_append, List.length_cons, List.length_nil, Int.toNat_zero]); omega)), h1, (C67 (F179_L v2).1 a0.2.2), trivial⟩

/-- facet/facetref08.heard -/
def F125 (a0 : ((Int × Int × Int) × (Int × Int × Int) × Int × Int × Int) × Int × Int) (a1 : Int × Int × Int) (a2 : Int) (a3 : Int) (a4 : Int) : (Int × Int) × Int :=
  (bif (decide (((W (a3 - a0.2.1)) : Int) < 1)) then
   ((0, 0), 0)
  else
   (loopF (S125_0 a0 a1 a2 a3 a4) (Int.toNat ((((F192 a0.1 a4).length : Nat) : Int) - 0) + 1) (([] : List (Int × Int)), 0)))

theorem C125 (a0 : ((Int × Int × Int) × (Int × Int × Int) × Int × Int × Int) × Int × Int) (a1 : Int × Int × Int) (a2 : Int) (a3 : Int) (a4 : Int) (hp : POK a0) (hx : bd 256 a1) (hs : 1 ≤ a2 ∧ a2 ≤ 16) (ht : 0 ≤ a3 ∧ a3 ≤ 2000) (hd : 0 ≤ a4 ∧ a4 ≤ 3) : Con Tryz.prog 125 [(.a [(iv a0.1.1.1), (iv a0.1.1.2.1), (iv a0.1.1.2.2), (iv a0.1.2.1.1), (iv a0.1.2.1.2.1), (iv a0.1.2.1.2.2), (iv a0.1.2.2.1), (iv a0.1.2.2.2.1), (iv a0.1.2.2.2.2), (iv a0.2.1), (iv a0.2.2)]), (.a (k3 a1)), (iv a2), (iv a3), (iv a4)] [] (.t [(.a (k2 (F125 a0 a1 a2 a3 a4).1)), (iv (F125 a0 a1 a2 a3 a4).2)]) [] := by
  cases h0 : (decide (((W (a3 - a0.2.1)) : Int) < 1)) with
  | true =>
    have q0 := of_decide_eq_true h0
    have e : (F125 a0 a1 a2 a3 a4) = ((0, 0), 0) := by simp only [F125, h0, cond_true, cond_false]
    rw [e]
    refine con_of (n := 9) Tryz.func125 rfl (ent Tryz.func125 (by kernel_rfl) rfl) (by show 5 ≤ Tryz.f125.ntmps; decide) (by kernel_rfl) trivial (fun cx hcx => ?_)
    exact ret_of (T := T0) hT hm (f := 5000) (orc := [.d true]) [] [] [] hcx
      (obs := [.eq (decide (((W (a3 - a0.2.1)) : Int) < 1)) true]) (by kernel_rfl) ⟨h0, trivial⟩
  | false =>
    have q0 := of_decide_eq_false h0
    have e : (F125 a0 a1 a2 a3 a4) = (loopF (S125_0 a0 a1 a2 a3 a4) (Int.toNat ((((F192 a0.1 a4).length : Nat) : Int) - 0) + 1) (([] : List (Int × Int)), 0)) := by simp only [F125, h0, cond_true, cond_false]
    rw [e]
    refine con_of (n := 9) Tryz.func125 rfl (ent Tryz.func125 (by kernel_rfl) rfl) (by show 5 ≤ Tryz.f125.ntmps; decide) (by kernel_rfl) trivial (fun cx hcx => ?_)
    refine enter_of (T := T0) hT hm (f := 5000) (orc := [.d false, .call [] (.s 0 0 (F192 a0.1 a4).length 9) [(.live true true (flat c65 (F192 a0.1 a4)))]]) [.slot 18 2] [5, 10, 13, 14, 15, 16, 17, 18, 19] [0, 2, 3, 4, 5] hcx (body := B125_0) (k' := K125_0) (s' := ⟨[.u, .u, .u, .u, .u, (.p 0 0), .u, .u, .u, .u, (.p 1 0), .u, .u, (iv (W (1 * 2 ^ (min (Int.toNat (IntKind.wrap .u64 a4)) 64)))), (iv (W ((W ((W (1 * 2 ^ (min (Int.toNat (IntKind.wrap .u64 a4)) 64))) * a2)) * (W ((W (a3 - a0.2.1)) - 1))))), (iv (W ((W ((W (1 * 2 ^ (min (Int.toNat (IntKind.wrap .u64 a4)) 64))) * a2)) * (W (a3 - a0.2.1))))), (.p 2 0), (.s 3 0 (F192 a0.1 a4).length 9), (.s 4 0 0 2), (iv 0), .u, .u, .u, .u, .u, .u, .u, .u, .u, .u, .u, .u, .u, .u, .u, .u, .u, .u, .u, .u, .u, .u, .u, .u, .u, .u, .u, .u, .u, .u, .u, .u, .u, .u, .u, .u, .u, .u, .u, .u, .u, .u, .u, .u, .u, .u, .u, .u, .u, .u, .u, .u, .u, .u, .u, .u, .u, .u, .u, .u, .u, .u, .u, .u, .u, .u, .u, .u, .u, .u, .u, .u, .u, .u, .u, .u, .u, .u, .u, .u, .u, .u, .u, .u, .u, .u, .u], [(.live true false [(iv a0.1.1.1), (iv a0.1.1.2.1), (iv a0.1.1.2.2), (iv a0.1.2.1.1), (iv a0.1.2.1.2.1), (iv a0.1.2.1.2.2), (iv a0.1.2.2.1), (iv a0.1.2.2.2.1), (iv a0.1.2.2.2.2), (iv a0.2.1), (iv a0.2.2)]), (.live true false [(iv 0), (iv 0)]), (.live true false [(iv (W ((W (1 * 2 ^ (min (Int.toNat (IntKind.wrap .u64 a4)) 64))) * a1.1))), (iv (W ((W (1 * 2 ^ (min (Int.toNat (IntKind.wrap .u64 a4)) 64))) * a1.2.1))), (iv (W ((W (1 * 2 ^ (min (Int.toNat (IntKind.wrap .u64 a4)) 64))) * a1.2.2)))]), (.live true true (flat c65 (F192 a0.1 a4))), (.live true true (flat c29 ([] : List (Int × Int))))]⟩)
      (obs := [.eq (decide (((W (a3 - a0.2.1)) : Int) < 1)) false, .pr (0 ≤ ((IntKind.wrap .u64 a4) : Int)), .call 192 [(.a (k9 a0.1)), (iv a4)] [] (.s 0 0 (F192 a0.1 a4).length 9) [(.live true true (flat c65 (F192 a0.1 a4)))]]) (by kernel_rfl) ⟨h0, (show 0 ≤ ((IntKind.wrap .u64 a4) : Int) from by first | omega | (rw [W_eq] <;> omega) | exact u64_nn _), (C192 a0.1 a4  hd), trivial⟩ ⟨Int.toNat ((((F192 a0.1 a4).length : Nat) : Int) - 0) + 1, ?_⟩
    exact L125_0 a0 a1 a2 a3 a4 hp hx hs ht hd hcx (Int.toNat ((((F192 a0.1 a4).length : Nat) : Int) - 0) + 1) ([] : List (Int × Int)) 0 (by refine ⟨?_, ?_, ?_⟩ <;> (try simp only [List.length_append, List.length_cons, List.length_nil, Int.toNat_zero]) <;> first | omega | assumption | simp) (by (try simp only [List.length_append, List.length_cons, List.length_nil, Int.toNat_zero]); omega)

/-- facet/sound.Heard -/
def F50 (a0 : ((Int × Int × Int) × (Int × Int × Int) × Int × Int × Int) × Int × Int) (a1 : Int × Int × Int) (a2 : Int) (a3 : Int) (a4 : Int) : (Int × Int) × Int :=
  (bif (F52 a1) then
   (bif (F53 a2) then
    (bif (F54 a3) then
     (bif (((F60_1 a0 (F55 a4)) : Int) != 0) then
      ((0, 0), (F60_1 a0 (F55 a4)))
     else
      ((F116 a0 a1 a2 a3 a4).1, (F116 a0 a1 a2 a3 a4).2))
    else
     (bif (((F60_1 a0 false) : Int) != 0) then
      ((0, 0), (F60_1 a0 false))
     else
      ((F116 a0 a1 a2 a3 a4).1, (F116 a0 a1 a2 a3 a4).2)))
   else
    (bif (((F60_1 a0 false) : Int) != 0) then
     ((0, 0), (F60_1 a0 false))
    else
     ((F116 a0 a1 a2 a3 a4).1, (F116 a0 a1 a2 a3 a4).2)))
  else
   (bif (((F60_1 a0 false) : Int) != 0) then
    ((0, 0), (F60_1 a0 false))
   else
    ((F116 a0 a1 a2 a3 a4).1, (F116 a0 a1 a2 a3 a4).2)))

noncomputable def oC50_0 (a0 : ((Int × Int × Int) × (Int × Int × Int) × Int × Int × Int) × Int × Int) (a4 : Int) : Ob := .call 60 [(.s 0 0 1 11), (.v (.bool (F55 a4)))] [(.live false false [(iv a0.1.1.1), (iv a0.1.1.2.1), (iv a0.1.1.2.2), (iv a0.1.2.1.1), (iv a0.1.2.1.2.1), (iv a0.1.2.1.2.2), (iv a0.1.2.2.1), (iv a0.1.2.2.2.1), (iv a0.1.2.2.2.2), (iv a0.2.1), (iv a0.2.2)])] (iv (F60_1 a0 (F55 a4))) []
noncomputable def oC50_1 (a0 : ((Int × Int × Int) × (Int × Int × Int) × Int × Int × Int) × Int × Int) (a1 : Int × Int × Int) (a2 : Int) (a3 : Int) (a4 : Int) : Or := .call [] (.t [(.a (k2 (F116 a0 a1 a2 a3 a4).1)), (iv (F116 a0 a1 a2 a3 a4).2)]) []
noncomputable def oC50_2 (a0 : ((Int × Int × Int) × (Int × Int × Int) × Int × Int × Int) × Int × Int) (a1 : Int × Int × Int) (a2 : Int) (a3 : Int) (a4 : Int) : Ob := .call 116 [(.a [(iv a0.1.1.1), (iv a0.1.1.2.1), (iv a0.1.1.2.2), (iv a0.1.2.1.1), (iv a0.1.2.1.2.1), (iv a0.1.2.1.2.2), (iv a0.1.2.2.1), (iv a0.1.2.2.2.1), (iv a0.1.2.2.2.2), (iv a0.2.1), (iv a0.2.2)]), (.a (k3 a1)), (iv a2), (iv a3), (iv a4)] [] (.t [(.a (k2 (F116 a0 a1 a2 a3 a4).1)), (iv (F116 a0 a1 a2 a3 a4).2)]) []
noncomputable def oC50_3 (a0 : ((Int × Int × Int) × (Int × Int × Int) × Int × Int × Int) × Int × Int) : Ob := .call 60 [(.s 0 0 1 11), (.v (.bool false))] [(.live false false [(iv a0.1.1.1), (iv a0.1.1.2.1), (iv a0.1.1.2.2), (iv a0.1.2.1.1), (iv a0.1.2.1.2.1), (iv a0.1.2.1.2.2), (iv a0.1.2.2.1), (iv a0.1.2.2.2.1), (iv a0.1.2.2.2.2), (iv a0.2.1), (iv a0.2.2)])] (iv (F60_1 a0 false)) []
theorem C50 (a0 : ((Int × Int × Int) × (Int × Int × Int) × Int × Int × Int) × Int × Int) (a1 : Int × Int × Int) (a2 : Int) (a3 : Int) (a4 : Int) : Con Tryz.prog 50 [(.a [(iv a0.1.1.1), (iv a0.1.1.2.1), (iv a0.1.1.2.2), (iv a0.1.2.1.1), (iv a0.1.2.1.2.1), (iv a0.1.2.1.2.2), (iv a0.1.2.2.1), (iv a0.1.2.2.2.1), (iv a0.1.2.2.2.2), (iv a0.2.1), (iv a0.2.2)]), (.a (k3 a1)), (iv a2), (iv a3), (iv a4)] [] (.t [(.a (k2 (F50 a0 a1 a2 a3 a4).1)), (iv (F50 a0 a1 a2 a3 a4).2)]) [] := by
  cases h0 : (F52 a1) with
  | true =>
    cases h1 : (F53 a2) with
    | true =>
      cases h2 : (F54 a3) with
      | true =>
        cases h3 : (((F60_1 a0 (F55 a4)) : Int) != 0) with
        | true =>
          have q3 := bne_iff_ne.1 h3
          have e : (F50 a0 a1 a2 a3 a4) = ((0, 0), (F60_1 a0 (F55 a4))) := by simp only [F50, h0, h1, h2, h3, cond_true, cond_false]
          rw [e]
          refine con_of (n := 9) Tryz.func50 rfl (ent Tryz.func50 (by kernel_rfl) rfl) (by show 5 ≤ Tryz.f50.ntmps; decide) (by kernel_rfl) trivial (fun cx hcx => ?_)
          exact ret_of (T := T0) hT hm (f := 5000) (orc := [.call [] (.v (.bool (F52 a1))) [], .d true, .call [] (.v (.bool (F53 a2))) [], .d true, .call [] (.v (.bool (F54 a3))) [], .d true, .call [] (.v (.bool (F55 a4))) [], .call [3] (iv (F60_1 a0 (F55 a4))) [], .d true]) [] [] [] hcx
            (obs := [.call 52 [(.a (k3 a1))] [] (.v (.bool (F52 a1))) [], .eq (F52 a1) true, .call 53 [(iv a2)] [] (.v (.bool (F53 a2))) [], .eq (F53 a2) true, .call 54 [(iv a3)] [] (.v (.bool (F54 a3))) [], .eq (F54 a3) true, .call 55 [(iv a4)] [] (.v (.bool (F55 a4))) [], (oC50_0 a0 a4), .eq (((F60_1 a0 (F55 a4)) : Int) != 0) true]) (by kernel_rfl) ⟨(C52 a1), h0, (C53 a2), h1, (C54 a3), h2, (C55 a4), (C60_1 a0 (F55 a4)), h3, trivial⟩
        | false =>
          have q3 := bne_eq_false_iff_eq.1 h3
          have e : (F50 a0 a1 a2 a3 a4) = ((F116 a0 a1 a2 a3 a4).1, (F116 a0 a1 a2 a3 a4).2) := by simp only [F50, h0, h1, h2, h3, cond_true, cond_false]
          rw [e]
          refine con_of (n := 9) Tryz.func50 rfl (ent Tryz.func50 (by kernel_rfl) rfl) (by show 5 ≤ Tryz.f50.ntmps; decide) (by kernel_rfl) trivial (fun cx hcx => ?_)
          exact ret_of (T := T0) hT hm (f := 5000) (orc := [.call [] (.v (.bool (F52 a1))) [], .d true, .call [] (.v (.bool (F53 a2))) [], .d true, .call [] (.v (.bool (F54 a3))) [], .d true, .call [] (.v (.bool (F55 a4))) [], .call [3] (iv (F60_1 a0 (F55 a4))) [], .d false, (oC50_1 a0 a1 a2 a3 a4)]) [] [] [] hcx
            (obs := [.call 52 [(.a (k3 a1))] [] (.v (.bool (F52 a1))) [], .eq (F52 a1) true, .call 53 [(iv a2)] [] (.v (.bool (F53 a2))) [], .eq (F53 a2) true, .call 54 [(iv a3)] [] (.v (.bool (F54 a3))) [], .eq (F54 a3) true, .call 55 [(iv a4)] [] (.v (.bool (F55 a4))) [], (oC50_0 a0 a4), .eq (((F60_1 a0 (F55 a4)) : Int) != 0) false, (oC50_2 a0 a1 a2 a3 a4)]) (by kernel_rfl) ⟨(C52 a1), h0, (C53 a2), h1, (C54 a3), h2, (C55 a4), (C60_1 a0 (F55 a4)), h3, (C116 a0 a1 a2 a3 a4  (by first | exact ckb_p h1 | exact ckb_p h2 | exact ckb_p h3) (by first | exact isp_p h0 | exact absurd (ckb_b h1) (by decide) | exact absurd (ckb_b h2) (by decide) | exact absurd (ckb_b h3) (by decide)) (by first | exact iss_p h1 | exact absurd (ckb_b h1) (by decide) | exact absurd (ckb_b h2) (by decide) | exact absurd (ckb_b h3) (by decide)) (by first | exact ist_p h2 | exact absurd (ckb_b h1) (by decide) | exact absurd (ckb_b h2) (by decide) | exact absurd (ckb_b h3) (by decide)) (by first | exact isd_p (ckb_b h3) | exact absurd (ckb_b h1) (by decide) | exact absurd (ckb_b h2) (by decide) | exact absurd (ckb_b h3) (by decide))), trivial⟩
      | false =>
        cases h3 : (((F60_1 a0 false) : Int) != 0) with
        | true =>
          have q3 := bne_iff_ne.1 h3
          have e : (F50 a0 a1 a2 a3 a4) = ((0, 0), (F60_1 a0 false)) := by simp only [F50, h0, h1, h2, h3, cond_true, cond_false]
          rw [e]
          refine con_of (n := 9) Tryz.func50 rfl (ent Tryz.func50 (by kernel_rfl) rfl) (by show 5 ≤ Tryz.f50.ntmps; decide) (by kernel_rfl) trivial (fun cx hcx => ?_)
          exact ret_of (T := T0) hT hm (f := 5000) (orc := [.call [] (.v (.bool (F52 a1))) [], .d true, .call [] (.v (.bool (F53 a2))) [], .d true, .call [] (.v (.bool (F54 a3))) [], .d false, .call [3] (iv (F60_1 a0 false)) [], .d true]) [] [] [] hcx
            (obs := [.call 52 [(.a (k3 a1))] [] (.v (.bool (F52 a1))) [], .eq (F52 a1) true, .call 53 [(iv a2)] [] (.v (.bool (F53 a2))) [], .eq (F53 a2) true, .call 54 [(iv a3)] [] (.v (.bool (F54 a3))) [], .eq (F54 a3) false, (oC50_3 a0), .eq (((F60_1 a0 false) : Int) != 0) true]) (by kernel_rfl) ⟨(C52 a1), h0, (C53 a2), h1, (C54 a3), h2, (C60_1 a0 false), h3, trivial⟩
        | false =>
          have q3 := bne_eq_false_iff_eq.1 h3
          have e : (F50 a0 a1 a2 a3 a4) = ((F116 a0 a1 a2 a3 a4).1, (F116 a0 a1 a2 a3 a4).2) := by simp only [F50, h0, h1, h2, h3, cond_true, cond_false]
          rw [e]
          refine con_of (n := 9) Tryz.func50 rfl (ent Tryz.func50 (by kernel_rfl) rfl) (by show 5 ≤ Tryz.f50.ntmps; decide) (by kernel_rfl) trivial (fun cx hcx => ?_)
          exact ret_of (T := T0) hT hm (f := 5000) (orc := [.call [] (.v (.bool (F52 a1))) [], .d true, .call [] (.v (.bool (F53 a2))) [], .d true, .call [] (.v (.bool (F54 a3))) [], .d false, .call [3] (iv (F60_1 a0 false)) [], .d false, (oC50_1 a0 a1 a2 a3 a4)]) [] [] [] hcx
            (obs := [.call 52 [(.a (k3 a1))] [] (.v (.bool (F52 a1))) [], .eq (F52 a1) true, .call 53 [(iv a2)] [] (.v (.bool (F53 a2))) [], .eq (F53 a2) true, .call 54 [(iv a3)] [] (.v (.bool (F54 a3))) [], .eq (F54 a3) false, (oC50_3 a0), .eq (((F60_1 a0 false) : Int) != 0) false, (oC50_2 a0 a1 a2 a3 a4)]) (by kernel_rfl) ⟨(C52 a1), h0, (C53 a2), h1, (C54 a3), h2, (C60_1 a0 false), h3, (C116 a0 a1 a2 a3 a4  (by first | exact ckb_p h1 | exact ckb_p h2 | exact ckb_p h3) (by first | exact isp_p h0 | exact absurd (ckb_b h1) (by decide) | exact absurd (ckb_b h2) (by decide) | exact absurd (ckb_b h3) (by decide)) (by first | exact iss_p h1 | exact absurd (ckb_b h1) (by decide) | exact absurd (ckb_b h2) (by decide) | exact absurd (ckb_b h3) (by decide)) (by first | exact ist_p h2 | exact absurd (ckb_b h1) (by decide) | exact absurd (ckb_b h2) (by decide) | exact absurd (ckb_b h3) (by decide)) (by first | exact isd_p (ckb_b h3) | exact absurd (ckb_b h1) (by decide) | exact absurd (ckb_b h2) (by decide) | exact absurd (ckb_b h3) (by decide))), trivial⟩
    | false =>
      cases h2 : (((F60_1 a0 false) : Int) != 0) with
      | true =>
        have q2 := bne_iff_ne.1 h2
        have e : (F50 a0 a1 a2 a3 a4) = ((0, 0), (F60_1 a0 false)) := by simp only [F50, h0, h1, h2, cond_true, cond_false]
        rw [e]
        refine con_of (n := 9) Tryz.func50 rfl (ent Tryz.func50 (by kernel_rfl) rfl) (by show 5 ≤ Tryz.f50.ntmps; decide) (by kernel_rfl) trivial (fun cx hcx => ?_)
        exact ret_of (T := T0) hT hm (f := 5000) (orc := [.call [] (.v (.bool (F52 a1))) [], .d true, .call [] (.v (.bool (F53 a2))) [], .d false, .call [3] (iv (F60_1 a0 false)) [], .d true]) [] [] [] hcx
          (obs := [.call 52 [(.a (k3 a1))] [] (.v (.bool (F52 a1))) [], .eq (F52 a1) true, .call 53 [(iv a2)] [] (.v (.bool (F53 a2))) [], .eq (F53 a2) false, (oC50_3 a0), .eq (((F60_1 a0 false) : Int) != 0) true]) (by kernel_rfl) ⟨(C52 a1), h0, (C53 a2), h1, (C60_1 a0 false), h2, trivial⟩
      | false =>
        have q2 := bne_eq_false_iff_eq.1 h2
        have e : (F50 a0 a1 a2 a3 a4) = ((F116 a0 a1 a2 a3 a4).1, (F116 a0 a1 a2 a3 a4).2) := by simp only [F50, h0, h1, h2, cond_true, cond_false]
        rw [e]
        refine con_of (n := 9) Tryz.func50 rfl (ent Tryz.func50 (by kernel_rfl) rfl) (by show 5 ≤ Tryz.f50.ntmps; decide) (by kernel_rfl) trivial (fun cx hcx => ?_)
        exact ret_of (T := T0) hT hm (f := 5000) (orc := [.call [] (.v (.bool (F52 a1))) [], .d true, .call [] (.v (.bool (F53 a2))) [], .d false, .call [3] (iv (F60_1 a0 false)) [], .d false, (oC50_1 a0 a1 a2 a3 a4)]) [] [] [] hcx
          (obs := [.call 52 [(.a (k3 a1))] [] (.v (.bool (F52 a1))) [], .eq (F52 a1) true, .call 53 [(iv a2)] [] (.v (.bool (F53 a2))) [], .eq (F53 a2) false, (oC50_3 a0), .eq (((F60_1 a0 false) : Int) != 0) false, (oC50_2 a0 a1 a2 a3 a4)]) (by kernel_rfl) ⟨(C52 a1), h0, (C53 a2), h1, (C60_1 a0 false), h2, (C116 a0 a1 a2 a3 a4  (by first | exact ckb_p h1 | exact ckb_p h2 | exact ckb_p h3) (by first | exact isp_p h0 | exact absurd (ckb_b h1) (by decide) | exact absurd (ckb_b h2) (by decide) | exact absurd (ckb_b h3) (by decide)) (by first | exact iss_p h1 | exact absurd (ckb_b h1) (by decide) | exact absurd (ckb_b h2) (by decide) | exact absurd (ckb_b h3) (by decide)) (by first | exact ist_p h2 | exact absurd (ckb_b h1) (by decide) | exact absurd (ckb_b h2) (by decide) | exact absurd (ckb_b h3) (by decide)) (by first | exact isd_p (ckb_b h3) | exact absurd (ckb_b h1) (by decide) | exact absurd (ckb_b h2) (by decide) | exact absurd (ckb_b h3) (by decide))), trivial⟩
  | false =>
    cases h1 : (((F60_1 a0 false) : Int) != 0) with
    | true =>
      have q1 := bne_iff_ne.1 h1
      have e : (F50 a0 a1 a2 a3 a4) = ((0, 0), (F60_1 a0 false)) := by simp only [F50, h0, h1, cond_true, cond_false]
      rw [e]
      refine con_of (n := 9) Tryz.func50 rfl (ent Tryz.func50 (by kernel_rfl) rfl) (by show 5 ≤ Tryz.f50.ntmps; decide) (by kernel_rfl) trivial (fun cx hcx => ?_)
      exact ret_of (T := T0) hT hm (f := 5000) (orc := [.call [] (.v (.bool (F52 a1))) [], .d false, .call [3] (iv (F60_1 a0 false)) [], .d true]) [] [] [] hcx
        (obs := [.call 52 [(.a (k3 a1))] [] (.v (.bool (F52 a1))) [], .eq (F52 a1) false, (oC50_3 a0), .eq (((F60_1 a0 false) : Int) != 0) true]) (by kernel_rfl) ⟨(C52 a1), h0, (C60_1 a0 false), h1, trivial⟩
    | false =>
      have q1 := bne_eq_false_iff_eq.1 h1
      have e : (F50 a0 a1 a2 a3 a4) = ((F116 a0 a1 a2 a3 a4).1, (F116 a0 a1 a2 a3 a4).2) := by simp only [F50, h0, h1, cond_true, cond_false]
      rw [e]
      refine con_of (n := 9) Tryz.func50 rfl (ent Tryz.func50 (by kernel_rfl) rfl) (by show 5 ≤ Tryz.f50.ntmps; decide) (by kernel_rfl) trivial (fun cx hcx => ?_)
      exact ret_of (T := T0) hT hm (f := 5000) (orc := [.call [] (.v (.bool (F52 a1))) [], .d false, .call [3] (iv (F60_1 a0 false)) [], .d false, (oC50_1 a0 a1 a2 a3 a4)]) [] [] [] hcx
        (obs := [.call 52 [(.a (k3 a1))] [] (.v (.bool (F52 a1))) [], .eq (F52 a1) false, (oC50_3 a0), .eq (((F60_1 a0 false) : Int) != 0) false, (oC50_2 a0 a1 a2 a3 a4)]) (by kernel_rfl) ⟨(C52 a1), h0, (C60_1 a0 false), h1, (C116 a0 a1 a2 a3 a4  (by first | exact ckb_p h1 | exact ckb_p h2 | exact ckb_p h3) (by first | exact isp_p h0 | exact absurd (ckb_b h1) (by decide) | exact absurd (ckb_b h2) (by decide) | exact absurd (ckb_b h3) (by decide)) (by first | exact iss_p h1 | exact absurd (ckb_b h1) (by decide) | exact absurd (ckb_b h2) (by decide) | exact absurd (ckb_b h3) (by decide)) (by first | exact ist_p h2 | exact absurd (ckb_b h1) (by decide) | exact absurd (ckb_b h2) (by decide) | exact absurd (ckb_b h3) (by decide)) (by first | exact isd_p (ckb_b h3) | exact absurd (ckb_b h1) (by decide) | exact absurd (ckb_b h2) (by decide) | exact absurd (ckb_b h3) (by decide))), trivial⟩

/-- facet/facetlaw08.sane -/
def F13 : Bool :=
  (bif (((F48 (0, 0, 0) (3, 4, 0) 2).2 : Int) == 0) then
   (bif (((F48 (0, 0, 0) (3, 4, 0) 2).1 : Int) == 3) then
    (bif (((F49 (((10, 0, 0), (12, 0, 0), (10, 2, 0)), 7, 3) (0, 0, 0) 2).2 : Int) == 0) then
     (bif (((F49 (((10, 0, 0), (12, 0, 0), (10, 2, 0)), 7, 3) (0, 0, 0) 2).1 : Int) == 12) then
      (bif (((F50 (((10, 0, 0), (12, 0, 0), (10, 2, 0)), 7, 3) (0, 0, 0) 2 7 1).2 : Int) == 0) then
       (bif ((((F50 (((10, 0, 0), (12, 0, 0), (10, 2, 0)), 7, 3) (0, 0, 0) 2 7 1).1.1 : Int) == 0) && ((((F50 (((10, 0, 0), (12, 0, 0), (10, 2, 0)), 7, 3) (0, 0, 0) 2 7 1).1.2 : Int) == 0) && true)) then
        (bif (((F50 (((10, 0, 0), (12, 0, 0), (10, 2, 0)), 7, 3) (0, 0, 0) 2 13 1).2 : Int) == 0) then
         (decide (((F50 (((10, 0, 0), (12, 0, 0), (10, 2, 0)), 7, 3) (0, 0, 0) 2 13 1).1.2 : Int) > 0))
        else
         false)
       else
        false)
      else
       false)
     else
      false)
    else
     false)
   else
    false)
  else
   false)

noncomputable def oC13_0 : Or := .call [] (.t (k2 (F49 (((10, 0, 0), (12, 0, 0), (10, 2, 0)), 7, 3) (0, 0, 0) 2))) []
noncomputable def oC13_1 : Or := .call [] (.t [(.a (k2 (F50 (((10, 0, 0), (12, 0, 0), (10, 2, 0)), 7, 3) (0, 0, 0) 2 7 1).1)), (iv (F50 (((10, 0, 0), (12, 0, 0), (10, 2, 0)), 7, 3) (0, 0, 0) 2 7 1).2)]) []
noncomputable def oC13_2 : Or := .call [] (.t [(.a (k2 (F50 (((10, 0, 0), (12, 0, 0), (10, 2, 0)), 7, 3) (0, 0, 0) 2 13 1).1)), (iv (F50 (((10, 0, 0), (12, 0, 0), (10, 2, 0)), 7, 3) (0, 0, 0) 2 13 1).2)]) []
noncomputable def oC13_3 : Ob := .call 48 [(.a [(iv 0), (iv 0), (iv 0)]), (.a [(iv 3), (iv 4), (iv 0)]), (iv 2)] [] (.t (k2 (F48 (0, 0, 0) (3, 4, 0) 2))) []
noncomputable def oC13_4 : Ob := .call 49 [(.a [(iv 10), (iv 0), (iv 0), (iv 12), (iv 0), (iv 0), (iv 10), (iv 2), (iv 0), (iv 7), (iv 3)]), (.a [(iv 0), (iv 0), (iv 0)]), (iv 2)] [] (.t (k2 (F49 (((10, 0, 0), (12, 0, 0), (10, 2, 0)), 7, 3) (0, 0, 0) 2))) []
noncomputable def oC13_5 : Ob := .call 50 [(.a [(iv 10), (iv 0), (iv 0), (iv 12), (iv 0), (iv 0), (iv 10), (iv 2), (iv 0), (iv 7), (iv 3)]), (.a [(iv 0), (iv 0), (iv 0)]), (iv 2), (iv 7), (iv 1)] [] (.t [(.a (k2 (F50 (((10, 0, 0), (12, 0, 0), (10, 2, 0)), 7, 3) (0, 0, 0) 2 7 1).1)), (iv (F50 (((10, 0, 0), (12, 0, 0), (10, 2, 0)), 7, 3) (0, 0, 0) 2 7 1).2)]) []
noncomputable def oC13_6 : Ob := .call 50 [(.a [(iv 10), (iv 0), (iv 0), (iv 12), (iv 0), (iv 0), (iv 10), (iv 2), (iv 0), (iv 7), (iv 3)]), (.a [(iv 0), (iv 0), (iv 0)]), (iv 2), (iv 13), (iv 1)] [] (.t [(.a (k2 (F50 (((10, 0, 0), (12, 0, 0), (10, 2, 0)), 7, 3) (0, 0, 0) 2 13 1).1)), (iv (F50 (((10, 0, 0), (12, 0, 0), (10, 2, 0)), 7, 3) (0, 0, 0) 2 13 1).2)]) []
noncomputable def oC13_7 : Ob := .eq (((F49 (((10, 0, 0), (12, 0, 0), (10, 2, 0)), 7, 3) (0, 0, 0) 2).2 : Int) == 0) true
noncomputable def oC13_8 : Ob := .eq (((F49 (((10, 0, 0), (12, 0, 0), (10, 2, 0)), 7, 3) (0, 0, 0) 2).1 : Int) == 12) true
noncomputable def oC13_9 : Ob := .eq (((F50 (((10, 0, 0), (12, 0, 0), (10, 2, 0)), 7, 3) (0, 0, 0) 2 7 1).2 : Int) == 0) true
noncomputable def oC13_10 : Ob := .eq ((((F50 (((10, 0, 0), (12, 0, 0), (10, 2, 0)), 7, 3) (0, 0, 0) 2 7 1).1.1 : Int) == 0) && ((((F50 (((10, 0, 0), (12, 0, 0), (10, 2, 0)), 7, 3) (0, 0, 0) 2 7 1).1.2 : Int) == 0) && true)) true
theorem C13 : Con Tryz.prog 13 [] [] (.v (.bool F13)) [] := by
  cases h0 : (((F48 (0, 0, 0) (3, 4, 0) 2).2 : Int) == 0) with
  | true =>
    cases h1 : (((F48 (0, 0, 0) (3, 4, 0) 2).1 : Int) == 3) with
    | true =>
      cases h2 : (((F49 (((10, 0, 0), (12, 0, 0), (10, 2, 0)), 7, 3) (0, 0, 0) 2).2 : Int) == 0) with
      | true =>
        cases h3 : (((F49 (((10, 0, 0), (12, 0, 0), (10, 2, 0)), 7, 3) (0, 0, 0) 2).1 : Int) == 12) with
        | true =>
          cases h4 : (((F50 (((10, 0, 0), (12, 0, 0), (10, 2, 0)), 7, 3) (0, 0, 0) 2 7 1).2 : Int) == 0) with
          | true =>
            cases h5 : ((((F50 (((10, 0, 0), (12, 0, 0), (10, 2, 0)), 7, 3) (0, 0, 0) 2 7 1).1.1 : Int) == 0) && ((((F50 (((10, 0, 0), (12, 0, 0), (10, 2, 0)), 7, 3) (0, 0, 0) 2 7 1).1.2 : Int) == 0) && true)) with
            | true =>
              cases h6 : (((F50 (((10, 0, 0), (12, 0, 0), (10, 2, 0)), 7, 3) (0, 0, 0) 2 13 1).2 : Int) == 0) with
              | true =>
                have q0 := eq_of_beq h0
                have q1 := eq_of_beq h1
                have q2 := eq_of_beq h2
                have q3 := eq_of_beq h3
                have q4 := eq_of_beq h4
                have q6 := eq_of_beq h6
                have e : F13 = (decide (((F50 (((10, 0, 0), (12, 0, 0), (10, 2, 0)), 7, 3) (0, 0, 0) 2 13 1).1.2 : Int) > 0)) := by simp only [F13, h0, h1, h2, h3, h4, h5, h6, cond_true, cond_false]
                rw [e]
                refine con_of (n := 9) Tryz.func13 rfl (ent Tryz.func13 (by kernel_rfl) rfl) (by show 0 ≤ Tryz.f13.ntmps; decide) (by kernel_rfl) trivial (fun cx hcx => ?_)
                exact ret_of (T := T0) hT hm (f := 5000) (orc := [.call [] (.t (k2 (F48 (0, 0, 0) (3, 4, 0) 2))) [], oC13_0, oC13_1, oC13_2, .d true, .d true, .d true, .d true, .d true, .d true, .d true]) [] [] [] hcx
                  (obs := [oC13_3, oC13_4, oC13_5, oC13_6, .eq (((F48 (0, 0, 0) (3, 4, 0) 2).2 : Int) == 0) true, .eq (((F48 (0, 0, 0) (3, 4, 0) 2).1 : Int) == 3) true, oC13_7, oC13_8, oC13_9, oC13_10, .eq (((F50 (((10, 0, 0), (12, 0, 0), (10, 2, 0)), 7, 3) (0, 0, 0) 2 13 1).2 : Int) == 0) true]) (by kernel_rfl) ⟨(C48 (0, 0, 0) (3, 4, 0) 2), (C49 (((10, 0, 0), (12, 0, 0), (10, 2, 0)), 7, 3) (0, 0, 0) 2), (C50 (((10, 0, 0), (12, 0, 0), (10, 2, 0)), 7, 3) (0, 0, 0) 2 7 1), (C50 (((10, 0, 0), (12, 0, 0), (10, 2, 0)), 7, 3) (0, 0, 0) 2 13 1), h0, h1, h2, h3, h4, h5, h6, trivial⟩
              | false =>
                have q0 := eq_of_beq h0
                have q1 := eq_of_beq h1
                have q2 := eq_of_beq h2
                have q3 := eq_of_beq h3
                have q4 := eq_of_beq h4
                have q6 := ne_of_beq_false h6
                have e : F13 = false := by simp only [F13, h0, h1, h2, h3, h4, h5, h6, cond_true, cond_false]
                rw [e]
                refine con_of (n := 9) Tryz.func13 rfl (ent Tryz.func13 (by kernel_rfl) rfl) (by show 0 ≤ Tryz.f13.ntmps; decide) (by kernel_rfl) trivial (fun cx hcx => ?_)
                exact ret_of (T := T0) hT hm (f := 5000) (orc := [.call [] (.t (k2 (F48 (0, 0, 0) (3, 4, 0) 2))) [], oC13_0, oC13_1, oC13_2, .d true, .d true, .d true, .d true, .d true, .d true, .d false]) [] [] [] hcx
                  (obs := [oC13_3, oC13_4, oC13_5, oC13_6, .eq (((F48 (0, 0, 0) (3, 4, 0) 2).2 : Int) == 0) true, .eq (((F48 (0, 0, 0) (3, 4, 0) 2).1 : Int) == 3) true, oC13_7, oC13_8, oC13_9, oC13_10, .eq (((F50 (((10, 0, 0), (12, 0, 0), (10, 2, 0)), 7, 3) (0, 0, 0) 2 13 1).2 : Int) == 0) false]) (by kernel_rfl) ⟨(C48 (0, 0, 0) (3, 4, 0) 2), (C49 (((10, 0, 0), (12, 0, 0), (10, 2, 0)), 7, 3) (0, 0, 0) 2), (C50 (((10, 0, 0), (12, 0, 0), (10, 2, 0)), 7, 3) (0, 0, 0) 2 7 1), (C50 (((10, 0, 0), (12, 0, 0), (10, 2, 0)), 7, 3) (0, 0, 0) 2 13 1), h0, h1, h2, h3, h4, h5, h6, trivial⟩
            | false =>
              have q0 := eq_of_beq h0
              have q1 := eq_of_beq h1
              have q2 := eq_of_beq h2
              have q3 := eq_of_beq h3
              have q4 := eq_of_beq h4
              have e : F13 = false := by simp only [F13, h0, h1, h2, h3, h4, h5, cond_true, cond_false]
              rw [e]
              refine con_of (n := 9) Tryz.func13 rfl (ent Tryz.func13 (by kernel_rfl) rfl) (by show 0 ≤ Tryz.f13.ntmps; decide) (by kernel_rfl) trivial (fun cx hcx => ?_)
              exact ret_of (T := T0) hT hm (f := 5000) (orc := [.call [] (.t (k2 (F48 (0, 0, 0) (3, 4, 0) 2))) [], oC13_0, oC13_1, oC13_2, .d true, .d true, .d true, .d true, .d true, .d false]) [] [] [] hcx
                (obs := [oC13_3, oC13_4, oC13_5, oC13_6, .eq (((F48 (0, 0, 0) (3, 4, 0) 2).2 : Int) == 0) true, .eq (((F48 (0, 0, 0) (3, 4, 0) 2).1 : Int) == 3) true, oC13_7, oC13_8, oC13_9, .eq ((((F50 (((10, 0, 0), (12, 0, 0), (10, 2, 0)), 7, 3) (0, 0, 0) 2 7 1).1.1 : Int) == 0) && ((((F50 (((10, 0, 0), (12, 0, 0), (10, 2, 0)), 7, 3) (0, 0, 0) 2 7 1).1.2 : Int) == 0) && true)) false]) (by kernel_rfl) ⟨(C48 (0, 0, 0) (3, 4, 0) 2), (C49 (((10, 0, 0), (12, 0, 0), (10, 2, 0)), 7, 3) (0, 0, 0) 2), (C50 (((10, 0, 0), (12, 0, 0), (10, 2, 0)), 7, 3) (0, 0, 0) 2 7 1), (C50 (((10, 0, 0), (12, 0, 0), (10, 2, 0)), 7, 3) (0, 0, 0) 2 13 1), h0, h1, h2, h3, h4, h5, trivial⟩
          | false =>
            have q0 := eq_of_beq h0
            have q1 := eq_of_beq h1
            have q2 := eq_of_beq h2
            have q3 := eq_of_beq h3
            have q4 := ne_of_beq_false h4
            have e : F13 = false := by simp only [F13, h0, h1, h2, h3, h4, cond_true, cond_false]
            rw [e]
            refine con_of (n := 9) Tryz.func13 rfl (ent Tryz.func13 (by kernel_rfl) rfl) (by show 0 ≤ Tryz.f13.ntmps; decide) (by kernel_rfl) trivial (fun cx hcx => ?_)
            exact ret_of (T := T0) hT hm (f := 5000) (orc := [.call [] (.t (k2 (F48 (0, 0, 0) (3, 4, 0) 2))) [], oC13_0, oC13_1, oC13_2, .d true, .d true, .d true, .d true, .d false]) [] [] [] hcx
              (obs := [oC13_3, oC13_4, oC13_5, oC13_6, .eq (((F48 (0, 0, 0) (3, 4, 0) 2).2 : Int) == 0) true, .eq (((F48 (0, 0, 0) (3, 4, 0) 2).1 : Int) == 3) true, oC13_7, oC13_8, .eq (((F50 (((10, 0, 0), (12, 0, 0), (10, 2, 0)), 7, 3) (0, 0, 0) 2 7 1).2 : Int) == 0) false]) (by kernel_rfl) ⟨(C48 (0, 0, 0) (3, 4, 0) 2), (C49 (((10, 0, 0), (12, 0, 0), (10, 2, 0)), 7, 3) (0, 0, 0) 2), (C50 (((10, 0, 0), (12, 0, 0), (10, 2, 0)), 7, 3) (0, 0, 0) 2 7 1), (C50 (((10, 0, 0), (12, 0, 0), (10, 2, 0)), 7, 3) (0, 0, 0) 2 13 1), h0, h1, h2, h3, h4, trivial⟩
        | false =>
          have q0 := eq_of_beq h0
          have q1 := eq_of_beq h1
          have q2 := eq_of_beq h2
          have q3 := ne_of_beq_false h3
          have e : F13 = false := by simp only [F13, h0, h1, h2, h3, cond_true, cond_false]
          rw [e]
          refine con_of (n := 9) Tryz.func13 rfl (ent Tryz.func13 (by kernel_rfl) rfl) (by show 0 ≤ Tryz.f13.ntmps; decide) (by kernel_rfl) trivial (fun cx hcx => ?_)
          exact ret_of (T := T0) hT hm (f := 5000) (orc := [.call [] (.t (k2 (F48 (0, 0, 0) (3, 4, 0) 2))) [], oC13_0, oC13_1, oC13_2, .d true, .d true, .d true, .d false]) [] [] [] hcx
            (obs := [oC13_3, oC13_4, oC13_5, oC13_6, .eq (((F48 (0, 0, 0) (3, 4, 0) 2).2 : Int) == 0) true, .eq (((F48 (0, 0, 0) (3, 4, 0) 2).1 : Int) == 3) true, oC13_7, .eq (((F49 (((10, 0, 0), (12, 0, 0), (10, 2, 0)), 7, 3) (0, 0, 0) 2).1 : Int) == 12) false]) (by kernel_rfl) ⟨(C48 (0, 0, 0) (3, 4, 0) 2), (C49 (((10, 0, 0), (12, 0, 0), (10, 2, 0)), 7, 3) (0, 0, 0) 2), (C50 (((10, 0, 0), (12, 0, 0), (10, 2, 0)), 7, 3) (0, 0, 0) 2 7 1), (C50 (((10, 0, 0), (12, 0, 0), (10, 2, 0)), 7, 3) (0, 0, 0) 2 13 1), h0, h1, h2, h3, trivial⟩
      | false =>
        have q0 := eq_of_beq h0
        have q1 := eq_of_beq h1
        have q2 := ne_of_beq_false h2
        have e : F13 = false := by simp only [F13, h0, h1, h2, cond_true, cond_false]
        rw [e]
        refine con_of (n := 9) Tryz.func13 rfl (ent Tryz.func13 (by kernel_rfl) rfl) (by show 0 ≤ Tryz.f13.ntmps; decide) (by kernel_rfl) trivial (fun cx hcx => ?_)
        exact ret_of (T := T0) hT hm (f := 5000) (orc := [.call [] (.t (k2 (F48 (0, 0, 0) (3, 4, 0) 2))) [], oC13_0, oC13_1, oC13_2, .d true, .d true, .d false]) [] [] [] hcx
          (obs := [oC13_3, oC13_4, oC13_5, oC13_6, .eq (((F48 (0, 0, 0) (3, 4, 0) 2).2 : Int) == 0) true, .eq (((F48 (0, 0, 0) (3, 4, 0) 2).1 : Int) == 3) true, .eq (((F49 (((10, 0, 0), (12, 0, 0), (10, 2, 0)), 7, 3) (0, 0, 0) 2).2 : Int) == 0) false]) (by kernel_rfl) ⟨(C48 (0, 0, 0) (3, 4, 0) 2), (C49 (((10, 0, 0), (12, 0, 0), (10, 2, 0)), 7, 3) (0, 0, 0) 2), (C50 (((10, 0, 0), (12, 0, 0), (10, 2, 0)), 7, 3) (0, 0, 0) 2 7 1), (C50 (((10, 0, 0), (12, 0, 0), (10, 2, 0)), 7, 3) (0, 0, 0) 2 13 1), h0, h1, h2, trivial⟩
    | false =>
      have q0 := eq_of_beq h0
      have q1 := ne_of_beq_false h1
      have e : F13 = false := by simp only [F13, h0, h1, cond_true, cond_false]
      rw [e]
      refine con_of (n := 9) Tryz.func13 rfl (ent Tryz.func13 (by kernel_rfl) rfl) (by show 0 ≤ Tryz.f13.ntmps; decide) (by kernel_rfl) trivial (fun cx hcx => ?_)
      exact ret_of (T := T0) hT hm (f := 5000) (orc := [.call [] (.t (k2 (F48 (0, 0, 0) (3, 4, 0) 2))) [], oC13_0, oC13_1, oC13_2, .d true, .d false]) [] [] [] hcx
        (obs := [oC13_3, oC13_4, oC13_5, oC13_6, .eq (((F48 (0, 0, 0) (3, 4, 0) 2).2 : Int) == 0) true, .eq (((F48 (0, 0, 0) (3, 4, 0) 2).1 : Int) == 3) false]) (by kernel_rfl) ⟨(C48 (0, 0, 0) (3, 4, 0) 2), (C49 (((10, 0, 0), (12, 0, 0), (10, 2, 0)), 7, 3) (0, 0, 0) 2), (C50 (((10, 0, 0), (12, 0, 0), (10, 2, 0)), 7, 3) (0, 0, 0) 2 7 1), (C50 (((10, 0, 0), (12, 0, 0), (10, 2, 0)), 7, 3) (0, 0, 0) 2 13 1), h0, h1, trivial⟩
  | false =>
    have q0 := ne_of_beq_false h0
    have e : F13 = false := by simp only [F13, h0, cond_true, cond_false]
    rw [e]
    refine con_of (n := 9) Tryz.func13 rfl (ent Tryz.func13 (by kernel_rfl) rfl) (by show 0 ≤ Tryz.f13.ntmps; decide) (by kernel_rfl) trivial (fun cx hcx => ?_)
    exact ret_of (T := T0) hT hm (f := 5000) (orc := [.call [] (.t (k2 (F48 (0, 0, 0) (3, 4, 0) 2))) [], oC13_0, oC13_1, oC13_2, .d false]) [] [] [] hcx
      (obs := [oC13_3, oC13_4, oC13_5, oC13_6, .eq (((F48 (0, 0, 0) (3, 4, 0) 2).2 : Int) == 0) false]) (by kernel_rfl) ⟨(C48 (0, 0, 0) (3, 4, 0) 2), (C49 (((10, 0, 0), (12, 0, 0), (10, 2, 0)), 7, 3) (0, 0, 0) 2), (C50 (((10, 0, 0), (12, 0, 0), (10, 2, 0)), 7, 3) (0, 0, 0) 2 7 1), (C50 (((10, 0, 0), (12, 0, 0), (10, 2, 0)), 7, 3) (0, 0, 0) 2 13 1), h0, trivial⟩

end Go.Proofs.YtnkeljlllagddaaGreat

namespace Go.Proofs.YtnkeljlllagddaaGreat
open Go.Proofs Go.Aw Go.RowKit
set_option maxRecDepth 100000
set_option linter.unusedVariables false
set_option linter.unusedSimpArgs false

theorem sane_t : F13 = true := by kernel_rfl
/-! ### Travels -/
section
variable {n s t : Int}
end
/-! ### From when to when -/
end Go.Proofs.YtnkeljlllagddaaGreat

namespace Go.Proofs.YtnkeljlllagddaaGreat
open Go.Proofs Go.Aw Go.RowKit
set_option maxRecDepth 100000
set_option linter.unusedVariables false
set_option linter.unusedSimpArgs false

/-! ### What is heard of a pulse -/
theorem inv1_f {s n : Int} (hs : s = 1 ∨ s = 2 ∨ s = 4 ∨ s = 8) (h1 : 1 ≤ n) (hn : n ≤ 1000000000) : F130 n s = (of1 s n, 0) := by
  obtain ⟨e1, e2, _⟩ := lt8 hs
  unfold F130 of1
  have e : W ((W (s * s)) * 2 ^ (min (Int.toNat 40) 64)) = NN s := by rcases hs with rfl | rfl | rfl | rfl <;> kernel_rfl
  rw [decide_eq_false (show ¬ n < 1 by omega), cond_false, decide_eq_false (show ¬ n > 1099511627776 by omega), cond_false, e1, cond_false, e2, cond_false, if_neg (show ¬ n < 1 by omega), e, inv_f (NN_bd hs) (by omega)]
theorem inv1_r {s n : Int} (hs : s = 1 ∨ s = 2 ∨ s = 4 ∨ s = 8) (h1 : 1 ≤ n) (hn : n ≤ 1000000000) : F202 n s = (of1 s n, 0) := by
  obtain ⟨_, _, e3⟩ := lt8 hs
  unfold F202 of1
  have e : W ((W ((W (1048576 * s)) * 1048576)) * s) = NN s := by rcases hs with rfl | rfl | rfl | rfl <;> kernel_rfl
  rw [e3, within_eq1, decide_eq_true (show (1 ≤ n ∧ n ≤ 1099511627776) by omega), if_neg (show ¬ n < 1 by omega), e, inv_r (NN_bd hs) (by omega)]; rfl
/-- what a part gives whose nearest and farthest squared distances are n and f -/
noncomputable def gv (a b s n f : Int) : (Int × Int) × Int :=
  if f ≤ a ∨ b < n then ((0, 0), 0) else if mx n a = 0 then ((0, 0), 10) else if a < n ∧ f ≤ b then (((of1 s f).1, (of1 s (mx n a)).2), 0) else ((0, (of1 s (mx n a)).2), 0)
theorem mx_eq (n a : Int) : (if n < a then a else n) = mx n a := rfl
theorem gives_f {a b s n f : Int} (hs : s = 1 ∨ s = 2 ∨ s = 4 ∨ s = 8) (ha : 0 ≤ a) (hn : 0 ≤ n) (hnf : n ≤ f) (hf : f ≤ 1000000000) : F189 (a, b, s) n f = gv a b s n f := by
  unfold F189 gv
  simp only [mx_eq]
  by_cases h1 : f ≤ a
  · simp [h1]
  · by_cases h2 : b < n
    · simp [h1, h2]
    · have hm := le_mx1 n a
      have hm2 : mx n a ≤ 1000000000 := mx_le (by omega) (by omega)
      rw [decide_eq_false h1, cond_false, decide_eq_false h2, cond_false, if_neg (by omega)]
      by_cases h3 : mx n a = 0
      · rw [h3]; cases decide (n > a) <;> rfl
      · rw [if_neg h3, inv1_f hs (by omega) hm2, inv1_f hs (by omega) hf, beq_eq_false_iff_ne.2 h3, cond_false, cond_false]
        by_cases h4 : a < n
        · by_cases h5 : f ≤ b
          · rw [if_pos ⟨h4, h5⟩]; simp [h4, h5]
          · rw [if_neg (by omega)]; simp [h4, h5]
        · rw [if_neg (by omega)]; simp [h4]
theorem share_r {c : PN} {y : P3} {a b s : Int} (hs : s = 1 ∨ s = 2 ∨ s = 4 ∨ s = 8) (ha : 0 ≤ a) (hc : bdP 5000 c) (hy : bd 5000 y) : F193 c y a b s = gv a b s (ne c y) (fa c y) := by
  have h0 := ne_le c y; have h00 := (fa_bd hc hy).2
  unfold F193 gv
  rw [sne_r hc hy, sfa_r hc hy]
  simp only [mx_eq]
  by_cases h1 : fa c y ≤ a
  · simp [h1]
  · by_cases h2 : b < ne c y
    · simp [h1, h2]
    · have hm := le_mx1 (ne c y) a
      have hm2 : mx (ne c y) a ≤ 1000000000 := mx_le (by omega) (by omega)
      rw [decide_eq_false h1, cond_false, decide_eq_false h2, cond_false, if_neg (by omega)]
      by_cases h3 : mx (ne c y) a = 0
      · rw [h3]; rfl
      · rw [if_neg h3, inv1_r hs (by omega) hm2, inv1_r hs (by omega) (by omega), beq_eq_false_iff_ne.2 h3, cond_false]
        by_cases h4 : a < ne c y
        · by_cases h5 : fa c y ≤ b
          · rw [if_pos ⟨h4, h5⟩]; simp [show ¬ ne c y ≤ a by omega, show ¬ b < fa c y by omega]
          · rw [if_neg (by omega)]; simp [show ¬ ne c y ≤ a by omega, show b < fa c y by omega]
        · rw [if_neg (by omega)]; simp [show ne c y ≤ a by omega]
theorem gv_ok {a b s n f : Int} (hs : s = 1 ∨ s = 2 ∨ s = 4 ∨ s = 8) (hn : 0 ≤ n) (hnf : n ≤ f) : okE (gv a b s n f).1 := by
  have ho := of1_ok hs
  have hm := le_mx1 n a
  unfold gv okE
  split
  · simp
  · split
    · simp
    · rename_i h1 h2
      have hmf : mx n a ≤ f := mx_le hnf (by omega)
      have q1 := ho.lo f; have q2 := ho.mono (mx n a) f (by omega) hmf; have q3 := ho.le (mx n a); have q4 := ho.hi (mx n a); have q5 := ho.lo (mx n a)
      split <;> simp only <;> omega
/-! a list that is filled, or left at the first error -/
def shs {α β : Type} (g : α → β × Int) : List α → List β → List β ⊕ Int
  | [], l => .inl l
  | c :: m, l => if (g c).2 = 0 then shs g m (l ++ [(g c).1]) else .inr (g c).2
def out8 {β R : Type} (G : List β → R) (E : Int → R) : List β ⊕ Int → R
  | .inl m => G m
  | .inr e => E e
theorem shs_loopF {α β R : Type} [Inhabited R] {g : α → β × Int} {S : List β × Int → (List β × Int) ⊕ R} {G : List β → R} {E : Int → R} {L : List α}
    (hS : ∀ (i : Nat) (c : α), L[i]? = some c → ∀ l : List β, S (l, (i : Int)) = bif ((g c).2 != 0) then .inr (E (g c).2) else .inl (l ++ [(g c).1], ((i + 1 : Nat) : Int)))
    (hE : ∀ l : List β, S (l, (L.length : Int)) = .inr (G l)) :
    ∀ (k : List α) (i n : Nat) (l : List β), L.drop i = k → i ≤ L.length → k.length < n → loopF S n (l, (i : Int)) = out8 G E (shs g k l)
  | [], i, n, l, hd, hi', hn => by
    have : i = L.length := by have := List.drop_eq_nil_iff.1 hd; omega
    obtain ⟨n, rfl⟩ : ∃ m, n = m + 1 := ⟨n - 1, by simp only [List.length_nil] at hn; omega⟩
    subst this
    rw [loopF_inr (hE _)]; rfl
  | c :: k, i, n, l, hd, hi', hn => by
    have hc : L[i]? = some c := by
      have : (L.drop i)[0]? = some c := by rw [hd]; rfl
      simpa using this
    obtain ⟨hlt, hce⟩ := List.getElem?_eq_some_iff.1 hc
    obtain ⟨n, rfl⟩ : ∃ m, n = m + 1 := ⟨n - 1, by omega⟩
    have h1 := hS i c hc l
    unfold shs
    by_cases h : (g c).2 = 0
    · rw [h] at h1
      rw [loopF_inl h1, if_pos h]
      exact shs_loopF hS hE k (i + 1) n _ (by rw [← List.drop_drop, hd]; rfl) (by omega) (by simp only [List.length_cons] at hn; omega)
    · rw [bne_iff_ne.2 h, cond_true] at h1
      rw [loopF_inr h1, if_neg h]; rfl
theorem shs_inl {α β : Type} {g : α → β × Int} : ∀ {k : List α} {l m : List β}, shs g k l = .inl m → m = l ++ k.map (fun c => (g c).1) ∧ ∀ c ∈ k, (g c).2 = 0
  | [], l, m, h => by simp only [shs] at h; cases h; simp
  | c :: k, l, m, h => by
    unfold shs at h
    split at h
    · rename_i h0
      obtain ⟨h1, h2⟩ := shs_inl h
      refine ⟨by rw [h1]; simp, fun x hx => ?_⟩
      rcases List.mem_cons.1 hx with rfl | hx
      · exact h0
      · exact h2 x hx
    · cases h
theorem out8_ok {α β R : Type} {g : α → β × Int} {k : List α} {G G' : List β → R} {E : Int → R} (h : (∀ c ∈ k, (g c).2 = 0) → G (k.map (fun c => (g c).1)) = G' (k.map (fun c => (g c).1))) : out8 G E (shs g k []) = out8 G' E (shs g k []) := by
  cases e : shs g k [] with
  | inr r => rfl
  | inl m =>
    obtain ⟨h1, h2⟩ := shs_inl e
    subst h1
    exact h h2
/-! a pulse in a tick -/
def shA (s d q : Int) : Int := sc d * s * q * (sc d * s * q)
noncomputable def shG (p : PU) (x : P3) (s t d : Int) (c : PN) : (Int × Int) × Int := gv (shA s d (t - p.2.1 - 1)) (shA s d (t - p.2.1)) (sc d) (ne c (tm (sc d) x)) (fa c (tm (sc d) x))
noncomputable def hrE (l : List (Int × Int)) (d w : Int) : (Int × Int) × Int := F134 (scl (avg (sums l (0, 0)) (sc d * sc d)) w).1 (scl (avg (sums l (0, 0)) (sc d * sc d)) w).2
noncomputable def hrS (p : PU) (x : P3) (s t d : Int) : (Int × Int) × Int :=
  if t - p.2.1 < 1 then ((0, 0), 0) else out8 (fun l => hrE l d p.2.2) (fun e => ((0, 0), e)) (shs (shG p x s t d) (cutL d.toNat p.1) [])
theorem shA_bd {s d q : Int} (hs : 1 ≤ s ∧ s ≤ 16) (hq : 0 ≤ q ∧ q ≤ 2000) : 0 ≤ sc d * s ∧ sc d * s ≤ 128 ∧ 0 ≤ sc d * s * q ∧ sc d * s * q ≤ 256000 ∧ 0 ≤ shA s d q ∧ shA s d q ≤ 65536000000 := by
  have h0 := sc_bd d
  have h1 : 0 ≤ sc d * s := Int.mul_nonneg (by omega) (by omega)
  have h2 : sc d * s ≤ 8 * 16 := Int.mul_le_mul (by omega) (by omega) (by omega) (by omega)
  have h3 : 0 ≤ sc d * s * q := Int.mul_nonneg (by omega) (by omega)
  have h4 : sc d * s * q ≤ 128 * 2000 := Int.mul_le_mul (by omega) (by omega) (by omega) (by omega)
  have h5 : shA s d q ≤ 256000 * 256000 := Int.mul_le_mul (by omega) (by omega) (by omega) (by omega)
  have h6 : 0 ≤ shA s d q := Int.mul_nonneg h3 h3
  exact ⟨h1, by omega, h3, by omega, h6, by omega⟩
theorem shW {s d q : Int} (hs : 1 ≤ s ∧ s ≤ 16) (hq : 0 ≤ q ∧ q ≤ 2000) : W ((W (sc d * s)) * q) = sc d * s * q := by
  have h := shA_bd (d := d) hs hq
  rw [W_eq (n := sc d * s) (by omega) (by omega), W_eq (by omega) (by omega)]
theorem hr_end_f {l : List (Int × Int)} {d w : Int} (hd : 0 ≤ d ∧ d ≤ 3) (hl : ∀ a ∈ l, okE a) (hk : ((l.length : Nat) : Int) = sc d * sc d) (hw : -100 ≤ w ∧ w ≤ 100) :
    (bif (((F177_L l).2 : Int) != 0) then ((0, 0), (F177_L l).2) else ((F65 (F177_L l).1 w).1, (F65 (F177_L l).1 w).2)) = hrE l d w := by
  have hc := cnt_in d
  have h64 : l.length ≤ 64 := by omega
  rw [meanL_f hl hc hk]
  rw [Scale_f (avg_vs hc (sums_ok hl (okv_len h64))) (by omega)]; rfl
theorem hr_end_r {l : List (Int × Int)} {d w : Int} (hd : 0 ≤ d ∧ d ≤ 3) (hl : ∀ a ∈ l, okE a) (hk : ((l.length : Nat) : Int) = sc d * sc d) (hw : -100 ≤ w ∧ w ≤ 100) :
    (bif (((F179_L l).2 : Int) != 0) then ((0, 0), (F179_L l).2) else ((F67 (F179_L l).1 w).1, (F67 (F179_L l).1 w).2)) = hrE l d w := by
  have hc := cnt_in d
  have h64 : l.length ≤ 64 := by omega
  rw [meanL_r hl hc hk]
  rw [Scale_r (avg_vs hc (sums_ok hl (okv_len h64))) (by omega)]; rfl
theorem shG_ok (p : PU) (x : P3) (s t d : Int) (c : PN) : okE (shG p x s t d c).1 := gv_ok (sc_in d) (ne_le _ _).1 (ne_le _ _).2
theorem sp_eq {p : PN} {d : Int} (hp : vp p = 0) (hd : 0 ≤ d ∧ d ≤ 3) : F188 p d = (cutL d.toNat p, 0) := by rw [parts_f, if_pos hp, if_pos hd]
theorem quad8_eq {x : PN} (h : bdP 100000 x) : quad8 x = quad x := by
  obtain ⟨⟨h1, h2, h3⟩, ⟨h4, h5, h6⟩, ⟨h7, h8, h9⟩⟩ := h
  unfold quad8 quad F229 F228 q1 q2 q3 q4
  have e : ∀ a b : Int, -100000 ≤ a ∧ a ≤ 100000 → -100000 ≤ b ∧ b ≤ 100000 → W (a + b) = a + b := fun a b ha hb => W_eq (by omega) (by omega)
  have t2 : ∀ a : Int, 2 * a = a + a := fun a => by omega
  simp [F170, F223, e, h1, h2, h3, h4, h5, h6, h7, h8, h9, t2]
theorem R8_cut {p : PN} (hp : bdP 64 p) : ∀ (nr : Nat) (d : Int), 0 ≤ d ∧ d ≤ 3 → Int.toNat d < nr → R192 nr p d = cutL (Int.toNat d) p
  | 0, d, _, h => by omega
  | nr + 1, d, hd, h => by
    rw [R8_eq]
    by_cases h0 : d = 0
    · subst h0; rfl
    · have h1 := pa_d h0 hd
      rw [if_neg h0, R8_cut hp nr _ h1.1 (by omega), ← h1.2, cutL_quad]
      exact flatMap_eq fun x hx => quad8_eq ((cutL_in hp (d := W (d - 1)) h1.1 hx).mono (by omega))
theorem rp_eq {p : PN} (hp : bdP 64 p) {d : Int} (hd : 0 ≤ d ∧ d ≤ 3) : F192 p d = cutL d.toNat p := R8_cut hp _ _ hd (Nat.lt_succ_self _)
theorem heard_f {p : PU} {x : P3} {s t d : Int} (hp : POK p) (hx : bd 256 x) (hs : 1 ≤ s ∧ s ≤ 16) (ht : 0 ≤ t ∧ t ≤ 2000) (hd : 0 ≤ d ∧ d ≤ 3) : F116 p x s t d = hrS p x s t d := by
  have hb := pok_bd hp
  have hsc := sc_bd d
  have hx' : bd 5000 (tm (sc d) x) := (bd_tm hsc (by omega) hx).mono (by omega)
  have hpt := hp.2.1
  unfold F116 hrS
  rw [W_eq (n := t - p.2.1) (by omega) (by omega)]
  by_cases h0 : t - p.2.1 < 1
  · rw [decide_eq_true h0, if_pos h0]; rfl
  have hA := shA_bd (d := d) (q := t - p.2.1 - 1) hs (by omega)
  have hB := shA_bd (d := d) (q := t - p.2.1) hs (by omega)
  rw [decide_eq_false h0, if_neg h0, cond_false, sp_eq hp.1 hd]
  show loopF (S116_0 p x s t d) _ (([] : List (Int × Int)), ((0 : Nat) : Int)) = _
  have key := shs_loopF (g := shG p x s t d) (S := S116_0 p x s t d) (E := fun e => ((0, 0), e)) (L := cutL d.toNat p.1)
    (G := fun l => (bif (((F177_L l).2 : Int) != 0) then ((0, 0), (F177_L l).2) else ((F65 (F177_L l).1 p.2.2).1, (F65 (F177_L l).1 p.2.2).2)))
    (fun i c hi l => ?_) (fun l => ?_) (cutL d.toNat p.1) 0 (Int.toNat ((((cutL d.toNat p.1).length : Nat) : Int) - 0) + 1) [] rfl (Nat.zero_le _) (by omega)
  · rw [key]
    refine out8_ok (fun _ => hr_end_f hd ?_ ?_ hp.2.2)
    · intro a ha
      obtain ⟨c, _, rfl⟩ := List.mem_map.1 ha
      exact shG_ok _ _ _ _ _ _
    · rw [List.length_map]; exact cnt_len hd p.1
  · obtain ⟨hlt, hce⟩ := List.getElem?_eq_some_iff.1 hi
    have hg : (cutL d.toNat p.1).getD i default = c := by rw [List.getD_eq_getElem?_getD, hi]; rfl
    have hc : bdP 5000 c := (cutL_in hb hd (hce ▸ List.getElem_mem hlt)).mono (by omega)
    have e : F189 ((F186 (W ((W (sc d * s)) * (W (t - p.2.1 - 1))))), (F186 (W ((W (sc d * s)) * (t - p.2.1)))), sc d) (F187 c (tm (sc d) x)) (F190 c (tm (sc d) x)) = shG p x s t d c := by
      rw [W_eq (n := t - p.2.1 - 1) (by omega) (by omega), shW hs (by omega), shW hs (by omega), square_f (by omega), square_f (by omega), sne_f hc hx', sfa_f hc hx']
      exact gives_f (sc_in d) hA.2.2.2.2.1 (ne_le _ _).1 (ne_le _ _).2 (by have := (fa_bd hc hx').2; omega)
    simp only [S116_0]
    rw [sp_eq hp.1 hd, decide_eq_true (show ((i : Nat) : Int) < ((cutL d.toNat p.1).length : Nat) by omega), cond_true, Int.toNat_natCast, hg, sc_f hd, tm_W hsc (hx.mono (by omega)), W_eq (n := t - p.2.1) (by omega) (by omega), e]; rfl
  · simp only [S116_0]
    rw [sp_eq hp.1 hd, decide_eq_false (Int.lt_irrefl _), cond_false]
    cases (((F177_L l).2 : Int) != 0) <;> rfl
theorem heard_r {p : PU} {x : P3} {s t d : Int} (hp : POK p) (hx : bd 256 x) (hs : 1 ≤ s ∧ s ≤ 16) (ht : 0 ≤ t ∧ t ≤ 2000) (hd : 0 ≤ d ∧ d ≤ 3) : F125 p x s t d = hrS p x s t d := by
  have hb := pok_bd hp
  have hsc := sc_bd d
  have hx' : bd 5000 (tm (sc d) x) := (bd_tm hsc (by omega) hx).mono (by omega)
  have hpt := hp.2.1
  unfold F125 hrS
  rw [W_eq (n := t - p.2.1) (by omega) (by omega)]
  by_cases h0 : t - p.2.1 < 1
  · rw [decide_eq_true h0, if_pos h0]; rfl
  have hA := shA_bd (d := d) (q := t - p.2.1 - 1) hs (by omega)
  have hB := shA_bd (d := d) (q := t - p.2.1) hs (by omega)
  rw [decide_eq_false h0, if_neg h0, cond_false, rp_eq hb hd]
  show loopF (S125_0 p x s t d) _ (([] : List (Int × Int)), ((0 : Nat) : Int)) = _
  have key := shs_loopF (g := shG p x s t d) (S := S125_0 p x s t d) (E := fun e => ((0, 0), e)) (L := cutL d.toNat p.1)
    (G := fun l => (bif (((F179_L l).2 : Int) != 0) then ((0, 0), (F179_L l).2) else ((F67 (F179_L l).1 p.2.2).1, (F67 (F179_L l).1 p.2.2).2)))
    (fun i c hi l => ?_) (fun l => ?_) (cutL d.toNat p.1) 0 (Int.toNat ((((cutL d.toNat p.1).length : Nat) : Int) - 0) + 1) [] rfl (Nat.zero_le _) (by omega)
  · rw [key]
    refine out8_ok (fun _ => hr_end_r hd ?_ ?_ hp.2.2)
    · intro a ha
      obtain ⟨c, _, rfl⟩ := List.mem_map.1 ha
      exact shG_ok _ _ _ _ _ _
    · rw [List.length_map]; exact cnt_len hd p.1
  · obtain ⟨hlt, hce⟩ := List.getElem?_eq_some_iff.1 hi
    have hg : (cutL d.toNat p.1).getD i default = c := by rw [List.getD_eq_getElem?_getD, hi]; rfl
    have hc : bdP 5000 c := (cutL_in hb hd (hce ▸ List.getElem_mem hlt)).mono (by omega)
    have e : F193 c (tm (sc d) x) (W ((W ((W (sc d * s)) * (W (t - p.2.1 - 1)))) * (W ((W (sc d * s)) * (W (t - p.2.1 - 1)))))) (W ((W ((W (sc d * s)) * (t - p.2.1))) * (W ((W (sc d * s)) * (t - p.2.1))))) (sc d) = shG p x s t d c := by
      rw [W_eq (n := t - p.2.1 - 1) (by omega) (by omega), shW hs (by omega), shW hs (by omega)]
      have e1 : W (sc d * s * (t - p.2.1 - 1) * (sc d * s * (t - p.2.1 - 1))) = shA s d (t - p.2.1 - 1) := W_eq (n := shA s d (t - p.2.1 - 1)) (by omega) (by omega)
      have e2 : W (sc d * s * (t - p.2.1) * (sc d * s * (t - p.2.1))) = shA s d (t - p.2.1) := W_eq (n := shA s d (t - p.2.1)) (by omega) (by omega)
      rw [e1, e2]
      exact share_r (sc_in d) hA.2.2.2.2.1 hc hx'
    simp only [S125_0]
    rw [rp_eq hb hd, decide_eq_true (show ((i : Nat) : Int) < ((cutL d.toNat p.1).length : Nat) by omega), cond_true, Int.toNat_natCast, hg, sc_r hd, tm_W hsc (hx.mono (by omega)), W_eq (n := t - p.2.1) (by omega) (by omega), e]; rfl
  · simp only [S125_0]
    rw [rp_eq hb hd, decide_eq_false (Int.lt_irrefl _), cond_false]
    cases (((F179_L l).2 : Int) != 0) <;> rfl
open Classical in
theorem isT_f (n : Int) : F54 n = decide (0 ≤ n ∧ n ≤ 2000) := by unfold F54; exact sfrom_eq _ _ _
theorem isD_f (n : Int) : F55 n = decide (0 ≤ n ∧ n ≤ 3) := by unfold F55; exact sfrom_eq _ _ _
end Go.Proofs.YtnkeljlllagddaaGreat

namespace Go.Proofs.YtnkeljlllagddaaGreat
open Go.Proofs Go.Aw Go.RowKit
set_option maxRecDepth 100000
set_option linter.unusedVariables false
set_option linter.unusedSimpArgs false

/-! ### Slices of flat elements as arguments -/
open Go.ChangeShapes Go.WideShapes Go.ChangeAt
section
variable {H : Type} {enc : TypeId × Value → H} {P : Program} {w : World}
/-- what a slice of elements of es numbers holds -/
def SliceOf (w : World) (es : Nat) (v : Value) (nss : List (List Int)) : Prop :=
  (∀ ns ∈ nss, ns.length = es) ∧ nss.length ≤ 9223372036854775807 ∧
  ((v = .slice none 0 0 ∧ nss = []) ∨ ∃ b o cap, v = .slice (some ⟨b, o, none⟩) nss.length cap ∧ nss.length ≤ cap ∧ ∀ (i : Nat) (x : Value), ((nss.flatten).map (Value.int .i64))[i]? = some x → w.cell? ⟨b, o + i, none⟩ = some x)
theorem flat_cells {es b : Nat} : ∀ (nss : List (List Int)) (o : Nat), (∀ (j : Nat) (ns : List Int), nss[j]? = some ns → ns.length = es ∧ ∀ (q : Nat) (x : Value), (ns.map (Value.int .i64))[q]? = some x → w.cell? ⟨b, o + j * es + q, none⟩ = some x) →
    ∀ (i : Nat) (x : Value), ((nss.flatten).map (Value.int .i64))[i]? = some x → w.cell? ⟨b, o + i, none⟩ = some x
  | [], o, _, i, x, hi => by simp at hi
  | ns :: l, o, h, i, x, hi => by
    obtain ⟨h1, h2⟩ := h 0 ns rfl
    rw [List.flatten_cons, List.map_append] at hi
    by_cases hlt : i < ns.length
    · rw [List.getElem?_append_left (by simpa using hlt)] at hi
      have := h2 i x hi
      simpa using this
    · rw [List.getElem?_append_right (by simpa using hlt)] at hi
      have := flat_cells l (o + es) (fun j ms hj => ⟨(h (j + 1) ms hj).1, fun q y hq => by
        have := (h (j + 1) ms hj).2 q y hq
        rw [show o + es + j * es + q = o + (j + 1) * es + q by rw [Nat.add_mul]; omega]; exact this⟩) (i - es) x (by simpa [h1] using hi)
      rw [show o + es + (i - es) = o + i by omega] at this; exact this
theorem open_list {r : Reach} {b0 : Nat} {t e : TypeId} {es : Nat} {v : Value} {d : DataW H} {ps : List MemPlace} (ht : P.underlying t = some (.slice e)) (hf : flatB P 6 e = true) (hes : P.cellsOf e = es)
    (hval : Value.okWide P w r b0 t v) (hd : DataW.Trod enc P w 0 (fun _ => true) true t v d ps) : (∃ nss, SliceOf w es v nss) ∧ ∀ x ∈ ps, x.block < w.heap.size := by
  obtain ⟨fuel, hx⟩ := hd
  refine ⟨?_, DataW.trod_lt fuel t _ _ hx⟩
  obtain ⟨a, len, cap, rfl⟩ := okWide_slice ht hval
  rcases Go.Deep.open_slice ht hx with ⟨hc, _⟩ | ⟨a', len', cap', m, n, D, Pl, hc, hb, hl, hm, hmm, _, hall⟩
  · simp only [Value.cells, List.cons.injEq, and_true] at hc
    exact ⟨[], fun ns h => by simp at h, by simp, .inl ⟨hc, rfl⟩⟩
  · simp only [Value.cells, List.cons.injEq, and_true, Value.slice.injEq] at hc
    obtain ⟨rfl, rfl, rfl⟩ := hc
    simp only [Value.okWide, ht, Cell.okWide, Cell.ok, World.has] at hval
    have hsp : a'.spot = none := hval.2.2.2.1
    obtain ⟨b, o, sp⟩ := a'
    simp only at hsp
    subst hsp
    simp only [if_true] at hmm
    obtain ⟨N, hN⟩ := Go.Deep.choose_lt (α := List Int) (p := fun i ns => ns.length = es ∧ ∀ (q : Nat) (x : Value), (ns.map (Value.int .i64))[q]? = some x → w.cell? ⟨b, o + i * es + q, none⟩ = some x) (n := len) (fun i hi => by
      obtain ⟨cs', h1, h2⟩ := hall i (by omega)
      obtain ⟨_, ns, rfl⟩ := flat_trod 6 e n cs' _ hf h2
      obtain ⟨_, hlen, hcell⟩ := World.cells?_some h1
      rw [hes] at hlen hcell
      refine ⟨ns, by simpa using hlen, fun q x hq => ?_⟩
      have hq' := (List.getElem?_eq_some_iff.1 hq).1
      have := hcell q (by omega)
      rw [Go.Aw.add_eq, Go.Aw.add_eq] at this
      rw [this, hq])
    refine ⟨(List.range len).map N, fun ns h => ?_, ?_, .inr ⟨b, o, cap, ?_, ?_, ?_⟩⟩
    · obtain ⟨i, hi, rfl⟩ := List.mem_map.1 h
      exact (hN i (by simpa using hi)).1
    · have : maxLen = 9223372036854775807 := rfl
      simp; omega
    · simp
    · simpa using hl
    · refine flat_cells (es := es) _ o (fun j ns hj => ?_)
      have hjl := (List.getElem?_eq_some_iff.1 hj).1
      simp only [List.length_map, List.length_range] at hjl
      have : N j = ns := by simpa [hjl] using hj
      subst this
      exact hN j hjl
/-- where a slice lies -/
def rho (es : Nat) : Value → Option (Nat × Nat × Nat)
  | .slice (some a) _ cap => some (a.block, a.off, cap * es)
  | _ => none
theorem slice_rel {es : Nat} {v : Value} {nss : List (List Int)} {ρ : Env} {k : Nat} (h : SliceOf w es v nss) (hk : ρ k = rho es v) : Rel ρ (.s k 0 nss.length es) v := by
  obtain ⟨h1, h2, ⟨rfl, rfl⟩ | ⟨b, o, cap, rfl, h3, h4⟩⟩ := h
  · simp only [Rel]; exact .inl ⟨hk, rfl, trivial⟩
  · simp only [Rel]; exact .inr ⟨b, o, cap * es, cap, 0, hk, rfl, h3, by omega, fun _ => rfl⟩
theorem flatten_len {es : Nat} : ∀ {nss : List (List Int)}, (∀ ns ∈ nss, ns.length = es) → nss.flatten.length = nss.length * es
  | [], _ => by simp
  | ns :: l, h => by
    rw [List.flatten_cons, List.length_append, flatten_len (fun m hm => h m (List.mem_cons_of_mem _ hm)), h ns List.mem_cons_self, List.length_cons, Nat.add_mul]; omega
theorem slice_brep {es : Nat} {v : Value} {nss : List (List Int)} {ρ : Env} {k : Nat} {M : Nat → Prop} (h : SliceOf w es v nss) (hk : ρ k = rho es v) (hM : ∀ b, M b → w.heap.size ≤ b) : BRep ρ M w k (.live false true ((nss.flatten).map iv)) := by
  obtain ⟨h1, h2, ⟨rfl, rfl⟩ | ⟨b, o, cap, rfl, h3, h4⟩⟩ := h
  · exact .inl ⟨hk, rfl⟩
  · have hlen := flatten_len h1
    refine .inr ⟨b, o, cap * es, (nss.flatten).map (Value.int .i64), hk, ⟨?_, fun hne hm => ?_⟩, rels_iv _, h4⟩
    · rw [List.length_map, hlen]; exact Nat.mul_le_mul_right _ h3
    · have hb := hM b hm
      obtain ⟨x, hx⟩ := List.exists_mem_of_ne_nil _ hne
      obtain ⟨i, hi⟩ := List.getElem?_of_mem hx
      have := World.block_lt_of_cell? w ⟨b, o + i, none⟩ (h4 i x hi)
      exact absurd this (Nat.not_lt_of_le hb)
theorem flat_mk {α : Type} {c : α → List SV} {f : List Int → α} {es : Nat} (hc : ∀ ns : List Int, ns.length = es → c (f ns) = ns.map iv) : ∀ {nss : List (List Int)}, (∀ ns ∈ nss, ns.length = es) → flat c (nss.map f) = (nss.flatten).map iv
  | [], _ => rfl
  | ns :: l, h => by
    have := flat_mk hc (nss := l) (fun m hm => h m (List.mem_cons_of_mem _ hm))
    unfold flat at *
    rw [List.map_cons, List.flatMap_cons, this, hc ns (h ns List.mem_cons_self), List.flatten_cons, List.map_append]
end
theorem plain_ivs : ∀ ns : List Int, Plain (ns.map iv)
  | [] => fun k hk => by simp [SV.hasl] at hk
  | n :: l => fun k hk => by
    simp only [List.map_cons, SV.hasl] at hk
    rcases hk with hk | hk
    · simp [iv, SV.has] at hk
    · exact plain_ivs l k hk
/-- A contract to which lists are handed over that it only reads, called. -/
theorem law_callsL {P : Program} {f : Nat} {args : List SV} {vs : List Value} {x : Value} {bs : List BK} (hc : Con P f args bs (.v x) []) (ρ : Env) {W : World} (hr : Rels ρ args vs) (hown : ∀ i, ¬ (bs.getD i .un).own)
    (hb : (∀ b, (callCx ρ W bs).mine b → W.heap.size ≤ b) → ∀ i, BRep ρ (callCx ρ W bs).mine W i (bs.getD i .un)) (hpl : ∀ i, (bs.getD i .un).pl) :
    Calls P f vs.toArray W fun e W' => e = .returned x ∧ Below W.heap.size W W' := by
  have hM : ∀ b, (callCx ρ W bs).mine b → W.heap.size ≤ b := by
    rintro b (h | ⟨i, n, hi, _⟩)
    · exact h
    · exact absurd hi (hown i)
  refine (hc.2 ρ W vs hr (hb hM) hpl (fun i j b n b' n' _ h => absurd h (hown i))).mono fun e W' h => ?_
  obtain ⟨ρ', v, rfl, _, hv, hk, _⟩ := h
  refine ⟨by rw [show v = x from hv], hk.os, hk.tape, hk.output, hk.size, fun k hk' => hk.block k hk' ?_⟩
  rintro ⟨i, n, hi, _⟩
  exact hown i hi
def rho1 (e : Nat) (v : Value) : Env := fun k => if k = 0 then rho e v else none
theorem law_calls1 {P : Program} {f es0 : Nat} {args : List SV} {vs : List Value} {x v0 : Value} {nss0 : List (List Int)} {W : World} (hc : Con P f args [.live false true ((nss0.flatten).map iv)] (.v x) [])
    (s0 : SliceOf W es0 v0 nss0) (hr : Rels (rho1 es0 v0) args vs) : Calls P f vs.toArray W fun e W' => e = .returned x ∧ Below W.heap.size W W' := by
  refine law_callsL hc _ hr (fun i => ?_) (fun hM i => ?_) (fun i => ?_)
  · rcases i with _ | i <;> simp [BK.own]
  · rcases i with _ | i
    · exact slice_brep s0 rfl hM
    · simp [BRep]
  · rcases i with _ | i
    · exact plain_ivs _
    · simp [BK.pl]
end Go.Proofs.YtnkeljlllagddaaGreat

namespace Go.Proofs.YtnkeljlllagddaaGreat
open Go.Proofs Go.Aw Go.RowKit
set_option maxRecDepth 100000
set_option linter.unusedVariables false
set_option linter.unusedSimpArgs false

/-! ### Sums of lists of spans -/
def okw (v : Int × Int) (n : Nat) : Prop := (-4611686018427387904 + 1099511627776 * n ≤ v.1 ∧ v.1 + 1099511627776 * n ≤ 4611686018427387904) ∧ (-4611686018427387904 + 1099511627776 * n ≤ v.2 ∧ v.2 + 1099511627776 * n ≤ 4611686018427387904)
theorem okw_next {v a : Int × Int} {n : Nat} (h : okw v (n + 1)) (ha : vs a) : okw (v.1 + a.1, v.2 + a.2) n := by unfold okw vs at *; simp only; omega
theorem okw_W {v : Int × Int} {n : Nat} (h : okw v n) : W v.1 = v.1 ∧ W v.2 = v.2 := by unfold okw at h; exact ⟨W_eq (by omega) (by omega), W_eq (by omega) (by omega)⟩
theorem okw_0 {n : Nat} (h : n ≤ 10000) : okw (0, 0) n := by unfold okw; simp only; omega
theorem sumw_loopF {R : Type} [Inhabited R] {S : Int × Int × Int → (Int × Int × Int) ⊕ R} {G : Int × Int → R} {L : List (Int × Int)} (hl : ∀ a ∈ L, vs a)
    (hS : ∀ (i : Nat) (a : Int × Int), L[i]? = some a → ∀ v1 v2 : Int, S (v1, v2, (i : Int)) = .inl (W (v1 + a.1), W (v2 + a.2), ((i + 1 : Nat) : Int)))
    (hE : ∀ v1 v2 : Int, S (v1, v2, (L.length : Int)) = .inr (G (v1, v2))) :
    ∀ (l : List (Int × Int)) (i n : Nat) (v : Int × Int), L.drop i = l → i ≤ L.length → l.length < n → okw v l.length → loopF S n (v.1, v.2, (i : Int)) = G (sums l v) := by
  intro l
  induction l with
  | nil =>
    intro i n v hd hi' hn h
    have : i = L.length := by have := List.drop_eq_nil_iff.1 hd; omega
    obtain ⟨n, rfl⟩ : ∃ m, n = m + 1 := ⟨n - 1, by simp only [List.length_nil] at hn; omega⟩
    subst this
    rw [loopF_inr (hE _ _)]; rfl
  | cons c l ih =>
    intro i n v hd hi' hn h
    have hc : L[i]? = some c := by
      have : (L.drop i)[0]? = some c := by rw [hd]; rfl
      simpa using this
    obtain ⟨hlt, hce⟩ := List.getElem?_eq_some_iff.1 hc
    obtain ⟨n, rfl⟩ : ∃ m, n = m + 1 := ⟨n - 1, by omega⟩
    have h1 : okw (v.1 + c.1, v.2 + c.2) l.length := okw_next h (hl c (hce ▸ List.getElem_mem hlt))
    have hw := okw_W h1
    simp only at hw
    rw [loopF_inl (hS i c hc v.1 v.2), hw.1, hw.2]
    exact ih (i + 1) n (v.1 + c.1, v.2 + c.2) (by rw [← List.drop_drop, hd]; rfl) (by omega) (by simp only [List.length_cons] at hn; omega) h1
section
variable {l : List (Int × Int)}
theorem vs_val {a : Int × Int} (h : vs a) : F184 a = true := val_f (a := a.1) (b := a.2) h.1 h.2.1 h.2.2
theorem chkW (hl : ∀ a ∈ l, vs a) : F131_L l = 0 := by
  have key : ∀ (m : List (Int × Int)) (i n : Nat), l.drop i = m → i ≤ l.length → m.length < n → loopF (S131_L_0 l) n (i : Int) = 0 := by
    intro m
    induction m with
    | nil =>
      intro i n hd hi hn
      have : i = l.length := by have := List.drop_eq_nil_iff.1 hd; omega
      obtain ⟨n, rfl⟩ : ∃ m, n = m + 1 := ⟨n - 1, by simp only [List.length_nil] at hn; omega⟩
      subst this
      refine loopF_inr ?_
      simp only [S131_L_0]
      rw [decide_eq_false (Int.lt_irrefl _), cond_false]
    | cons c m ih =>
      intro i n hd hi hn
      have hc : l[i]? = some c := by
        have : (l.drop i)[0]? = some c := by rw [hd]; rfl
        simpa using this
      obtain ⟨hlt, hce⟩ := List.getElem?_eq_some_iff.1 hc
      obtain ⟨n, rfl⟩ : ∃ m, n = m + 1 := ⟨n - 1, by omega⟩
      have hg : l.getD i default = c := by rw [List.getD_eq_getElem?_getD, hc]; rfl
      have e : S131_L_0 l (i : Int) = .inl ((i + 1 : Nat) : Int) := by
        simp only [S131_L_0]
        rw [decide_eq_true (show ((i : Nat) : Int) < (l.length : Nat) by omega), cond_true, Int.toNat_natCast, hg, vs_val (hl c (hce ▸ List.getElem_mem hlt))]; rfl
      rw [loopF_inl e]
      exact ih (i + 1) n (by rw [← List.drop_drop, hd]; rfl) (by omega) (by simp only [List.length_cons] at hn; omega)
  unfold F131_L
  exact key l 0 _ rfl (Nat.zero_le _) (by omega)
theorem totw_f (hl : ∀ a ∈ l, vs a) (hn : l.length ≤ 10000) : F147_L l = ((sums l (0, 0)).1, (sums l (0, 0)).2, 0) := by
  unfold F147_L
  rw [decide_eq_false (by omega), cond_false, chkW hl]
  show loopF _ _ (((0, 0) : Int × Int).1, ((0, 0) : Int × Int).2, ((0 : Nat) : Int)) = _
  refine sumw_loopF (G := fun v => (v.1, v.2, 0)) hl (fun i a hi v1 v2 => ?_) (fun v1 v2 => ?_) l 0 _ (0, 0) rfl (Nat.zero_le _) (by omega) (okw_0 hn)
  · obtain ⟨hlt, hce⟩ := List.getElem?_eq_some_iff.1 hi
    have hg : l.getD i default = a := by rw [List.getD_eq_getElem?_getD, hi]; rfl
    simp only [S147_L_0]
    rw [decide_eq_true (show ((i : Nat) : Int) < (l.length : Nat) by omega), cond_true, Int.toNat_natCast, hg]; rfl
  · simp only [S147_L_0]
    rw [decide_eq_false (Int.lt_irrefl _), cond_false]
theorem totw_r (hl : ∀ a ∈ l, vs a) (hn : l.length ≤ 10000) : F140_L l = ((sums l (0, 0)).1, (sums l (0, 0)).2, 0) := by
  unfold F140_L
  rw [decide_eq_false (by omega), cond_false]
  show loopF _ _ (((0, 0) : Int × Int).1, ((0, 0) : Int × Int).2, ((0 : Nat) : Int)) = _
  refine sumw_loopF (G := fun v => (v.1, v.2, 0)) hl (fun i a hi v1 v2 => ?_) (fun v1 v2 => ?_) l 0 _ (0, 0) rfl (Nat.zero_le _) (by omega) (okw_0 hn)
  · obtain ⟨hlt, hce⟩ := List.getElem?_eq_some_iff.1 hi
    have hg : l.getD i default = a := by rw [List.getD_eq_getElem?_getD, hi]; rfl
    simp only [S140_L_0]
    rw [decide_eq_true (show ((i : Nat) : Int) < (l.length : Nat) by omega), cond_true, Int.toNat_natCast, hg, show F110 a = true from vs_val (hl a (hce ▸ List.getElem_mem hlt))]; rfl
  · simp only [S140_L_0]
    rw [decide_eq_false (Int.lt_irrefl _), cond_false]
/-- the least span of the sums, or an error -/
noncomputable def sumV (l : List (Int × Int)) : (Int × Int) × Int := F134 (sums l (0, 0)).1 (sums l (0, 0)).2
theorem Sum_f (hl : ∀ a ∈ l, vs a) (hn : l.length ≤ 10000) : F73_L l = sumV l := by
  unfold F73_L
  rw [totw_f hl hn]; rfl
theorem Sum_r (hl : ∀ a ∈ l, vs a) (hn : l.length ≤ 10000) : F68_L l = sumV l := by
  unfold F68_L
  rw [totw_r hl hn]; rfl
end
end Go.Proofs.YtnkeljlllagddaaGreat

namespace Go.Proofs.YtnkeljlllagddaaGreat
open Go.Proofs Go.Aw Go.RowKit
set_option maxRecDepth 100000
set_option linter.unusedVariables false
set_option linter.unusedSimpArgs false

end Go.Proofs.YtnkeljlllagddaaGreat

namespace Go.Proofs.YtnkeljlllagddaaGreat
open Go.Proofs Go.Aw Go.RowKit
set_option maxRecDepth 100000
set_option linter.unusedVariables false
set_option linter.unusedSimpArgs false

/-- api.Pulse, as cells -/
def c67 (x : ((Int × Int × Int) × (Int × Int × Int) × Int × Int × Int) × Int × Int) : List SV := [(iv x.1.1.1), (iv x.1.1.2.1), (iv x.1.1.2.2), (iv x.1.2.1.1), (iv x.1.2.1.2.1), (iv x.1.2.1.2.2), (iv x.1.2.2.1), (iv x.1.2.2.2.1), (iv x.1.2.2.2.2), (iv x.2.1), (iv x.2.2)]
theorem c67_len (x : ((Int × Int × Int) × (Int × Int × Int) × Int × Int × Int) × Int × Int) : (c67 x).length = 11 := rfl

noncomputable def B126_L_0 : Code := (loopAtD [1, 1, 0, 1] [] (Tryz.f126.body.getD .skip) []).1
noncomputable def K126_L_0 : List K := (loopAtD [1, 1, 0, 1] [] (Tryz.f126.body.getD .skip) []).2

/-- a round of loop 0 of facet/sound.ValidatePulses; the variables: v1 = s11 -/
def S126_L_0 (a0 : List (((Int × Int × Int) × (Int × Int × Int) × Int × Int × Int) × Int × Int)) : Int → (Int) ⊕ (Int)
  | v1 =>
   (bif (decide ((v1 : Int) < ((a0.length : Nat) : Int))) then
    (bif (((F194 (a0.getD (Int.toNat v1) default).1) : Int) != 0) then
     (.inr (F194 (a0.getD (Int.toNat v1) default).1))
    else
     (bif (!(F121 (a0.getD (Int.toNat v1) default).2.1 0 1000)) then
      (.inr 1)
     else
      (bif (!(F121 (a0.getD (Int.toNat v1) default).2.2 (-100) 100)) then
       (.inr 1)
      else
       (.inl (v1 + 1)))))
   else
    (.inr 0))

set_option maxHeartbeats 4000000 in
theorem L126_L_0 (a0 : List (((Int × Int × Int) × (Int × Int × Int) × Int × Int × Int) × Int × Int)) (l0 : a0.length ≤ 9223372036854775807) {cx : Cx} (hcx : cx.base = 1) : ∀ (n : Nat) (v1 : Int), 0 ≤ v1 → Int.toNat (((a0.length : Nat) : Int) - v1) < n → Aw.Good Tryz.prog none 9 (bodyPost Tryz.prog Tryz.f126 (RR cx (iv (loopF (S126_L_0 a0) n v1)) [] [])) cx [] (.l B126_L_0 n :: K126_L_0) ⟨[.u, .u, .u, .u, .u, .u, .u, .u, .u, (.s 0 0 a0.length 11), (iv ((a0.length : Nat) : Int)), (iv v1), .u, .u, .u, .u, .u, .u, .u, .u, .u, .u, .u, .u, .u, .u, .u, .u, .u, .u, .u, .u], [(.live false true (flat c67 a0))]⟩ := by
  intro n
  induction n with
  | zero => intro v1 hi hn; exact absurd hn (Nat.not_lt_zero _)
  | succ n ih =>
    intro v1 hi hn
    refine good_round ?_
    cases h0 : (decide ((v1 : Int) < ((a0.length : Nat) : Int))) with
    | true =>
      cases h1 : (((F194 (a0.getD (Int.toNat v1) default).1) : Int) != 0) with
      | true =>
        have q0 := of_decide_eq_true h0
        have q1 := bne_iff_ne.1 h1
        have e : S126_L_0 a0 v1 = (.inr (F194 (a0.getD (Int.toNat v1) default).1)) := by simp only [S126_L_0, h0, h1, cond_true, cond_false]
        rw [show loopF (S126_L_0 a0) (n + 1) v1 = thenF (S126_L_0 a0) n (S126_L_0 a0 v1) from rfl, e]
        exact ret_of (T := T0) hT hm (f := 5000) (orc := [.d true, .ld [(iv (a0.getD (Int.toNat v1) default).1.1.1), (iv (a0.getD (Int.toNat v1) default).1.1.2.1), (iv (a0.getD (Int.toNat v1) default).1.1.2.2), (iv (a0.getD (Int.toNat v1) default).1.2.1.1), (iv (a0.getD (Int.toNat v1) default).1.2.1.2.1), (iv (a0.getD (Int.toNat v1) default).1.2.1.2.2), (iv (a0.getD (Int.toNat v1) default).1.2.2.1), (iv (a0.getD (Int.toNat v1) default).1.2.2.2.1), (iv (a0.getD (Int.toNat v1) default).1.2.2.2.2), (iv (a0.getD (Int.toNat v1) default).2.1), (iv (a0.getD (Int.toNat v1) default).2.2)], .call [] (iv (F194 (a0.getD (Int.toNat v1) default).1)) [], .d true]) [] [] [] hcx
          (obs := [.eq (decide ((v1 : Int) < ((a0.length : Nat) : Int))) true, .pr (0 ≤ (v1 : Int) ∧ (v1 : Int) < ((a0.length : Nat) : Int)), .pr (((((flat c67 a0)).drop (0 + Int.toNat v1 * 11)).take 11) = [(iv (a0.getD (Int.toNat v1) default).1.1.1), (iv (a0.getD (Int.toNat v1) default).1.1.2.1), (iv (a0.getD (Int.toNat v1) default).1.1.2.2), (iv (a0.getD (Int.toNat v1) default).1.2.1.1), (iv (a0.getD (Int.toNat v1) default).1.2.1.2.1), (iv (a0.getD (Int.toNat v1) default).1.2.1.2.2), (iv (a0.getD (Int.toNat v1) default).1.2.2.1), (iv (a0.getD (Int.toNat v1) default).1.2.2.2.1), (iv (a0.getD (Int.toNat v1) default).1.2.2.2.2), (iv (a0.getD (Int.toNat v1) default).2.1), (iv (a0.getD (Int.toNat v1) default).2.2)]), .call 194 [(.a (k9 (a0.getD (Int.toNat v1) default).1))] [] (iv (F194 (a0.getD (Int.toNat v1) default).1)) [], .eq (((F194 (a0.getD (Int.toNat v1) default).1) : Int) != 0) true]) (by kernel_rfl) ⟨h0, (show 0 ≤ (v1 : Int) ∧ (v1 : Int) < ((a0.length : Nat) : Int) from by first | omega | (rw [W_eq] <;> omega) | exact u64_nn _), (ld_part c67_len default a0 v1 0 11 (by omega) (by decide) (by omega) rfl), (C194 (a0.getD (Int.toNat v1) default).1), h1, trivial⟩
      | false =>
        cases h2 : (!(F121 (a0.getD (Int.toNat v1) default).2.1 0 1000)) with
        | true =>
          have q0 := of_decide_eq_true h0
          have q1 := bne_eq_false_iff_eq.1 h1
          have e : S126_L_0 a0 v1 = (.inr 1) := by simp only [S126_L_0, h0, h1, h2, cond_true, cond_false]
          rw [show loopF (S126_L_0 a0) (n + 1) v1 = thenF (S126_L_0 a0) n (S126_L_0 a0 v1) from rfl, e]
          exact ret_of (T := T0) hT hm (f := 5000) (orc := [.d true, .ld [(iv (a0.getD (Int.toNat v1) default).1.1.1), (iv (a0.getD (Int.toNat v1) default).1.1.2.1), (iv (a0.getD (Int.toNat v1) default).1.1.2.2), (iv (a0.getD (Int.toNat v1) default).1.2.1.1), (iv (a0.getD (Int.toNat v1) default).1.2.1.2.1), (iv (a0.getD (Int.toNat v1) default).1.2.1.2.2), (iv (a0.getD (Int.toNat v1) default).1.2.2.1), (iv (a0.getD (Int.toNat v1) default).1.2.2.2.1), (iv (a0.getD (Int.toNat v1) default).1.2.2.2.2), (iv (a0.getD (Int.toNat v1) default).2.1), (iv (a0.getD (Int.toNat v1) default).2.2)], .call [] (iv (F194 (a0.getD (Int.toNat v1) default).1)) [], .d false, .call [] (.v (.bool (F121 (a0.getD (Int.toNat v1) default).2.1 0 1000))) [], .d true]) [] [] [] hcx
            (obs := [.eq (decide ((v1 : Int) < ((a0.length : Nat) : Int))) true, .pr (0 ≤ (v1 : Int) ∧ (v1 : Int) < ((a0.length : Nat) : Int)), .pr (((((flat c67 a0)).drop (0 + Int.toNat v1 * 11)).take 11) = [(iv (a0.getD (Int.toNat v1) default).1.1.1), (iv (a0.getD (Int.toNat v1) default).1.1.2.1), (iv (a0.getD (Int.toNat v1) default).1.1.2.2), (iv (a0.getD (Int.toNat v1) default).1.2.1.1), (iv (a0.getD (Int.toNat v1) default).1.2.1.2.1), (iv (a0.getD (Int.toNat v1) default).1.2.1.2.2), (iv (a0.getD (Int.toNat v1) default).1.2.2.1), (iv (a0.getD (Int.toNat v1) default).1.2.2.2.1), (iv (a0.getD (Int.toNat v1) default).1.2.2.2.2), (iv (a0.getD (Int.toNat v1) default).2.1), (iv (a0.getD (Int.toNat v1) default).2.2)]), .call 194 [(.a (k9 (a0.getD (Int.toNat v1) default).1))] [] (iv (F194 (a0.getD (Int.toNat v1) default).1)) [], .eq (((F194 (a0.getD (Int.toNat v1) default).1) : Int) != 0) false, .call 121 [(iv (a0.getD (Int.toNat v1) default).2.1), (iv 0), (iv 1000)] [] (.v (.bool (F121 (a0.getD (Int.toNat v1) default).2.1 0 1000))) [], .eq (!(F121 (a0.getD (Int.toNat v1) default).2.1 0 1000)) true]) (by kernel_rfl) ⟨h0, (show 0 ≤ (v1 : Int) ∧ (v1 : Int) < ((a0.length : Nat) : Int) from by first | omega | (rw [W_eq] <;> omega) | exact u64_nn _), (ld_part c67_len default a0 v1 0 11 (by omega) (by decide) (by omega) rfl), (C194 (a0.getD (Int.toNat v1) default).1), h1, (C121 (a0.getD (Int.toNat v1) default).2.1 0 1000), h2, trivial⟩
        | false =>
          cases h3 : (!(F121 (a0.getD (Int.toNat v1) default).2.2 (-100) 100)) with
          | true =>
            have q0 := of_decide_eq_true h0
            have q1 := bne_eq_false_iff_eq.1 h1
            have e : S126_L_0 a0 v1 = (.inr 1) := by simp only [S126_L_0, h0, h1, h2, h3, cond_true, cond_false]
            rw [show loopF (S126_L_0 a0) (n + 1) v1 = thenF (S126_L_0 a0) n (S126_L_0 a0 v1) from rfl, e]
            exact ret_of (T := T0) hT hm (f := 5000) (orc := [.d true, .ld [(iv (a0.getD (Int.toNat v1) default).1.1.1), (iv (a0.getD (Int.toNat v1) default).1.1.2.1), (iv (a0.getD (Int.toNat v1) default).1.1.2.2), (iv (a0.getD (Int.toNat v1) default).1.2.1.1), (iv (a0.getD (Int.toNat v1) default).1.2.1.2.1), (iv (a0.getD (Int.toNat v1) default).1.2.1.2.2), (iv (a0.getD (Int.toNat v1) default).1.2.2.1), (iv (a0.getD (Int.toNat v1) default).1.2.2.2.1), (iv (a0.getD (Int.toNat v1) default).1.2.2.2.2), (iv (a0.getD (Int.toNat v1) default).2.1), (iv (a0.getD (Int.toNat v1) default).2.2)], .call [] (iv (F194 (a0.getD (Int.toNat v1) default).1)) [], .d false, .call [] (.v (.bool (F121 (a0.getD (Int.toNat v1) default).2.1 0 1000))) [], .d false, .call [] (.v (.bool (F121 (a0.getD (Int.toNat v1) default).2.2 (-100) 100))) [], .d true]) [] [] [] hcx
              (obs := [.eq (decide ((v1 : Int) < ((a0.length : Nat) : Int))) true, .pr (0 ≤ (v1 : Int) ∧ (v1 : Int) < ((a0.length : Nat) : Int)), .pr (((((flat c67 a0)).drop (0 + Int.toNat v1 * 11)).take 11) = [(iv (a0.getD (Int.toNat v1) default).1.1.1), (iv (a0.getD (Int.toNat v1) default).1.1.2.1), (iv (a0.getD (Int.toNat v1) default).1.1.2.2), (iv (a0.getD (Int.toNat v1) default).1.2.1.1), (iv (a0.getD (Int.toNat v1) default).1.2.1.2.1), (iv (a0.getD (Int.toNat v1) default).1.2.1.2.2), (iv (a0.getD (Int.toNat v1) default).1.2.2.1), (iv (a0.getD (Int.toNat v1) default).1.2.2.2.1), (iv (a0.getD (Int.toNat v1) default).1.2.2.2.2), (iv (a0.getD (Int.toNat v1) default).2.1), (iv (a0.getD (Int.toNat v1) default).2.2)]), .call 194 [(.a (k9 (a0.getD (Int.toNat v1) default).1))] [] (iv (F194 (a0.getD (Int.toNat v1) default).1)) [], .eq (((F194 (a0.getD (Int.toNat v1) default).1) : Int) != 0) false, .call 121 [(iv (a0.getD (Int.toNat v1) default).2.1), (iv 0), (iv 1000)] [] (.v (.bool (F121 (a0.getD (Int.toNat v1) default).2.1 0 1000))) [], .eq (!(F121 (a0.getD (Int.toNat v1) default).2.1 0 1000)) false, .call 121 [(iv (a0.getD (Int.toNat v1) default).2.2), (iv (-100)), (iv 100)] [] (.v (.bool (F121 (a0.getD (Int.toNat v1) default).2.2 (-100) 100))) [], .eq (!(F121 (a0.getD (Int.toNat v1) default).2.2 (-100) 100)) true]) (by kernel_rfl) ⟨h0, (show 0 ≤ (v1 : Int) ∧ (v1 : Int) < ((a0.length : Nat) : Int) from by first | omega | (rw [W_eq] <;> omega) | exact u64_nn _), (ld_part c67_len default a0 v1 0 11 (by omega) (by decide) (by omega) rfl), (C194 (a0.getD (Int.toNat v1) default).1), h1, (C121 (a0.getD (Int.toNat v1) default).2.1 0 1000), h2, (C121 (a0.getD (Int.toNat v1) default).2.2 (-100) 100), h3, trivial⟩
          | false =>
            have q0 := of_decide_eq_true h0
            have q1 := bne_eq_false_iff_eq.1 h1
            have e : S126_L_0 a0 v1 = (.inl (v1 + 1)) := by simp only [S126_L_0, h0, h1, h2, h3, cond_true, cond_false]
            rw [loopF_inl e]
            refine back_of (T := T0) hT hm (f := 5000) (orc := [.d true, .ld [(iv (a0.getD (Int.toNat v1) default).1.1.1), (iv (a0.getD (Int.toNat v1) default).1.1.2.1), (iv (a0.getD (Int.toNat v1) default).1.1.2.2), (iv (a0.getD (Int.toNat v1) default).1.2.1.1), (iv (a0.getD (Int.toNat v1) default).1.2.1.2.1), (iv (a0.getD (Int.toNat v1) default).1.2.1.2.2), (iv (a0.getD (Int.toNat v1) default).1.2.2.1), (iv (a0.getD (Int.toNat v1) default).1.2.2.2.1), (iv (a0.getD (Int.toNat v1) default).1.2.2.2.2), (iv (a0.getD (Int.toNat v1) default).2.1), (iv (a0.getD (Int.toNat v1) default).2.2)], .call [] (iv (F194 (a0.getD (Int.toNat v1) default).1)) [], .d false, .call [] (.v (.bool (F121 (a0.getD (Int.toNat v1) default).2.1 0 1000))) [], .d false, .call [] (.v (.bool (F121 (a0.getD (Int.toNat v1) default).2.2 (-100) 100))) [], .d false]) [] [9, 10, 11] [] hcx (body := B126_L_0) (m := n) (k' := K126_L_0) (s' := ⟨[.u, .u, .u, .u, .u, .u, .u, .u, .u, (.s 0 0 a0.length 11), (iv ((a0.length : Nat) : Int)), (iv (W (v1 + 1))), .u, .u, .u, .u, .u, .u, .u, .u, .u, .u, .u, .u, .u, .u, .u, .u, .u, .u, .u, .u], [(.live false true (flat c67 a0))]⟩)
              (obs := [.eq (decide ((v1 : Int) < ((a0.length : Nat) : Int))) true, .pr (0 ≤ (v1 : Int) ∧ (v1 : Int) < ((a0.length : Nat) : Int)), .pr (((((flat c67 a0)).drop (0 + Int.toNat v1 * 11)).take 11) = [(iv (a0.getD (Int.toNat v1) default).1.1.1), (iv (a0.getD (Int.toNat v1) default).1.1.2.1), (iv (a0.getD (Int.toNat v1) default).1.1.2.2), (iv (a0.getD (Int.toNat v1) default).1.2.1.1), (iv (a0.getD (Int.toNat v1) default).1.2.1.2.1), (iv (a0.getD (Int.toNat v1) default).1.2.1.2.2), (iv (a0.getD (Int.toNat v1) default).1.2.2.1), (iv (a0.getD (Int.toNat v1) default).1.2.2.2.1), (iv (a0.getD (Int.toNat v1) default).1.2.2.2.2), (iv (a0.getD (Int.toNat v1) default).2.1), (iv (a0.getD (Int.toNat v1) default).2.2)]), .call 194 [(.a (k9 (a0.getD (Int.toNat v1) default).1))] [] (iv (F194 (a0.getD (Int.toNat v1) default).1)) [], .eq (((F194 (a0.getD (Int.toNat v1) default).1) : Int) != 0) false, .call 121 [(iv (a0.getD (Int.toNat v1) default).2.1), (iv 0), (iv 1000)] [] (.v (.bool (F121 (a0.getD (Int.toNat v1) default).2.1 0 1000))) [], .eq (!(F121 (a0.getD (Int.toNat v1) default).2.1 0 1000)) false, .call 121 [(iv (a0.getD (Int.toNat v1) default).2.2), (iv (-100)), (iv 100)] [] (.v (.bool (F121 (a0.getD (Int.toNat v1) default).2.2 (-100) 100))) [], .eq (!(F121 (a0.getD (Int.toNat v1) default).2.2 (-100) 100)) false]) (by kernel_rfl) ⟨h0, (show 0 ≤ (v1 : Int) ∧ (v1 : Int) < ((a0.length : Nat) : Int) from by first | omega | (rw [W_eq] <;> omega) | exact u64_nn _), (ld_part c67_len default a0 v1 0 11 (by omega) (by decide) (by omega) rfl), (C194 (a0.getD (Int.toNat v1) default).1), h1, (C121 (a0.getD (Int.toNat v1) default).2.1 0 1000), h2, (C121 (a0.getD (Int.toNat v1) default).2.2 (-100) 100), h3, trivial⟩ ?_
            have z0 : (W (v1 + 1)) = (v1 + 1) := W_eq (by omega) (by omega)
            rw [z0]
            exact ih (v1 + 1) (by (try simp only [List.length_append, List.length_cons, List.length_nil, Int.toNat_zero]); omega) (by (try simp only [List.length_append, List.length_cons, List.length_nil, Int.toNat_zero]); omega)
    | false =>
      have q0 := of_decide_eq_false h0
      have e : S126_L_0 a0 v1 = (.inr 0) := by simp only [S126_L_0, h0, cond_true, cond_false]
      rw [show loopF (S126_L_0 a0) (n + 1) v1 = thenF (S126_L_0 a0) n (S126_L_0 a0 v1) from rfl, e]
      exact ret_of (T := T0) hT hm (f := 5000) (orc := [.d false]) [] [] [] hcx
        (obs := [.eq (decide ((v1 : Int) < ((a0.length : Nat) : Int))) false]) (by kernel_rfl) ⟨h0, trivial⟩

/-- facet/sound.ValidatePulses at ('L',) -/
def F126_L (a0 : List (((Int × Int × Int) × (Int × Int × Int) × Int × Int × Int) × Int × Int)) : Int :=
  (bif (decide ((((a0.length : Nat) : Int) : Int) > 16)) then
   4
  else
   (loopF (S126_L_0 a0) (Int.toNat (((a0.length : Nat) : Int) - 0) + 1) 0))

theorem C126_L (a0 : List (((Int × Int × Int) × (Int × Int × Int) × Int × Int × Int) × Int × Int)) (l0 : a0.length ≤ 9223372036854775807) : Con Tryz.prog 126 [(.s 0 0 a0.length 11)] [(.live false true (flat c67 a0))] (iv (F126_L a0)) [] := by
  cases h0 : (decide ((((a0.length : Nat) : Int) : Int) > 16)) with
  | true =>
    have q0 := of_decide_eq_true h0
    have e : (F126_L a0) = 4 := by simp only [F126_L, h0, cond_true, cond_false]
    rw [e]
    refine con_of (n := 9) Tryz.func126 rfl (ent Tryz.func126 (by kernel_rfl) rfl) (by show 1 ≤ Tryz.f126.ntmps; decide) (by kernel_rfl) ⟨rfl, trivial⟩ (fun cx hcx => ?_)
    exact ret_of (T := T0) hT hm (f := 5000) (orc := [.d true]) [] [] [] hcx
      (obs := [.eq (decide ((((a0.length : Nat) : Int) : Int) > 16)) true]) (by kernel_rfl) ⟨h0, trivial⟩
  | false =>
    have q0 := of_decide_eq_false h0
    have e : (F126_L a0) = (loopF (S126_L_0 a0) (Int.toNat (((a0.length : Nat) : Int) - 0) + 1) 0) := by simp only [F126_L, h0, cond_true, cond_false]
    rw [e]
    refine con_of (n := 9) Tryz.func126 rfl (ent Tryz.func126 (by kernel_rfl) rfl) (by show 1 ≤ Tryz.f126.ntmps; decide) (by kernel_rfl) ⟨rfl, trivial⟩ (fun cx hcx => ?_)
    refine enter_of (T := T0) hT hm (f := 5000) (orc := [.d false]) [] [9, 10, 11] [] hcx (body := B126_L_0) (k' := K126_L_0) (s' := ⟨[.u, .u, .u, .u, .u, .u, .u, .u, .u, (.s 0 0 a0.length 11), (iv ((a0.length : Nat) : Int)), (iv 0), .u, .u, .u, .u, .u, .u, .u, .u, .u, .u, .u, .u, .u, .u, .u, .u, .u, .u, .u, .u], [(.live false true (flat c67 a0))]⟩)
      (obs := [.eq (decide ((((a0.length : Nat) : Int) : Int) > 16)) false]) (by kernel_rfl) ⟨h0, trivial⟩ ⟨Int.toNat (((a0.length : Nat) : Int) - 0) + 1, ?_⟩
    exact L126_L_0 a0 l0 hcx (Int.toNat (((a0.length : Nat) : Int) - 0) + 1) 0 (by (try simp only [List.length_append, List.length_cons, List.length_nil, Int.toNat_zero]); omega) (by (try simp only [List.length_append, List.length_cons, List.length_nil, Int.toNat_zero]); omega)

/-- facet/sound.check at ('L',) -/
def F60_L (a0 : List (((Int × Int × Int) × (Int × Int × Int) × Int × Int × Int) × Int × Int)) (a1 : Bool) : Int :=
  (bif (((F126_L a0) : Int) != 0) then
   (F126_L a0)
  else
   (bif (!a1) then
    1
   else
    0))

noncomputable def oC60_L_0 (a0 : List (((Int × Int × Int) × (Int × Int × Int) × Int × Int × Int) × Int × Int)) : Ob := .call 126 [(.s 0 0 a0.length 11)] [(.live false true (flat c67 a0))] (iv (F126_L a0)) []
theorem C60_L (a0 : List (((Int × Int × Int) × (Int × Int × Int) × Int × Int × Int) × Int × Int)) (a1 : Bool) (l0 : a0.length ≤ 9223372036854775807) : Con Tryz.prog 60 [(.s 0 0 a0.length 11), (.v (.bool a1))] [(.live false true (flat c67 a0))] (iv (F60_L a0 a1)) [] := by
  cases h0 : (((F126_L a0) : Int) != 0) with
  | true =>
    have q0 := bne_iff_ne.1 h0
    have e : (F60_L a0 a1) = (F126_L a0) := by simp only [F60_L, h0, cond_true, cond_false]
    rw [e]
    refine con_of (n := 9) Tryz.func60 rfl (ent Tryz.func60 (by kernel_rfl) rfl) (by show 2 ≤ Tryz.f60.ntmps; decide) (by kernel_rfl) ⟨rfl, trivial⟩ (fun cx hcx => ?_)
    exact ret_of (T := T0) hT hm (f := 5000) (orc := [.call [0] (iv (F126_L a0)) [], .d true]) [] [] [] hcx
      (obs := [(oC60_L_0 a0), .eq (((F126_L a0) : Int) != 0) true]) (by kernel_rfl) ⟨(C126_L a0 (by (try simp only [List.length_append, List.length_cons, List.length_nil, Int.toNat_zero]); omega)), h0, trivial⟩
  | false =>
    cases h1 : (!a1) with
    | true =>
      have q0 := bne_eq_false_iff_eq.1 h0
      have e : (F60_L a0 a1) = 1 := by simp only [F60_L, h0, h1, cond_true, cond_false]
      rw [e]
      refine con_of (n := 9) Tryz.func60 rfl (ent Tryz.func60 (by kernel_rfl) rfl) (by show 2 ≤ Tryz.f60.ntmps; decide) (by kernel_rfl) ⟨rfl, trivial⟩ (fun cx hcx => ?_)
      exact ret_of (T := T0) hT hm (f := 5000) (orc := [.call [0] (iv (F126_L a0)) [], .d false, .d true]) [] [] [] hcx
        (obs := [(oC60_L_0 a0), .eq (((F126_L a0) : Int) != 0) false, .eq (!a1) true]) (by kernel_rfl) ⟨(C126_L a0 (by (try simp only [List.length_append, List.length_cons, List.length_nil, Int.toNat_zero]); omega)), h0, h1, trivial⟩
    | false =>
      have q0 := bne_eq_false_iff_eq.1 h0
      have e : (F60_L a0 a1) = 0 := by simp only [F60_L, h0, h1, cond_true, cond_false]
      rw [e]
      refine con_of (n := 9) Tryz.func60 rfl (ent Tryz.func60 (by kernel_rfl) rfl) (by show 2 ≤ Tryz.f60.ntmps; decide) (by kernel_rfl) ⟨rfl, trivial⟩ (fun cx hcx => ?_)
      exact ret_of (T := T0) hT hm (f := 5000) (orc := [.call [0] (iv (F126_L a0)) [], .d false, .d false]) [] [] [] hcx
        (obs := [(oC60_L_0 a0), .eq (((F126_L a0) : Int) != 0) false, .eq (!a1) false]) (by kernel_rfl) ⟨(C126_L a0 (by (try simp only [List.length_append, List.length_cons, List.length_nil, Int.toNat_zero]); omega)), h0, h1, trivial⟩

noncomputable def B61_L_0 : Code := (loopAtD [1, 1, 0, 1] [] (Tryz.f61.body.getD .skip) []).1
noncomputable def K61_L_0 : List K := (loopAtD [1, 1, 0, 1] [] (Tryz.f61.body.getD .skip) []).2

/-- a round of loop 0 of facet/facetref08.ValidatePulses; the variables: v1 = s3 -/
def S61_L_0 (a0 : List (((Int × Int × Int) × (Int × Int × Int) × Int × Int × Int) × Int × Int)) : Int → (Int) ⊕ (Int)
  | v1 =>
   (bif (decide ((v1 : Int) < ((a0.length : Nat) : Int))) then
    (bif (((F127 (a0.getD (Int.toNat v1) default)) : Int) != 0) then
     (.inr (F127 (a0.getD (Int.toNat v1) default)))
    else
     (.inl (v1 + 1)))
   else
    (.inr 0))

set_option maxHeartbeats 4000000 in
theorem L61_L_0 (a0 : List (((Int × Int × Int) × (Int × Int × Int) × Int × Int × Int) × Int × Int)) (l0 : a0.length ≤ 9223372036854775807) {cx : Cx} (hcx : cx.base = 1) : ∀ (n : Nat) (v1 : Int), 0 ≤ v1 → Int.toNat (((a0.length : Nat) : Int) - v1) < n → Aw.Good Tryz.prog none 9 (bodyPost Tryz.prog Tryz.f61 (RR cx (iv (loopF (S61_L_0 a0) n v1)) [] [])) cx [] (.l B61_L_0 n :: K61_L_0) ⟨[(.s 0 0 a0.length 11), .u, .u, (iv v1), .u, .u, .u, .u, .u, .u, .u, .u, .u, .u, .u, .u, .u, .u, .u, .u, .u, .u], [(.live false true (flat c67 a0))]⟩ := by
  intro n
  induction n with
  | zero => intro v1 hi hn; exact absurd hn (Nat.not_lt_zero _)
  | succ n ih =>
    intro v1 hi hn
    refine good_round ?_
    cases h0 : (decide ((v1 : Int) < ((a0.length : Nat) : Int))) with
    | true =>
      cases h1 : (((F127 (a0.getD (Int.toNat v1) default)) : Int) != 0) with
      | true =>
        have q0 := of_decide_eq_true h0
        have q1 := bne_iff_ne.1 h1
        have e : S61_L_0 a0 v1 = (.inr (F127 (a0.getD (Int.toNat v1) default))) := by simp only [S61_L_0, h0, h1, cond_true, cond_false]
        rw [show loopF (S61_L_0 a0) (n + 1) v1 = thenF (S61_L_0 a0) n (S61_L_0 a0 v1) from rfl, e]
        exact ret_of (T := T0) hT hm (f := 5000) (orc := [.d true, .ld [(iv (a0.getD (Int.toNat v1) default).1.1.1), (iv (a0.getD (Int.toNat v1) default).1.1.2.1), (iv (a0.getD (Int.toNat v1) default).1.1.2.2), (iv (a0.getD (Int.toNat v1) default).1.2.1.1), (iv (a0.getD (Int.toNat v1) default).1.2.1.2.1), (iv (a0.getD (Int.toNat v1) default).1.2.1.2.2), (iv (a0.getD (Int.toNat v1) default).1.2.2.1), (iv (a0.getD (Int.toNat v1) default).1.2.2.2.1), (iv (a0.getD (Int.toNat v1) default).1.2.2.2.2), (iv (a0.getD (Int.toNat v1) default).2.1), (iv (a0.getD (Int.toNat v1) default).2.2)], .call [] (iv (F127 (a0.getD (Int.toNat v1) default))) [], .d true]) [] [] [] hcx
          (obs := [.eq (decide ((v1 : Int) < ((a0.length : Nat) : Int))) true, .pr (0 ≤ (v1 : Int) ∧ (v1 : Int) < ((a0.length : Nat) : Int)), .pr (((((flat c67 a0)).drop (0 + Int.toNat v1 * 11)).take 11) = [(iv (a0.getD (Int.toNat v1) default).1.1.1), (iv (a0.getD (Int.toNat v1) default).1.1.2.1), (iv (a0.getD (Int.toNat v1) default).1.1.2.2), (iv (a0.getD (Int.toNat v1) default).1.2.1.1), (iv (a0.getD (Int.toNat v1) default).1.2.1.2.1), (iv (a0.getD (Int.toNat v1) default).1.2.1.2.2), (iv (a0.getD (Int.toNat v1) default).1.2.2.1), (iv (a0.getD (Int.toNat v1) default).1.2.2.2.1), (iv (a0.getD (Int.toNat v1) default).1.2.2.2.2), (iv (a0.getD (Int.toNat v1) default).2.1), (iv (a0.getD (Int.toNat v1) default).2.2)]), .call 127 [(.a [(iv (a0.getD (Int.toNat v1) default).1.1.1), (iv (a0.getD (Int.toNat v1) default).1.1.2.1), (iv (a0.getD (Int.toNat v1) default).1.1.2.2), (iv (a0.getD (Int.toNat v1) default).1.2.1.1), (iv (a0.getD (Int.toNat v1) default).1.2.1.2.1), (iv (a0.getD (Int.toNat v1) default).1.2.1.2.2), (iv (a0.getD (Int.toNat v1) default).1.2.2.1), (iv (a0.getD (Int.toNat v1) default).1.2.2.2.1), (iv (a0.getD (Int.toNat v1) default).1.2.2.2.2), (iv (a0.getD (Int.toNat v1) default).2.1), (iv (a0.getD (Int.toNat v1) default).2.2)])] [] (iv (F127 (a0.getD (Int.toNat v1) default))) [], .eq (((F127 (a0.getD (Int.toNat v1) default)) : Int) != 0) true]) (by kernel_rfl) ⟨h0, (show 0 ≤ (v1 : Int) ∧ (v1 : Int) < ((a0.length : Nat) : Int) from by first | omega | (rw [W_eq] <;> omega) | exact u64_nn _), (ld_part c67_len default a0 v1 0 11 (by omega) (by decide) (by omega) rfl), (C127 (a0.getD (Int.toNat v1) default)), h1, trivial⟩
      | false =>
        have q0 := of_decide_eq_true h0
        have q1 := bne_eq_false_iff_eq.1 h1
        have e : S61_L_0 a0 v1 = (.inl (v1 + 1)) := by simp only [S61_L_0, h0, h1, cond_true, cond_false]
        rw [loopF_inl e]
        refine back_of (T := T0) hT hm (f := 5000) (orc := [.d true, .ld [(iv (a0.getD (Int.toNat v1) default).1.1.1), (iv (a0.getD (Int.toNat v1) default).1.1.2.1), (iv (a0.getD (Int.toNat v1) default).1.1.2.2), (iv (a0.getD (Int.toNat v1) default).1.2.1.1), (iv (a0.getD (Int.toNat v1) default).1.2.1.2.1), (iv (a0.getD (Int.toNat v1) default).1.2.1.2.2), (iv (a0.getD (Int.toNat v1) default).1.2.2.1), (iv (a0.getD (Int.toNat v1) default).1.2.2.2.1), (iv (a0.getD (Int.toNat v1) default).1.2.2.2.2), (iv (a0.getD (Int.toNat v1) default).2.1), (iv (a0.getD (Int.toNat v1) default).2.2)], .call [] (iv (F127 (a0.getD (Int.toNat v1) default))) [], .d false]) [] [0, 3] [] hcx (body := B61_L_0) (m := n) (k' := K61_L_0) (s' := ⟨[(.s 0 0 a0.length 11), .u, .u, (iv (W (v1 + 1))), .u, .u, .u, .u, .u, .u, .u, .u, .u, .u, .u, .u, .u, .u, .u, .u, .u, .u], [(.live false true (flat c67 a0))]⟩)
          (obs := [.eq (decide ((v1 : Int) < ((a0.length : Nat) : Int))) true, .pr (0 ≤ (v1 : Int) ∧ (v1 : Int) < ((a0.length : Nat) : Int)), .pr (((((flat c67 a0)).drop (0 + Int.toNat v1 * 11)).take 11) = [(iv (a0.getD (Int.toNat v1) default).1.1.1), (iv (a0.getD (Int.toNat v1) default).1.1.2.1), (iv (a0.getD (Int.toNat v1) default).1.1.2.2), (iv (a0.getD (Int.toNat v1) default).1.2.1.1), (iv (a0.getD (Int.toNat v1) default).1.2.1.2.1), (iv (a0.getD (Int.toNat v1) default).1.2.1.2.2), (iv (a0.getD (Int.toNat v1) default).1.2.2.1), (iv (a0.getD (Int.toNat v1) default).1.2.2.2.1), (iv (a0.getD (Int.toNat v1) default).1.2.2.2.2), (iv (a0.getD (Int.toNat v1) default).2.1), (iv (a0.getD (Int.toNat v1) default).2.2)]), .call 127 [(.a [(iv (a0.getD (Int.toNat v1) default).1.1.1), (iv (a0.getD (Int.toNat v1) default).1.1.2.1), (iv (a0.getD (Int.toNat v1) default).1.1.2.2), (iv (a0.getD (Int.toNat v1) default).1.2.1.1), (iv (a0.getD (Int.toNat v1) default).1.2.1.2.1), (iv (a0.getD (Int.toNat v1) default).1.2.1.2.2), (iv (a0.getD (Int.toNat v1) default).1.2.2.1), (iv (a0.getD (Int.toNat v1) default).1.2.2.2.1), (iv (a0.getD (Int.toNat v1) default).1.2.2.2.2), (iv (a0.getD (Int.toNat v1) default).2.1), (iv (a0.getD (Int.toNat v1) default).2.2)])] [] (iv (F127 (a0.getD (Int.toNat v1) default))) [], .eq (((F127 (a0.getD (Int.toNat v1) default)) : Int) != 0) false]) (by kernel_rfl) ⟨h0, (show 0 ≤ (v1 : Int) ∧ (v1 : Int) < ((a0.length : Nat) : Int) from by first | omega | (rw [W_eq] <;> omega) | exact u64_nn _), (ld_part c67_len default a0 v1 0 11 (by omega) (by decide) (by omega) rfl), (C127 (a0.getD (Int.toNat v1) default)), h1, trivial⟩ ?_
        have z0 : (W (v1 + 1)) = (v1 + 1) := W_eq (by omega) (by omega)
        rw [z0]
        exact ih (v1 + 1) (by (try simp only [List.length_append, List.length_cons, List.length_nil, Int.toNat_zero]); omega) (by (try simp only [List.length_append, List.length_cons, List.length_nil, Int.toNat_zero]); omega)
    | false =>
      have q0 := of_decide_eq_false h0
      have e : S61_L_0 a0 v1 = (.inr 0) := by simp only [S61_L_0, h0, cond_true, cond_false]
      rw [show loopF (S61_L_0 a0) (n + 1) v1 = thenF (S61_L_0 a0) n (S61_L_0 a0 v1) from rfl, e]
      exact ret_of (T := T0) hT hm (f := 5000) (orc := [.d false]) [] [] [] hcx
        (obs := [.eq (decide ((v1 : Int) < ((a0.length : Nat) : Int))) false]) (by kernel_rfl) ⟨h0, trivial⟩

/-- facet/facetref08.ValidatePulses at ('L',) -/
def F61_L (a0 : List (((Int × Int × Int) × (Int × Int × Int) × Int × Int × Int) × Int × Int)) : Int :=
  (bif (decide ((((a0.length : Nat) : Int) : Int) > 16)) then
   4
  else
   (loopF (S61_L_0 a0) (Int.toNat (((a0.length : Nat) : Int) - 0) + 1) 0))

theorem C61_L (a0 : List (((Int × Int × Int) × (Int × Int × Int) × Int × Int × Int) × Int × Int)) (l0 : a0.length ≤ 9223372036854775807) : Con Tryz.prog 61 [(.s 0 0 a0.length 11)] [(.live false true (flat c67 a0))] (iv (F61_L a0)) [] := by
  cases h0 : (decide ((((a0.length : Nat) : Int) : Int) > 16)) with
  | true =>
    have q0 := of_decide_eq_true h0
    have e : (F61_L a0) = 4 := by simp only [F61_L, h0, cond_true, cond_false]
    rw [e]
    refine con_of (n := 9) Tryz.func61 rfl (ent Tryz.func61 (by kernel_rfl) rfl) (by show 1 ≤ Tryz.f61.ntmps; decide) (by kernel_rfl) ⟨rfl, trivial⟩ (fun cx hcx => ?_)
    exact ret_of (T := T0) hT hm (f := 5000) (orc := [.d true]) [] [] [] hcx
      (obs := [.eq (decide ((((a0.length : Nat) : Int) : Int) > 16)) true]) (by kernel_rfl) ⟨h0, trivial⟩
  | false =>
    have q0 := of_decide_eq_false h0
    have e : (F61_L a0) = (loopF (S61_L_0 a0) (Int.toNat (((a0.length : Nat) : Int) - 0) + 1) 0) := by simp only [F61_L, h0, cond_true, cond_false]
    rw [e]
    refine con_of (n := 9) Tryz.func61 rfl (ent Tryz.func61 (by kernel_rfl) rfl) (by show 1 ≤ Tryz.f61.ntmps; decide) (by kernel_rfl) ⟨rfl, trivial⟩ (fun cx hcx => ?_)
    refine enter_of (T := T0) hT hm (f := 5000) (orc := [.d false]) [] [0, 3] [] hcx (body := B61_L_0) (k' := K61_L_0) (s' := ⟨[(.s 0 0 a0.length 11), .u, .u, (iv 0), .u, .u, .u, .u, .u, .u, .u, .u, .u, .u, .u, .u, .u, .u, .u, .u, .u, .u], [(.live false true (flat c67 a0))]⟩)
      (obs := [.eq (decide ((((a0.length : Nat) : Int) : Int) > 16)) false]) (by kernel_rfl) ⟨h0, trivial⟩ ⟨Int.toNat (((a0.length : Nat) : Int) - 0) + 1, ?_⟩
    exact L61_L_0 a0 l0 hcx (Int.toNat (((a0.length : Nat) : Int) - 0) + 1) 0 (by (try simp only [List.length_append, List.length_cons, List.length_nil, Int.toNat_zero]); omega) (by (try simp only [List.length_append, List.length_cons, List.length_nil, Int.toNat_zero]); omega)

theorem vprL_len {l : List PU} (h : ((F61_L l : Int) != 0) = false) : l.length ≤ 16 := by
  have h := bne_eq_false_iff_eq.1 h
  rcases Nat.lt_or_ge 16 l.length with h' | h'
  · exfalso
    unfold F61_L at h
    rw [decide_eq_true (by omega), cond_true] at h
    exact absurd h (by decide)
  · exact h'
theorem chkL_0 {l : List PU} {b : Bool} (h : ((F60_L l b : Int) != 0) = false) : F126_L l = 0 ∧ b = true := by
  have h := bne_eq_false_iff_eq.1 h
  unfold F60_L at h
  cases h1 : ((F126_L l : Int) != 0) with
  | true => rw [h1, cond_true] at h; exact absurd h (bne_iff_ne.1 h1)
  | false =>
    rw [h1, cond_false] at h
    refine ⟨bne_eq_false_iff_eq.1 h1, ?_⟩
    cases b with
    | true => rfl
    | false => exact absurd h (by decide)
/-! ### slices.Clone -/
end Go.Proofs.YtnkeljlllagddaaGreat

namespace Go.Proofs.YtnkeljlllagddaaGreat
open Go.Proofs Go.Aw Go.RowKit
set_option maxRecDepth 100000
set_option linter.unusedVariables false
set_option linter.unusedSimpArgs false

/-! ### Lists of pulses: which are valid, the delayed ones -/
def fe {α : Type} (g : α → Int) : List α → Int
  | [] => 0
  | c :: l => if g c = 0 then fe g l else g c
theorem fe_0 {α : Type} {g : α → Int} : ∀ {l : List α}, fe g l = 0 ↔ ∀ c ∈ l, g c = 0
  | [] => by simp [fe]
  | c :: l => by
    unfold fe
    by_cases h : g c = 0
    · rw [if_pos h, fe_0]; simp [h]
    · rw [if_neg h]; simp [h]
theorem fe_loopF {α R : Type} [Inhabited R] {g : α → Int} {S : Int → Int ⊕ R} {L : List α} {E : Int → R} {G : R}
    (hS : ∀ (i : Nat) (c : α), L[i]? = some c → S (i : Int) = if g c = 0 then .inl ((i + 1 : Nat) : Int) else .inr (E (g c)))
    (hE : S (L.length : Int) = .inr G) : ∀ (k : List α) (i n : Nat), L.drop i = k → i ≤ L.length → k.length < n → loopF S n (i : Int) = if fe g k = 0 then G else E (fe g k)
  | [], i, n, hd, hi', hn => by
    have : i = L.length := by have := List.drop_eq_nil_iff.1 hd; omega
    obtain ⟨n, rfl⟩ : ∃ m, n = m + 1 := ⟨n - 1, by simp only [List.length_nil] at hn; omega⟩
    subst this
    rw [loopF_inr hE]; rfl
  | c :: k, i, n, hd, hi', hn => by
    have hc : L[i]? = some c := by
      have : (L.drop i)[0]? = some c := by rw [hd]; rfl
      simpa using this
    obtain ⟨hlt, hce⟩ := List.getElem?_eq_some_iff.1 hc
    obtain ⟨n, rfl⟩ : ∃ m, n = m + 1 := ⟨n - 1, by omega⟩
    have h1 := hS i c hc
    unfold fe
    by_cases h : g c = 0
    · rw [if_pos h] at h1
      rw [loopF_inl h1, if_pos h]
      exact fe_loopF hS hE k (i + 1) n (by rw [← List.drop_drop, hd]; rfl) (by omega) (by simp only [List.length_cons] at hn; omega)
    · rw [if_neg h] at h1
      rw [loopF_inr h1, if_neg h, if_neg h]
theorem getD_some {α : Type} [Inhabited α] {l : List α} {i : Nat} {c : α} (h : l[i]? = some c) : l.getD i default = c ∧ i < l.length := by
  obtain ⟨hlt, _⟩ := List.getElem?_eq_some_iff.1 h
  exact ⟨by rw [List.getD_eq_getElem?_getD, h]; rfl, hlt⟩
/-- the first error of pulses -/
noncomputable def vpL (l : List PU) : Int := if 16 < l.length then 4 else fe pv l
theorem pv_step {R : Type} (p : PU) (a : R) (E : Int → R) : (bif ((vp p.1 : Int) != 0) then E (vp p.1) else (bif (!(decide (0 ≤ p.2.1 ∧ p.2.1 ≤ 1000))) then E 1 else (bif (!(decide (-100 ≤ p.2.2 ∧ p.2.2 ≤ 100))) then E 1 else a))) = if pv p = 0 then a else E (pv p) := by
  unfold pv
  by_cases h : vp p.1 = 0
  · rw [h]
    by_cases h1 : 0 ≤ p.2.1 ∧ p.2.1 ≤ 1000 <;> by_cases h2 : -100 ≤ p.2.2 ∧ p.2.2 ≤ 100 <;> simp [h1, h2]
  · rw [if_neg h, if_neg h, bne_iff_ne.2 h]; rfl
theorem vpl_f (l : List PU) : F126_L l = vpL l := by
  unfold F126_L vpL
  by_cases h : 16 < l.length
  · rw [decide_eq_true (by omega), if_pos h]; rfl
  · rw [decide_eq_false (by omega), if_neg h, cond_false]
    have key := fe_loopF (g := pv) (S := S126_L_0 l) (L := l) (E := id) (G := 0) (fun i c hi => ?_) ?_ l 0 (Int.toNat (((l.length : Nat) : Int) - 0) + 1) rfl (Nat.zero_le _) (by omega)
    · refine Eq.trans key ?_
      split
      · rename_i h0; exact h0.symm
      · rfl
    · obtain ⟨hg, hlt⟩ := getD_some hi
      simp only [S126_L_0]
      rw [decide_eq_true (show ((i : Nat) : Int) < (l.length : Nat) by omega), cond_true, Int.toNat_natCast, hg, vp_s, sfrom_eq, sfrom_eq]
      exact pv_step c _ (fun e => Sum.inr (id e))
    · simp only [S126_L_0]
      rw [decide_eq_false (Int.lt_irrefl _), cond_false]
theorem vpl_r (l : List PU) : F61_L l = vpL l := by
  unfold F61_L vpL
  by_cases h : 16 < l.length
  · rw [decide_eq_true (by omega), if_pos h]; rfl
  · rw [decide_eq_false (by omega), if_neg h, cond_false]
    have key := fe_loopF (g := pv) (S := S61_L_0 l) (L := l) (E := id) (G := 0) (fun i c hi => ?_) ?_ l 0 (Int.toNat (((l.length : Nat) : Int) - 0) + 1) rfl (Nat.zero_le _) (by omega)
    · refine Eq.trans key ?_
      split
      · rename_i h0; exact h0.symm
      · rfl
    · obtain ⟨hg, hlt⟩ := getD_some hi
      simp only [S61_L_0]
      rw [decide_eq_true (show ((i : Nat) : Int) < (l.length : Nat) by omega), cond_true, Int.toNat_natCast, hg, one_e]
      by_cases h0 : pv c = 0
      · rw [if_pos h0, h0]; rfl
      · rw [if_neg h0, bne_iff_ne.2 h0]; rfl
    · simp only [S61_L_0]
      rw [decide_eq_false (Int.lt_irrefl _), cond_false]
theorem chkL_f (l : List PU) (b : Bool) : F60_L l b = if vpL l = 0 then (if b = true then 0 else 1) else vpL l := by
  unfold F60_L
  rw [vpl_f]
  by_cases h : vpL l = 0
  · rw [h]; cases b <;> simp
  · rw [bne_iff_ne.2 h, if_neg h]; rfl
theorem vpL_ok {l : List PU} (h : vpL l = 0) : l.length ≤ 16 ∧ ∀ p ∈ l, POK p := by
  unfold vpL at h
  split at h
  · exact absurd h (by decide)
  · exact ⟨by omega, fun p hp => pv_ok.1 (fe_0.1 h p hp)⟩
/-! equal lists -/
/-! later pulses -/
end Go.Proofs.YtnkeljlllagddaaGreat

namespace Go.Proofs.YtnkeljlllagddaaGreat
open Go.Proofs Go.Aw Go.RowKit
set_option maxRecDepth 100000
set_option linter.unusedVariables false
set_option linter.unusedSimpArgs false

end Go.Proofs.YtnkeljlllagddaaGreat

namespace Go.Proofs.YtnkeljlllagddaaGreat
open Go.Proofs Go.Aw Go.RowKit
set_option maxRecDepth 100000
set_option linter.unusedVariables false
set_option linter.unusedSimpArgs false

/-! ### Images behind a wall -/
def bz (p : PU) : Prop := p.1.1.2.2 < 0 ∨ p.1.2.1.2.2 < 0 ∨ p.1.2.2.2.2 < 0
instance (p : PU) : Decidable (bz p) := by unfold bz; exact inferInstance
end Go.Proofs.YtnkeljlllagddaaGreat

namespace Go.Proofs.YtnkeljlllagddaaGreat
open Go.Proofs Go.Aw Go.RowKit
set_option maxRecDepth 100000
set_option linter.unusedVariables false
set_option linter.unusedSimpArgs false

theorem vpL_get {l : List PU} (h : vpL l = 0) {i : Nat} (hi : i < l.length) : POK (l.getD i default) := by
  have : l.getD i default = l[i] := by rw [List.getD_eq_getElem?_getD, List.getElem?_eq_getElem hi]; rfl
  rw [this]
  exact (vpL_ok h).2 _ (List.getElem_mem hi)
theorem ckL_v {l : List PU} {b : Bool} (h : ((F60_L l b : Int) != 0) = false) : vpL l = 0 := by
  have := (chkL_0 h).1
  rw [vpl_f] at this; exact this
theorem ckL_b {l : List PU} {b : Bool} (h : ((F60_L l b : Int) != 0) = false) : b = true := (chkL_0 h).2

/-- facet/sound.scene$1 -/
def F122 (a0 : ((Int × Int × Int) × (Int × Int × Int) × Int × Int × Int) × Int × Int) (a1 : Int × Int × Int) (a2 : Int) (a3 : Int) (a4 : Int) : (Int × Int) × Int :=
  ((F116 a0 a1 a2 a3 a4).1, (F116 a0 a1 a2 a3 a4).2)

theorem C122 (a0 : ((Int × Int × Int) × (Int × Int × Int) × Int × Int × Int) × Int × Int) (a1 : Int × Int × Int) (a2 : Int) (a3 : Int) (a4 : Int) (hp : POK a0) (hx : bd 256 a1) (hs : 1 ≤ a2 ∧ a2 ≤ 16) (ht : 0 ≤ a3 ∧ a3 ≤ 2000) (hd : 0 ≤ a4 ∧ a4 ≤ 3) : Con Tryz.prog 122 [(.a [(iv a0.1.1.1), (iv a0.1.1.2.1), (iv a0.1.1.2.2), (iv a0.1.2.1.1), (iv a0.1.2.1.2.1), (iv a0.1.2.1.2.2), (iv a0.1.2.2.1), (iv a0.1.2.2.2.1), (iv a0.1.2.2.2.2), (iv a0.2.1), (iv a0.2.2)]), (.p 0 0), (.p 1 0), (.p 2 0), (.p 3 0)] [(.live false false (k3 a1)), (.live false false [(iv a2)]), (.live false false [(iv a3)]), (.live false false [(iv a4)])] (.t [(.a (k2 (F122 a0 a1 a2 a3 a4).1)), (iv (F122 a0 a1 a2 a3 a4).2)]) [] := by
  have e : (F122 a0 a1 a2 a3 a4) = ((F116 a0 a1 a2 a3 a4).1, (F116 a0 a1 a2 a3 a4).2) := by simp only [F122]
  rw [e]
  refine con_of (n := 9) Tryz.func122 rfl (ent Tryz.func122 (by kernel_rfl) rfl) (by show 5 ≤ Tryz.f122.ntmps; decide) (by kernel_rfl) ⟨rfl, rfl, rfl, rfl, trivial⟩ (fun cx hcx => ?_)
  exact ret_of (T := T0) hT hm (f := 5000) (orc := [.call [] (.t [(.a (k2 (F116 a0 a1 a2 a3 a4).1)), (iv (F116 a0 a1 a2 a3 a4).2)]) []]) [] [] [] hcx
    (obs := [.call 116 [(.a [(iv a0.1.1.1), (iv a0.1.1.2.1), (iv a0.1.1.2.2), (iv a0.1.2.1.1), (iv a0.1.2.1.2.1), (iv a0.1.2.1.2.2), (iv a0.1.2.2.1), (iv a0.1.2.2.2.1), (iv a0.1.2.2.2.2), (iv a0.2.1), (iv a0.2.2)]), (.a (k3 a1)), (iv a2), (iv a3), (iv a4)] [] (.t [(.a (k2 (F116 a0 a1 a2 a3 a4).1)), (iv (F116 a0 a1 a2 a3 a4).2)]) []]) (by kernel_rfl) ⟨(C116 a0 a1 a2 a3 a4  hp hx hs ht hd), trivial⟩

noncomputable def B62_L_c122_0 : Code := (loopAtD [1, 1, 0, 1] [] (Tryz.f62.body.getD .skip) []).1
noncomputable def K62_L_c122_0 : List K := (loopAtD [1, 1, 0, 1] [] (Tryz.f62.body.getD .skip) []).2

/-- a round of loop 0 of facet/sound.sum; the variables: v2 = s6, v3 = s13 -/
def S62_L_c122_0 (a0 : List (((Int × Int × Int) × (Int × Int × Int) × Int × Int × Int) × Int × Int)) (a1_0 : Int × Int × Int) (a1_1 : Int) (a1_2 : Int) (a1_3 : Int) : (List (Int × Int)) × Int → ((List (Int × Int)) × Int) ⊕ ((Int × Int) × Int)
  | (v2, v3) =>
   (bif (decide ((v3 : Int) < ((a0.length : Nat) : Int))) then
    (bif (((F122 (a0.getD (Int.toNat v3) default) a1_0 a1_1 a1_2 a1_3).2 : Int) != 0) then
     (.inr ((0, 0), (F122 (a0.getD (Int.toNat v3) default) a1_0 a1_1 a1_2 a1_3).2))
    else
     (.inl ((v2 ++ [(F122 (a0.getD (Int.toNat v3) default) a1_0 a1_1 a1_2 a1_3).1]), (v3 + 1))))
   else
    (.inr ((F73_L v2).1, (F73_L v2).2)))

set_option maxHeartbeats 4000000 in
theorem L62_L_c122_0 (a0 : List (((Int × Int × Int) × (Int × Int × Int) × Int × Int × Int) × Int × Int)) (a1_0 : Int × Int × Int) (a1_1 : Int) (a1_2 : Int) (a1_3 : Int) (l0 : a0.length ≤ 9223372036854775807) (hv : vpL a0 = 0) (hx : bd 256 a1_0) (hs : 1 ≤ a1_1 ∧ a1_1 ≤ 16) (ht : 0 ≤ a1_2 ∧ a1_2 ≤ 2000) (hd : 0 ≤ a1_3 ∧ a1_3 ≤ 3) {cx : Cx} (hcx : cx.base = 5) : ∀ (n : Nat) (v2 : List (Int × Int)) (v3 : Int), (0 ≤ v3) ∧ (v2.length = Int.toNat v3) ∧ (v3 ≤ a0.length) → Int.toNat (((a0.length : Nat) : Int) - v3) < n → Aw.Good Tryz.prog none 9 (bodyPost Tryz.prog Tryz.f62 (RR cx (.t [(.a (k2 (loopF (S62_L_c122_0 a0 a1_0 a1_1 a1_2 a1_3) n (v2, v3)).1)), (iv (loopF (S62_L_c122_0 a0 a1_0 a1_1 a1_2 a1_3) n (v2, v3)).2)]) [] [])) cx [] (.l B62_L_c122_0 n :: K62_L_c122_0) ⟨[.u, (.f 122 [(.p 1 0), (.p 2 0), (.p 3 0), (.p 4 0)]), .u, .u, (.p 5 0), .u, (.s 6 0 v2.length 2), .u, .u, .u, .u, (.s 0 0 a0.length 11), (iv ((a0.length : Nat) : Int)), (iv v3), .u, .u, .u, .u, .u, .u, .u, .u, .u, .u, .u, .u, .u, .u, .u, .u, .u, .u, .u, .u, .u, .u], [(.live false true (flat c67 a0)), (.live false false (k3 a1_0)), (.live false false [(iv a1_1)]), (.live false false [(iv a1_2)]), (.live false false [(iv a1_3)]), (.live true false [(iv 0), (iv 0)]), (.live true true (flat c29 v2))]⟩ := by
  intro n
  induction n with
  | zero => intro v2 v3 hi hn; exact absurd hn (Nat.not_lt_zero _)
  | succ n ih =>
    intro v2 v3 hi hn
    refine good_round ?_
    cases h0 : (decide ((v3 : Int) < ((a0.length : Nat) : Int))) with
    | true =>
      cases h1 : (((F122 (a0.getD (Int.toNat v3) default) a1_0 a1_1 a1_2 a1_3).2 : Int) != 0) with
      | true =>
        have q0 := of_decide_eq_true h0
        have q1 := bne_iff_ne.1 h1
        have hl16 := (vpL_ok hv).1
        have e : S62_L_c122_0 a0 a1_0 a1_1 a1_2 a1_3 (v2, v3) = (.inr ((0, 0), (F122 (a0.getD (Int.toNat v3) default) a1_0 a1_1 a1_2 a1_3).2)) := by simp only [S62_L_c122_0, h0, h1, cond_true, cond_false]
        rw [show loopF (S62_L_c122_0 a0 a1_0 a1_1 a1_2 a1_3) (n + 1) (v2, v3) = thenF (S62_L_c122_0 a0 a1_0 a1_1 a1_2 a1_3) n (S62_L_c122_0 a0 a1_0 a1_1 a1_2 a1_3 (v2, v3)) from rfl, e]
        exact ret_of (T := T0) hT hm (f := 5000) (orc := [.d true, .ld [(iv (a0.getD (Int.toNat v3) default).1.1.1), (iv (a0.getD (Int.toNat v3) default).1.1.2.1), (iv (a0.getD (Int.toNat v3) default).1.1.2.2), (iv (a0.getD (Int.toNat v3) default).1.2.1.1), (iv (a0.getD (Int.toNat v3) default).1.2.1.2.1), (iv (a0.getD (Int.toNat v3) default).1.2.1.2.2), (iv (a0.getD (Int.toNat v3) default).1.2.2.1), (iv (a0.getD (Int.toNat v3) default).1.2.2.2.1), (iv (a0.getD (Int.toNat v3) default).1.2.2.2.2), (iv (a0.getD (Int.toNat v3) default).2.1), (iv (a0.getD (Int.toNat v3) default).2.2)], .call [1, 2, 3, 4] (.t [(.a (k2 (F122 (a0.getD (Int.toNat v3) default) a1_0 a1_1 a1_2 a1_3).1)), (iv (F122 (a0.getD (Int.toNat v3) default) a1_0 a1_1 a1_2 a1_3).2)]) [], .d true]) [] [] [] hcx
          (obs := [.eq (decide ((v3 : Int) < ((a0.length : Nat) : Int))) true, .pr (0 ≤ (v3 : Int) ∧ (v3 : Int) < ((a0.length : Nat) : Int)), .pr (((((flat c67 a0)).drop (0 + Int.toNat v3 * 11)).take 11) = [(iv (a0.getD (Int.toNat v3) default).1.1.1), (iv (a0.getD (Int.toNat v3) default).1.1.2.1), (iv (a0.getD (Int.toNat v3) default).1.1.2.2), (iv (a0.getD (Int.toNat v3) default).1.2.1.1), (iv (a0.getD (Int.toNat v3) default).1.2.1.2.1), (iv (a0.getD (Int.toNat v3) default).1.2.1.2.2), (iv (a0.getD (Int.toNat v3) default).1.2.2.1), (iv (a0.getD (Int.toNat v3) default).1.2.2.2.1), (iv (a0.getD (Int.toNat v3) default).1.2.2.2.2), (iv (a0.getD (Int.toNat v3) default).2.1), (iv (a0.getD (Int.toNat v3) default).2.2)]), .call 122 [(.a [(iv (a0.getD (Int.toNat v3) default).1.1.1), (iv (a0.getD (Int.toNat v3) default).1.1.2.1), (iv (a0.getD (Int.toNat v3) default).1.1.2.2), (iv (a0.getD (Int.toNat v3) default).1.2.1.1), (iv (a0.getD (Int.toNat v3) default).1.2.1.2.1), (iv (a0.getD (Int.toNat v3) default).1.2.1.2.2), (iv (a0.getD (Int.toNat v3) default).1.2.2.1), (iv (a0.getD (Int.toNat v3) default).1.2.2.2.1), (iv (a0.getD (Int.toNat v3) default).1.2.2.2.2), (iv (a0.getD (Int.toNat v3) default).2.1), (iv (a0.getD (Int.toNat v3) default).2.2)]), (.p 0 0), (.p 1 0), (.p 2 0), (.p 3 0)] [(.live false false (k3 a1_0)), (.live false false [(iv a1_1)]), (.live false false [(iv a1_2)]), (.live false false [(iv a1_3)])] (.t [(.a (k2 (F122 (a0.getD (Int.toNat v3) default) a1_0 a1_1 a1_2 a1_3).1)), (iv (F122 (a0.getD (Int.toNat v3) default) a1_0 a1_1 a1_2 a1_3).2)]) [], .eq (((F122 (a0.getD (Int.toNat v3) default) a1_0 a1_1 a1_2 a1_3).2 : Int) != 0) true]) (by kernel_rfl) ⟨h0, (show 0 ≤ (v3 : Int) ∧ (v3 : Int) < ((a0.length : Nat) : Int) from by first | omega | (rw [W_eq] <;> omega) | exact u64_nn _), (ld_part c67_len default a0 v3 0 11 (by omega) (by decide) (by omega) rfl), (C122 (a0.getD (Int.toNat v3) default) a1_0 a1_1 a1_2 a1_3  (vpL_get hv (by omega)) hx hs ht hd), h1, trivial⟩
      | false =>
        have q0 := of_decide_eq_true h0
        have q1 := bne_eq_false_iff_eq.1 h1
        have hl16 := (vpL_ok hv).1
        have e : S62_L_c122_0 a0 a1_0 a1_1 a1_2 a1_3 (v2, v3) = (.inl ((v2 ++ [(F122 (a0.getD (Int.toNat v3) default) a1_0 a1_1 a1_2 a1_3).1]), (v3 + 1))) := by simp only [S62_L_c122_0, h0, h1, cond_true, cond_false]
        rw [loopF_inl e]
        refine back_of (T := T0) hT hm (f := 5000) (orc := [.d true, .ld [(iv (a0.getD (Int.toNat v3) default).1.1.1), (iv (a0.getD (Int.toNat v3) default).1.1.2.1), (iv (a0.getD (Int.toNat v3) default).1.1.2.2), (iv (a0.getD (Int.toNat v3) default).1.2.1.1), (iv (a0.getD (Int.toNat v3) default).1.2.1.2.1), (iv (a0.getD (Int.toNat v3) default).1.2.1.2.2), (iv (a0.getD (Int.toNat v3) default).1.2.2.1), (iv (a0.getD (Int.toNat v3) default).1.2.2.2.1), (iv (a0.getD (Int.toNat v3) default).1.2.2.2.2), (iv (a0.getD (Int.toNat v3) default).2.1), (iv (a0.getD (Int.toNat v3) default).2.2)], .call [1, 2, 3, 4] (.t [(.a (k2 (F122 (a0.getD (Int.toNat v3) default) a1_0 a1_1 a1_2 a1_3).1)), (iv (F122 (a0.getD (Int.toNat v3) default) a1_0 a1_1 a1_2 a1_3).2)]) [], .d false]) [] [1, 4, 6, 11, 12, 13] [5, 10] hcx (body := B62_L_c122_0) (m := n) (k' := K62_L_c122_0) (s' := ⟨[.u, (.f 122 [(.p 1 0), (.p 2 0), (.p 3 0), (.p 4 0)]), .u, .u, (.p 5 0), .u, (.s 6 0 (v2.length + 1) 2), .u, .u, .u, .u, (.s 0 0 a0.length 11), (iv ((a0.length : Nat) : Int)), (iv (W (v3 + 1))), .u, .u, .u, .u, .u, .u, .u, .u, .u, .u, .u, .u, .u, .u, .u, .u, .u, .u, .u, .u, .u, .u], [(.live false true (flat c67 a0)), (.live false false (k3 a1_0)), (.live false false [(iv a1_1)]), (.live false false [(iv a1_2)]), (.live false false [(iv a1_3)]), (.live true false [(iv 0), (iv 0)]), (.live true true (flat c29 v2 ++ (k2 (F122 (a0.getD (Int.toNat v3) default) a1_0 a1_1 a1_2 a1_3).1)))]⟩)
          (obs := [.eq (decide ((v3 : Int) < ((a0.length : Nat) : Int))) true, .pr (0 ≤ (v3 : Int) ∧ (v3 : Int) < ((a0.length : Nat) : Int)), .pr (((((flat c67 a0)).drop (0 + Int.toNat v3 * 11)).take 11) = [(iv (a0.getD (Int.toNat v3) default).1.1.1), (iv (a0.getD (Int.toNat v3) default).1.1.2.1), (iv (a0.getD (Int.toNat v3) default).1.1.2.2), (iv (a0.getD (Int.toNat v3) default).1.2.1.1), (iv (a0.getD (Int.toNat v3) default).1.2.1.2.1), (iv (a0.getD (Int.toNat v3) default).1.2.1.2.2), (iv (a0.getD (Int.toNat v3) default).1.2.2.1), (iv (a0.getD (Int.toNat v3) default).1.2.2.2.1), (iv (a0.getD (Int.toNat v3) default).1.2.2.2.2), (iv (a0.getD (Int.toNat v3) default).2.1), (iv (a0.getD (Int.toNat v3) default).2.2)]), .call 122 [(.a [(iv (a0.getD (Int.toNat v3) default).1.1.1), (iv (a0.getD (Int.toNat v3) default).1.1.2.1), (iv (a0.getD (Int.toNat v3) default).1.1.2.2), (iv (a0.getD (Int.toNat v3) default).1.2.1.1), (iv (a0.getD (Int.toNat v3) default).1.2.1.2.1), (iv (a0.getD (Int.toNat v3) default).1.2.1.2.2), (iv (a0.getD (Int.toNat v3) default).1.2.2.1), (iv (a0.getD (Int.toNat v3) default).1.2.2.2.1), (iv (a0.getD (Int.toNat v3) default).1.2.2.2.2), (iv (a0.getD (Int.toNat v3) default).2.1), (iv (a0.getD (Int.toNat v3) default).2.2)]), (.p 0 0), (.p 1 0), (.p 2 0), (.p 3 0)] [(.live false false (k3 a1_0)), (.live false false [(iv a1_1)]), (.live false false [(iv a1_2)]), (.live false false [(iv a1_3)])] (.t [(.a (k2 (F122 (a0.getD (Int.toNat v3) default) a1_0 a1_1 a1_2 a1_3).1)), (iv (F122 (a0.getD (Int.toNat v3) default) a1_0 a1_1 a1_2 a1_3).2)]) [], .eq (((F122 (a0.getD (Int.toNat v3) default) a1_0 a1_1 a1_2 a1_3).2 : Int) != 0) false, .pr ((flat c29 v2).length = v2.length * 2 ∧ v2.length + 1 ≤ 2 ^ 40 ∧ (v2.length + 1) * 16 ≤ 2 ^ 47)]) (by kernel_rfl) ⟨h0, (show 0 ≤ (v3 : Int) ∧ (v3 : Int) < ((a0.length : Nat) : Int) from by first | omega | (rw [W_eq] <;> omega) | exact u64_nn _), (ld_part c67_len default a0 v3 0 11 (by omega) (by decide) (by omega) rfl), (C122 (a0.getD (Int.toNat v3) default) a1_0 a1_1 a1_2 a1_3  (vpL_get hv (by omega)) hx hs ht hd), h1, (app_ok c29_len (by omega) (by omega)), trivial⟩ ?_
        have z0 : (W (v3 + 1)) = (v3 + 1) := W_eq (by omega) (by omega)
        have z1 : (flat c29 v2 ++ (k2 (F122 (a0.getD (Int.toNat v3) default) a1_0 a1_1 a1_2 a1_3).1)) = (flat c29 (v2 ++ [(F122 (a0.getD (Int.toNat v3) default) a1_0 a1_1 a1_2 a1_3).1])) := (flat_append (c := c29) (l := v2) (m := [(F122 (a0.getD (Int.toNat v3) default) a1_0 a1_1 a1_2 a1_3).1])).symm
        have z2 : (v2.length + 1) = (v2 ++ [(F122 (a0.getD (Int.toNat v3) default) a1_0 a1_1 a1_2 a1_3).1]).length := len_app v2 [(F122 (a0.getD (Int.toNat v3) default) a1_0 a1_1 a1_2 a1_3).1] rfl
        rw [z0, z1, z2]
        exact ih (v2 ++ [(F122 (a0.getD (Int.toNat v3) default) a1_0 a1_1 a1_2 a1_3).1]) (v3 + 1) (by refine ⟨?_, ?_, ?_⟩ <;> (try simp only [List.length_append, List.length_cons, List.length_nil, Int.toNat_zero]) <;> first | omega | assumption | simp) (by (try simp only [List.length_append, List.length_cons, List.length_nil, Int.toNat_zero]); omega)
    | false =>
      have q0 := of_decide_eq_false h0
      have hl16 := (vpL_ok hv).1
      have e : S62_L_c122_0 a0 a1_0 a1_1 a1_2 a1_3 (v2, v3) = (.inr ((F73_L v2).1, (F73_L v2).2)) := by simp only [S62_L_c122_0, h0, cond_true, cond_false]
      rw [show loopF (S62_L_c122_0 a0 a1_0 a1_1 a1_2 a1_3) (n + 1) (v2, v3) = thenF (S62_L_c122_0 a0 a1_0 a1_1 a1_2 a1_3) n (S62_L_c122_0 a0 a1_0 a1_1 a1_2 a1_3 (v2, v3)) from rfl, e]
      exact ret_of (T := T0) hT hm (f := 5000) (orc := [.d false, .call [6] (.t [(.a (k2 (F73_L v2).1)), (iv (F73_L v2).2)]) []]) [] [] [] hcx
        (obs := [.eq (decide ((v3 : Int) < ((a0.length : Nat) : Int))) false, .call 73 [(.s 0 0 v2.length 2)] [(.live false true (flat c29 v2))] (.t [(.a (k2 (F73_L v2).1)), (iv (F73_L v2).2)]) []]) (by kernel_rfl) ⟨h0, (C73_L v2 (by (try simp only [List.length_append, List.length_cons, List.length_nil, Int.toNat_zero]); omega)), trivial⟩

/-- facet/sound.sum at ('L', 'c122') -/
def F62_L_c122 (a0 : List (((Int × Int × Int) × (Int × Int × Int) × Int × Int × Int) × Int × Int)) (a1_0 : Int × Int × Int) (a1_1 : Int) (a1_2 : Int) (a1_3 : Int) : (Int × Int) × Int :=
  (loopF (S62_L_c122_0 a0 a1_0 a1_1 a1_2 a1_3) (Int.toNat (((a0.length : Nat) : Int) - 0) + 1) (([] : List (Int × Int)), 0))

theorem C62_L_c122 (a0 : List (((Int × Int × Int) × (Int × Int × Int) × Int × Int × Int) × Int × Int)) (a1_0 : Int × Int × Int) (a1_1 : Int) (a1_2 : Int) (a1_3 : Int) (l0 : a0.length ≤ 9223372036854775807) (hv : vpL a0 = 0) (hx : bd 256 a1_0) (hs : 1 ≤ a1_1 ∧ a1_1 ≤ 16) (ht : 0 ≤ a1_2 ∧ a1_2 ≤ 2000) (hd : 0 ≤ a1_3 ∧ a1_3 ≤ 3) : Con Tryz.prog 62 [(.s 0 0 a0.length 11), (.f 122 [(.p 1 0), (.p 2 0), (.p 3 0), (.p 4 0)])] [(.live false true (flat c67 a0)), (.live false false (k3 a1_0)), (.live false false [(iv a1_1)]), (.live false false [(iv a1_2)]), (.live false false [(iv a1_3)])] (.t [(.a (k2 (F62_L_c122 a0 a1_0 a1_1 a1_2 a1_3).1)), (iv (F62_L_c122 a0 a1_0 a1_1 a1_2 a1_3).2)]) [] := by
  have e : (F62_L_c122 a0 a1_0 a1_1 a1_2 a1_3) = (loopF (S62_L_c122_0 a0 a1_0 a1_1 a1_2 a1_3) (Int.toNat (((a0.length : Nat) : Int) - 0) + 1) (([] : List (Int × Int)), 0)) := by simp only [F62_L_c122]
  rw [e]
  refine con_of (n := 9) Tryz.func62 rfl (ent Tryz.func62 (by kernel_rfl) rfl) (by show 2 ≤ Tryz.f62.ntmps; decide) (by kernel_rfl) ⟨rfl, rfl, rfl, rfl, rfl, trivial⟩ (fun cx hcx => ?_)
  refine enter_of (T := T0) hT hm (f := 5000) (orc := []) [.slot 6 2] [1, 4, 6, 11, 12, 13] [5, 6] hcx (body := B62_L_c122_0) (k' := K62_L_c122_0) (s' := ⟨[.u, (.f 122 [(.p 1 0), (.p 2 0), (.p 3 0), (.p 4 0)]), .u, .u, (.p 5 0), .u, (.s 6 0 0 2), .u, .u, .u, .u, (.s 0 0 a0.length 11), (iv ((a0.length : Nat) : Int)), (iv 0), .u, .u, .u, .u, .u, .u, .u, .u, .u, .u, .u, .u, .u, .u, .u, .u, .u, .u, .u, .u, .u, .u], [(.live false true (flat c67 a0)), (.live false false (k3 a1_0)), (.live false false [(iv a1_1)]), (.live false false [(iv a1_2)]), (.live false false [(iv a1_3)]), (.live true false [(iv 0), (iv 0)]), (.live true true (flat c29 ([] : List (Int × Int))))]⟩)
    (obs := []) (by kernel_rfl) trivial ⟨Int.toNat (((a0.length : Nat) : Int) - 0) + 1, ?_⟩
  exact L62_L_c122_0 a0 a1_0 a1_1 a1_2 a1_3 l0 hv hx hs ht hd hcx (Int.toNat (((a0.length : Nat) : Int) - 0) + 1) ([] : List (Int × Int)) 0 (by refine ⟨?_, ?_, ?_⟩ <;> (try simp only [List.length_append, List.length_cons, List.length_nil, Int.toNat_zero]) <;> first | omega | assumption | simp) (by (try simp only [List.length_append, List.length_cons, List.length_nil, Int.toNat_zero]); omega)

/-- facet/sound.scene at ('L',) -/
def F56_L (a0 : List (((Int × Int × Int) × (Int × Int × Int) × Int × Int × Int) × Int × Int)) (a1 : Int × Int × Int) (a2 : Int) (a3 : Int) (a4 : Int) : (Int × Int) × Int :=
  ((F62_L_c122 a0 a1 a2 a3 a4).1, (F62_L_c122 a0 a1 a2 a3 a4).2)

theorem C56_L (a0 : List (((Int × Int × Int) × (Int × Int × Int) × Int × Int × Int) × Int × Int)) (a1 : Int × Int × Int) (a2 : Int) (a3 : Int) (a4 : Int) (l0 : a0.length ≤ 9223372036854775807) (hv : vpL a0 = 0) (hx : bd 256 a1) (hs : 1 ≤ a2 ∧ a2 ≤ 16) (ht : 0 ≤ a3 ∧ a3 ≤ 2000) (hd : 0 ≤ a4 ∧ a4 ≤ 3) : Con Tryz.prog 56 [(.s 0 0 a0.length 11), (.a (k3 a1)), (iv a2), (iv a3), (iv a4)] [(.live false true (flat c67 a0))] (.t [(.a (k2 (F56_L a0 a1 a2 a3 a4).1)), (iv (F56_L a0 a1 a2 a3 a4).2)]) [] := by
  have e : (F56_L a0 a1 a2 a3 a4) = ((F62_L_c122 a0 a1 a2 a3 a4).1, (F62_L_c122 a0 a1 a2 a3 a4).2) := by simp only [F56_L]
  rw [e]
  refine con_of (n := 9) Tryz.func56 rfl (ent Tryz.func56 (by kernel_rfl) rfl) (by show 5 ≤ Tryz.f56.ntmps; decide) (by kernel_rfl) ⟨rfl, trivial⟩ (fun cx hcx => ?_)
  exact ret_of (T := T0) hT hm (f := 5000) (orc := [.call [0, 1, 2, 3, 4] (.t [(.a (k2 (F62_L_c122 a0 a1 a2 a3 a4).1)), (iv (F62_L_c122 a0 a1 a2 a3 a4).2)]) []]) [] [] [] hcx
    (obs := [.call 62 [(.s 0 0 a0.length 11), (.f 122 [(.p 1 0), (.p 2 0), (.p 3 0), (.p 4 0)])] [(.live false true (flat c67 a0)), (.live false false (k3 a1)), (.live false false [(iv a2)]), (.live false false [(iv a3)]), (.live false false [(iv a4)])] (.t [(.a (k2 (F62_L_c122 a0 a1 a2 a3 a4).1)), (iv (F62_L_c122 a0 a1 a2 a3 a4).2)]) []]) (by kernel_rfl) ⟨(C62_L_c122 a0 a1 a2 a3 a4 (by (try simp only [List.length_append, List.length_cons, List.length_nil, Int.toNat_zero]); omega) hv hx hs ht hd), trivial⟩

noncomputable def B59_L_0 : Code := (loopAtD [1, 1, 0, 1] [] (Tryz.f59.body.getD .skip) []).1
noncomputable def K59_L_0 : List K := (loopAtD [1, 1, 0, 1] [] (Tryz.f59.body.getD .skip) []).2

/-- a round of loop 0 of facet/facetref08.scene; the variables: v2 = s12, v3 = s13 -/
def S59_L_0 (a0 : List (((Int × Int × Int) × (Int × Int × Int) × Int × Int × Int) × Int × Int)) (a1 : Int × Int × Int) (a2 : Int) (a3 : Int) (a4 : Int) : (List (Int × Int)) × Int → ((List (Int × Int)) × Int) ⊕ ((Int × Int) × Int)
  | (v2, v3) =>
   (bif (decide ((v3 : Int) < ((a0.length : Nat) : Int))) then
    (bif (((F125 (a0.getD (Int.toNat v3) default) a1 a2 a3 a4).2 : Int) != 0) then
     (.inr ((0, 0), (F125 (a0.getD (Int.toNat v3) default) a1 a2 a3 a4).2))
    else
     (.inl ((v2 ++ [(F125 (a0.getD (Int.toNat v3) default) a1 a2 a3 a4).1]), (v3 + 1))))
   else
    (.inr ((F68_L v2).1, (F68_L v2).2)))

set_option maxHeartbeats 4000000 in
theorem L59_L_0 (a0 : List (((Int × Int × Int) × (Int × Int × Int) × Int × Int × Int) × Int × Int)) (a1 : Int × Int × Int) (a2 : Int) (a3 : Int) (a4 : Int) (l0 : a0.length ≤ 9223372036854775807) (hv : vpL a0 = 0) (hx : bd 256 a1) (hs : 1 ≤ a2 ∧ a2 ≤ 16) (ht : 0 ≤ a3 ∧ a3 ≤ 2000) (hd : 0 ≤ a4 ∧ a4 ≤ 3) {cx : Cx} (hcx : cx.base = 1) : ∀ (n : Nat) (v2 : List (Int × Int)) (v3 : Int), (0 ≤ v3) ∧ (v2.length = Int.toNat v3) ∧ (v3 ≤ a0.length) → Int.toNat (((a0.length : Nat) : Int) - v3) < n → Aw.Good Tryz.prog none 9 (bodyPost Tryz.prog Tryz.f59 (RR cx (.t [(.a (k2 (loopF (S59_L_0 a0 a1 a2 a3 a4) n (v2, v3)).1)), (iv (loopF (S59_L_0 a0 a1 a2 a3 a4) n (v2, v3)).2)]) [] [])) cx [] (.l B59_L_0 n :: K59_L_0) ⟨[(.s 0 0 a0.length 11), .u, (iv a2), (iv a3), (iv a4), .u, (.p 1 0), .u, .u, .u, (.p 2 0), .u, (.s 3 0 v2.length 2), (iv v3), .u, .u, .u, .u, .u, .u, .u, .u, .u, .u, .u, .u, .u, .u, .u, .u, .u, .u, .u, .u, .u, .u, .u, .u, .u, .u, .u, .u, .u, .u, .u, .u], [(.live false true (flat c67 a0)), (.live true false (k3 a1)), (.live true false [(iv 0), (iv 0)]), (.live true true (flat c29 v2))]⟩ := by
  intro n
  induction n with
  | zero => intro v2 v3 hi hn; exact absurd hn (Nat.not_lt_zero _)
  | succ n ih =>
    intro v2 v3 hi hn
    refine good_round ?_
    cases h0 : (decide ((v3 : Int) < ((a0.length : Nat) : Int))) with
    | true =>
      cases h1 : (((F125 (a0.getD (Int.toNat v3) default) a1 a2 a3 a4).2 : Int) != 0) with
      | true =>
        have q0 := of_decide_eq_true h0
        have q1 := bne_iff_ne.1 h1
        have hl16 := (vpL_ok hv).1
        have e : S59_L_0 a0 a1 a2 a3 a4 (v2, v3) = (.inr ((0, 0), (F125 (a0.getD (Int.toNat v3) default) a1 a2 a3 a4).2)) := by simp only [S59_L_0, h0, h1, cond_true, cond_false]
        rw [show loopF (S59_L_0 a0 a1 a2 a3 a4) (n + 1) (v2, v3) = thenF (S59_L_0 a0 a1 a2 a3 a4) n (S59_L_0 a0 a1 a2 a3 a4 (v2, v3)) from rfl, e]
        exact ret_of (T := T0) hT hm (f := 5000) (orc := [.d true, .ld [(iv (a0.getD (Int.toNat v3) default).1.1.1), (iv (a0.getD (Int.toNat v3) default).1.1.2.1), (iv (a0.getD (Int.toNat v3) default).1.1.2.2), (iv (a0.getD (Int.toNat v3) default).1.2.1.1), (iv (a0.getD (Int.toNat v3) default).1.2.1.2.1), (iv (a0.getD (Int.toNat v3) default).1.2.1.2.2), (iv (a0.getD (Int.toNat v3) default).1.2.2.1), (iv (a0.getD (Int.toNat v3) default).1.2.2.2.1), (iv (a0.getD (Int.toNat v3) default).1.2.2.2.2), (iv (a0.getD (Int.toNat v3) default).2.1), (iv (a0.getD (Int.toNat v3) default).2.2)], .call [] (.t [(.a (k2 (F125 (a0.getD (Int.toNat v3) default) a1 a2 a3 a4).1)), (iv (F125 (a0.getD (Int.toNat v3) default) a1 a2 a3 a4).2)]) [], .d true]) [] [] [] hcx
          (obs := [.eq (decide ((v3 : Int) < ((a0.length : Nat) : Int))) true, .pr (0 ≤ (v3 : Int) ∧ (v3 : Int) < ((a0.length : Nat) : Int)), .pr (((((flat c67 a0)).drop (0 + Int.toNat v3 * 11)).take 11) = [(iv (a0.getD (Int.toNat v3) default).1.1.1), (iv (a0.getD (Int.toNat v3) default).1.1.2.1), (iv (a0.getD (Int.toNat v3) default).1.1.2.2), (iv (a0.getD (Int.toNat v3) default).1.2.1.1), (iv (a0.getD (Int.toNat v3) default).1.2.1.2.1), (iv (a0.getD (Int.toNat v3) default).1.2.1.2.2), (iv (a0.getD (Int.toNat v3) default).1.2.2.1), (iv (a0.getD (Int.toNat v3) default).1.2.2.2.1), (iv (a0.getD (Int.toNat v3) default).1.2.2.2.2), (iv (a0.getD (Int.toNat v3) default).2.1), (iv (a0.getD (Int.toNat v3) default).2.2)]), .call 125 [(.a [(iv (a0.getD (Int.toNat v3) default).1.1.1), (iv (a0.getD (Int.toNat v3) default).1.1.2.1), (iv (a0.getD (Int.toNat v3) default).1.1.2.2), (iv (a0.getD (Int.toNat v3) default).1.2.1.1), (iv (a0.getD (Int.toNat v3) default).1.2.1.2.1), (iv (a0.getD (Int.toNat v3) default).1.2.1.2.2), (iv (a0.getD (Int.toNat v3) default).1.2.2.1), (iv (a0.getD (Int.toNat v3) default).1.2.2.2.1), (iv (a0.getD (Int.toNat v3) default).1.2.2.2.2), (iv (a0.getD (Int.toNat v3) default).2.1), (iv (a0.getD (Int.toNat v3) default).2.2)]), (.a (k3 a1)), (iv a2), (iv a3), (iv a4)] [] (.t [(.a (k2 (F125 (a0.getD (Int.toNat v3) default) a1 a2 a3 a4).1)), (iv (F125 (a0.getD (Int.toNat v3) default) a1 a2 a3 a4).2)]) [], .eq (((F125 (a0.getD (Int.toNat v3) default) a1 a2 a3 a4).2 : Int) != 0) true]) (by kernel_rfl) ⟨h0, (show 0 ≤ (v3 : Int) ∧ (v3 : Int) < ((a0.length : Nat) : Int) from by first | omega | (rw [W_eq] <;> omega) | exact u64_nn _), (ld_part c67_len default a0 v3 0 11 (by omega) (by decide) (by omega) rfl), (C125 (a0.getD (Int.toNat v3) default) a1 a2 a3 a4  (vpL_get hv (by omega)) hx hs ht hd), h1, trivial⟩
      | false =>
        have q0 := of_decide_eq_true h0
        have q1 := bne_eq_false_iff_eq.1 h1
        have hl16 := (vpL_ok hv).1
        have e : S59_L_0 a0 a1 a2 a3 a4 (v2, v3) = (.inl ((v2 ++ [(F125 (a0.getD (Int.toNat v3) default) a1 a2 a3 a4).1]), (v3 + 1))) := by simp only [S59_L_0, h0, h1, cond_true, cond_false]
        rw [loopF_inl e]
        refine back_of (T := T0) hT hm (f := 5000) (orc := [.d true, .ld [(iv (a0.getD (Int.toNat v3) default).1.1.1), (iv (a0.getD (Int.toNat v3) default).1.1.2.1), (iv (a0.getD (Int.toNat v3) default).1.1.2.2), (iv (a0.getD (Int.toNat v3) default).1.2.1.1), (iv (a0.getD (Int.toNat v3) default).1.2.1.2.1), (iv (a0.getD (Int.toNat v3) default).1.2.1.2.2), (iv (a0.getD (Int.toNat v3) default).1.2.2.1), (iv (a0.getD (Int.toNat v3) default).1.2.2.2.1), (iv (a0.getD (Int.toNat v3) default).1.2.2.2.2), (iv (a0.getD (Int.toNat v3) default).2.1), (iv (a0.getD (Int.toNat v3) default).2.2)], .call [] (.t [(.a (k2 (F125 (a0.getD (Int.toNat v3) default) a1 a2 a3 a4).1)), (iv (F125 (a0.getD (Int.toNat v3) default) a1 a2 a3 a4).2)]) [], .d false]) [] [0, 2, 3, 4, 6, 10, 12, 13] [1, 2, 6] hcx (body := B59_L_0) (m := n) (k' := K59_L_0) (s' := ⟨[(.s 0 0 a0.length 11), .u, (iv a2), (iv a3), (iv a4), .u, (.p 1 0), .u, .u, .u, (.p 2 0), .u, (.s 3 0 (v2.length + 1) 2), (iv (W (v3 + 1))), .u, .u, .u, .u, .u, .u, .u, .u, .u, .u, .u, .u, .u, .u, .u, .u, .u, .u, .u, .u, .u, .u, .u, .u, .u, .u, .u, .u, .u, .u, .u, .u], [(.live false true (flat c67 a0)), (.live true false (k3 a1)), (.live true false [(iv 0), (iv 0)]), (.live true true (flat c29 v2 ++ (k2 (F125 (a0.getD (Int.toNat v3) default) a1 a2 a3 a4).1)))]⟩)
          (obs := [.eq (decide ((v3 : Int) < ((a0.length : Nat) : Int))) true, .pr (0 ≤ (v3 : Int) ∧ (v3 : Int) < ((a0.length : Nat) : Int)), .pr (((((flat c67 a0)).drop (0 + Int.toNat v3 * 11)).take 11) = [(iv (a0.getD (Int.toNat v3) default).1.1.1), (iv (a0.getD (Int.toNat v3) default).1.1.2.1), (iv (a0.getD (Int.toNat v3) default).1.1.2.2), (iv (a0.getD (Int.toNat v3) default).1.2.1.1), (iv (a0.getD (Int.toNat v3) default).1.2.1.2.1), (iv (a0.getD (Int.toNat v3) default).1.2.1.2.2), (iv (a0.getD (Int.toNat v3) default).1.2.2.1), (iv (a0.getD (Int.toNat v3) default).1.2.2.2.1), (iv (a0.getD (Int.toNat v3) default).1.2.2.2.2), (iv (a0.getD (Int.toNat v3) default).2.1), (iv (a0.getD (Int.toNat v3) default).2.2)]), .call 125 [(.a [(iv (a0.getD (Int.toNat v3) default).1.1.1), (iv (a0.getD (Int.toNat v3) default).1.1.2.1), (iv (a0.getD (Int.toNat v3) default).1.1.2.2), (iv (a0.getD (Int.toNat v3) default).1.2.1.1), (iv (a0.getD (Int.toNat v3) default).1.2.1.2.1), (iv (a0.getD (Int.toNat v3) default).1.2.1.2.2), (iv (a0.getD (Int.toNat v3) default).1.2.2.1), (iv (a0.getD (Int.toNat v3) default).1.2.2.2.1), (iv (a0.getD (Int.toNat v3) default).1.2.2.2.2), (iv (a0.getD (Int.toNat v3) default).2.1), (iv (a0.getD (Int.toNat v3) default).2.2)]), (.a (k3 a1)), (iv a2), (iv a3), (iv a4)] [] (.t [(.a (k2 (F125 (a0.getD (Int.toNat v3) default) a1 a2 a3 a4).1)), (iv (F125 (a0.getD (Int.toNat v3) default) a1 a2 a3 a4).2)]) [], .eq (((F125 (a0.getD (Int.toNat v3) default) a1 a2 a3 a4).2 : Int) != 0) false, .pr ((flat c29 v2).length = v2.length * 2 ∧ v2.length + 1 ≤ 2 ^ 40 ∧ (v2.length + 1) * 16 ≤ 2 ^ 47)]) (by kernel_rfl) ⟨h0, (show 0 ≤ (v3 : Int) ∧ (v3 : Int) < ((a0.length : Nat) : Int) from by first | omega | (rw [W_eq] <;> omega) | exact u64_nn _), (ld_part c67_len default a0 v3 0 11 (by omega) (by decide) (by omega) rfl), (C125 (a0.getD (Int.toNat v3) default) a1 a2 a3 a4  (vpL_get hv (by omega)) hx hs ht hd), h1, (app_ok c29_len (by omega) (by omega)), trivial⟩ ?_
        have z0 : (W (v3 + 1)) = (v3 + 1) := W_eq (by omega) (by omega)
        have z1 : (flat c29 v2 ++ (k2 (F125 (a0.getD (Int.toNat v3) default) a1 a2 a3 a4).1)) = (flat c29 (v2 ++ [(F125 (a0.getD (Int.toNat v3) default) a1 a2 a3 a4).1])) := (flat_append (c := c29) (l := v2) (m := [(F125 (a0.getD (Int.toNat v3) default) a1 a2 a3 a4).1])).symm
        have z2 : (v2.length + 1) = (v2 ++ [(F125 (a0.getD (Int.toNat v3) default) a1 a2 a3 a4).1]).length := len_app v2 [(F125 (a0.getD (Int.toNat v3) default) a1 a2 a3 a4).1] rfl
        rw [z0, z1, z2]
        exact ih (v2 ++ [(F125 (a0.getD (Int.toNat v3) default) a1 a2 a3 a4).1]) (v3 + 1) (by refine ⟨?_, ?_, ?_⟩ <;> (try simp only [List.length_append, List.length_cons, List.length_nil, Int.toNat_zero]) <;> first | omega | assumption | simp) (by (try simp only [List.length_append, List.length_cons, List.length_nil, Int.toNat_zero]); omega)
    | false =>
      have q0 := of_decide_eq_false h0
      have hl16 := (vpL_ok hv).1
      have e : S59_L_0 a0 a1 a2 a3 a4 (v2, v3) = (.inr ((F68_L v2).1, (F68_L v2).2)) := by simp only [S59_L_0, h0, cond_true, cond_false]
      rw [show loopF (S59_L_0 a0 a1 a2 a3 a4) (n + 1) (v2, v3) = thenF (S59_L_0 a0 a1 a2 a3 a4) n (S59_L_0 a0 a1 a2 a3 a4 (v2, v3)) from rfl, e]
      exact ret_of (T := T0) hT hm (f := 5000) (orc := [.d false, .call [3] (.t [(.a (k2 (F68_L v2).1)), (iv (F68_L v2).2)]) []]) [] [] [] hcx
        (obs := [.eq (decide ((v3 : Int) < ((a0.length : Nat) : Int))) false, .call 68 [(.s 0 0 v2.length 2)] [(.live false true (flat c29 v2))] (.t [(.a (k2 (F68_L v2).1)), (iv (F68_L v2).2)]) []]) (by kernel_rfl) ⟨h0, (C68_L v2 (by (try simp only [List.length_append, List.length_cons, List.length_nil, Int.toNat_zero]); omega)), trivial⟩

/-- facet/facetref08.scene at ('L',) -/
def F59_L (a0 : List (((Int × Int × Int) × (Int × Int × Int) × Int × Int × Int) × Int × Int)) (a1 : Int × Int × Int) (a2 : Int) (a3 : Int) (a4 : Int) : (Int × Int) × Int :=
  (loopF (S59_L_0 a0 a1 a2 a3 a4) (Int.toNat (((a0.length : Nat) : Int) - 0) + 1) (([] : List (Int × Int)), 0))

theorem C59_L (a0 : List (((Int × Int × Int) × (Int × Int × Int) × Int × Int × Int) × Int × Int)) (a1 : Int × Int × Int) (a2 : Int) (a3 : Int) (a4 : Int) (l0 : a0.length ≤ 9223372036854775807) (hv : vpL a0 = 0) (hx : bd 256 a1) (hs : 1 ≤ a2 ∧ a2 ≤ 16) (ht : 0 ≤ a3 ∧ a3 ≤ 2000) (hd : 0 ≤ a4 ∧ a4 ≤ 3) : Con Tryz.prog 59 [(.s 0 0 a0.length 11), (.a (k3 a1)), (iv a2), (iv a3), (iv a4)] [(.live false true (flat c67 a0))] (.t [(.a (k2 (F59_L a0 a1 a2 a3 a4).1)), (iv (F59_L a0 a1 a2 a3 a4).2)]) [] := by
  have e : (F59_L a0 a1 a2 a3 a4) = (loopF (S59_L_0 a0 a1 a2 a3 a4) (Int.toNat (((a0.length : Nat) : Int) - 0) + 1) (([] : List (Int × Int)), 0)) := by simp only [F59_L]
  rw [e]
  refine con_of (n := 9) Tryz.func59 rfl (ent Tryz.func59 (by kernel_rfl) rfl) (by show 5 ≤ Tryz.f59.ntmps; decide) (by kernel_rfl) ⟨rfl, trivial⟩ (fun cx hcx => ?_)
  refine enter_of (T := T0) hT hm (f := 5000) (orc := []) [.slot 12 2] [0, 2, 3, 4, 6, 10, 12, 13] [1, 2, 3] hcx (body := B59_L_0) (k' := K59_L_0) (s' := ⟨[(.s 0 0 a0.length 11), .u, (iv a2), (iv a3), (iv a4), .u, (.p 1 0), .u, .u, .u, (.p 2 0), .u, (.s 3 0 0 2), (iv 0), .u, .u, .u, .u, .u, .u, .u, .u, .u, .u, .u, .u, .u, .u, .u, .u, .u, .u, .u, .u, .u, .u, .u, .u, .u, .u, .u, .u, .u, .u, .u, .u], [(.live false true (flat c67 a0)), (.live true false (k3 a1)), (.live true false [(iv 0), (iv 0)]), (.live true true (flat c29 ([] : List (Int × Int))))]⟩)
    (obs := []) (by kernel_rfl) trivial ⟨Int.toNat (((a0.length : Nat) : Int) - 0) + 1, ?_⟩
  exact L59_L_0 a0 a1 a2 a3 a4 l0 hv hx hs ht hd hcx (Int.toNat (((a0.length : Nat) : Int) - 0) + 1) ([] : List (Int × Int)) 0 (by refine ⟨?_, ?_, ?_⟩ <;> (try simp only [List.length_append, List.length_cons, List.length_nil, Int.toNat_zero]) <;> first | omega | assumption | simp) (by (try simp only [List.length_append, List.length_cons, List.length_nil, Int.toNat_zero]); omega)

/-- facet/sound.Scene at ('L',) -/
def F16_L (a0 : List (((Int × Int × Int) × (Int × Int × Int) × Int × Int × Int) × Int × Int)) (a1 : Int × Int × Int) (a2 : Int) (a3 : Int) (a4 : Int) : (Int × Int) × Int :=
  (bif (F52 a1) then
   (bif (F53 a2) then
    (bif (F54 a3) then
     (bif (((F60_L a0 (F55 a4)) : Int) != 0) then
      ((0, 0), (F60_L a0 (F55 a4)))
     else
      ((F56_L a0 a1 a2 a3 a4).1, (F56_L a0 a1 a2 a3 a4).2))
    else
     (bif (((F60_L a0 false) : Int) != 0) then
      ((0, 0), (F60_L a0 false))
     else
      ((F56_L a0 a1 a2 a3 a4).1, (F56_L a0 a1 a2 a3 a4).2)))
   else
    (bif (((F60_L a0 false) : Int) != 0) then
     ((0, 0), (F60_L a0 false))
    else
     ((F56_L a0 a1 a2 a3 a4).1, (F56_L a0 a1 a2 a3 a4).2)))
  else
   (bif (((F60_L a0 false) : Int) != 0) then
    ((0, 0), (F60_L a0 false))
   else
    ((F56_L a0 a1 a2 a3 a4).1, (F56_L a0 a1 a2 a3 a4).2)))

noncomputable def oC16_L_0 (a0 : List (((Int × Int × Int) × (Int × Int × Int) × Int × Int × Int) × Int × Int)) (a1 : Int × Int × Int) (a2 : Int) (a3 : Int) (a4 : Int) : Or := .call [0] (.t [(.a (k2 (F56_L a0 a1 a2 a3 a4).1)), (iv (F56_L a0 a1 a2 a3 a4).2)]) []
noncomputable def oC16_L_1 (a0 : List (((Int × Int × Int) × (Int × Int × Int) × Int × Int × Int) × Int × Int)) (a1 : Int × Int × Int) (a2 : Int) (a3 : Int) (a4 : Int) : Ob := .call 56 [(.s 0 0 a0.length 11), (.a (k3 a1)), (iv a2), (iv a3), (iv a4)] [(.live false true (flat c67 a0))] (.t [(.a (k2 (F56_L a0 a1 a2 a3 a4).1)), (iv (F56_L a0 a1 a2 a3 a4).2)]) []
noncomputable def oC16_L_2 (a0 : List (((Int × Int × Int) × (Int × Int × Int) × Int × Int × Int) × Int × Int)) : Ob := .call 60 [(.s 0 0 a0.length 11), (.v (.bool false))] [(.live false true (flat c67 a0))] (iv (F60_L a0 false)) []
theorem C16_L (a0 : List (((Int × Int × Int) × (Int × Int × Int) × Int × Int × Int) × Int × Int)) (a1 : Int × Int × Int) (a2 : Int) (a3 : Int) (a4 : Int) (l0 : a0.length ≤ 9223372036854775807) : Con Tryz.prog 16 [(.s 0 0 a0.length 11), (.a (k3 a1)), (iv a2), (iv a3), (iv a4)] [(.live false true (flat c67 a0))] (.t [(.a (k2 (F16_L a0 a1 a2 a3 a4).1)), (iv (F16_L a0 a1 a2 a3 a4).2)]) [] := by
  cases h0 : (F52 a1) with
  | true =>
    cases h1 : (F53 a2) with
    | true =>
      cases h2 : (F54 a3) with
      | true =>
        cases h3 : (((F60_L a0 (F55 a4)) : Int) != 0) with
        | true =>
          have q3 := bne_iff_ne.1 h3
          have e : (F16_L a0 a1 a2 a3 a4) = ((0, 0), (F60_L a0 (F55 a4))) := by simp only [F16_L, h0, h1, h2, h3, cond_true, cond_false]
          rw [e]
          refine con_of (n := 9) Tryz.func16 rfl (ent Tryz.func16 (by kernel_rfl) rfl) (by show 5 ≤ Tryz.f16.ntmps; decide) (by kernel_rfl) ⟨rfl, trivial⟩ (fun cx hcx => ?_)
          exact ret_of (T := T0) hT hm (f := 5000) (orc := [.call [] (.v (.bool (F52 a1))) [], .d true, .call [] (.v (.bool (F53 a2))) [], .d true, .call [] (.v (.bool (F54 a3))) [], .d true, .call [] (.v (.bool (F55 a4))) [], .call [0] (iv (F60_L a0 (F55 a4))) [], .d true]) [] [] [] hcx
            (obs := [.call 52 [(.a (k3 a1))] [] (.v (.bool (F52 a1))) [], .eq (F52 a1) true, .call 53 [(iv a2)] [] (.v (.bool (F53 a2))) [], .eq (F53 a2) true, .call 54 [(iv a3)] [] (.v (.bool (F54 a3))) [], .eq (F54 a3) true, .call 55 [(iv a4)] [] (.v (.bool (F55 a4))) [], .call 60 [(.s 0 0 a0.length 11), (.v (.bool (F55 a4)))] [(.live false true (flat c67 a0))] (iv (F60_L a0 (F55 a4))) [], .eq (((F60_L a0 (F55 a4)) : Int) != 0) true]) (by kernel_rfl) ⟨(C52 a1), h0, (C53 a2), h1, (C54 a3), h2, (C55 a4), (C60_L a0 (F55 a4) (by (try simp only [List.length_append, List.length_cons, List.length_nil, Int.toNat_zero]); omega)), h3, trivial⟩
        | false =>
          have q3 := bne_eq_false_iff_eq.1 h3
          have e : (F16_L a0 a1 a2 a3 a4) = ((F56_L a0 a1 a2 a3 a4).1, (F56_L a0 a1 a2 a3 a4).2) := by simp only [F16_L, h0, h1, h2, h3, cond_true, cond_false]
          rw [e]
          refine con_of (n := 9) Tryz.func16 rfl (ent Tryz.func16 (by kernel_rfl) rfl) (by show 5 ≤ Tryz.f16.ntmps; decide) (by kernel_rfl) ⟨rfl, trivial⟩ (fun cx hcx => ?_)
          exact ret_of (T := T0) hT hm (f := 5000) (orc := [.call [] (.v (.bool (F52 a1))) [], .d true, .call [] (.v (.bool (F53 a2))) [], .d true, .call [] (.v (.bool (F54 a3))) [], .d true, .call [] (.v (.bool (F55 a4))) [], .call [0] (iv (F60_L a0 (F55 a4))) [], .d false, (oC16_L_0 a0 a1 a2 a3 a4)]) [] [] [] hcx
            (obs := [.call 52 [(.a (k3 a1))] [] (.v (.bool (F52 a1))) [], .eq (F52 a1) true, .call 53 [(iv a2)] [] (.v (.bool (F53 a2))) [], .eq (F53 a2) true, .call 54 [(iv a3)] [] (.v (.bool (F54 a3))) [], .eq (F54 a3) true, .call 55 [(iv a4)] [] (.v (.bool (F55 a4))) [], .call 60 [(.s 0 0 a0.length 11), (.v (.bool (F55 a4)))] [(.live false true (flat c67 a0))] (iv (F60_L a0 (F55 a4))) [], .eq (((F60_L a0 (F55 a4)) : Int) != 0) false, (oC16_L_1 a0 a1 a2 a3 a4)]) (by kernel_rfl) ⟨(C52 a1), h0, (C53 a2), h1, (C54 a3), h2, (C55 a4), (C60_L a0 (F55 a4) (by (try simp only [List.length_append, List.length_cons, List.length_nil, Int.toNat_zero]); omega)), h3, (C56_L a0 a1 a2 a3 a4 (by (try simp only [List.length_append, List.length_cons, List.length_nil, Int.toNat_zero]); omega) (by first | exact ckL_v h1 | exact ckL_v h2 | exact ckL_v h3) (by first | exact isp_p h0 | exact absurd (ckL_b h1) (by decide) | exact absurd (ckL_b h2) (by decide) | exact absurd (ckL_b h3) (by decide)) (by first | exact iss_p h1 | exact absurd (ckL_b h1) (by decide) | exact absurd (ckL_b h2) (by decide) | exact absurd (ckL_b h3) (by decide)) (by first | exact ist_p h2 | exact absurd (ckL_b h1) (by decide) | exact absurd (ckL_b h2) (by decide) | exact absurd (ckL_b h3) (by decide)) (by first | exact isd_p (ckL_b h3) | exact absurd (ckL_b h1) (by decide) | exact absurd (ckL_b h2) (by decide) | exact absurd (ckL_b h3) (by decide))), trivial⟩
      | false =>
        cases h3 : (((F60_L a0 false) : Int) != 0) with
        | true =>
          have q3 := bne_iff_ne.1 h3
          have e : (F16_L a0 a1 a2 a3 a4) = ((0, 0), (F60_L a0 false)) := by simp only [F16_L, h0, h1, h2, h3, cond_true, cond_false]
          rw [e]
          refine con_of (n := 9) Tryz.func16 rfl (ent Tryz.func16 (by kernel_rfl) rfl) (by show 5 ≤ Tryz.f16.ntmps; decide) (by kernel_rfl) ⟨rfl, trivial⟩ (fun cx hcx => ?_)
          exact ret_of (T := T0) hT hm (f := 5000) (orc := [.call [] (.v (.bool (F52 a1))) [], .d true, .call [] (.v (.bool (F53 a2))) [], .d true, .call [] (.v (.bool (F54 a3))) [], .d false, .call [0] (iv (F60_L a0 false)) [], .d true]) [] [] [] hcx
            (obs := [.call 52 [(.a (k3 a1))] [] (.v (.bool (F52 a1))) [], .eq (F52 a1) true, .call 53 [(iv a2)] [] (.v (.bool (F53 a2))) [], .eq (F53 a2) true, .call 54 [(iv a3)] [] (.v (.bool (F54 a3))) [], .eq (F54 a3) false, (oC16_L_2 a0), .eq (((F60_L a0 false) : Int) != 0) true]) (by kernel_rfl) ⟨(C52 a1), h0, (C53 a2), h1, (C54 a3), h2, (C60_L a0 false (by (try simp only [List.length_append, List.length_cons, List.length_nil, Int.toNat_zero]); omega)), h3, trivial⟩
        | false =>
          have q3 := bne_eq_false_iff_eq.1 h3
          have e : (F16_L a0 a1 a2 a3 a4) = ((F56_L a0 a1 a2 a3 a4).1, (F56_L a0 a1 a2 a3 a4).2) := by simp only [F16_L, h0, h1, h2, h3, cond_true, cond_false]
          rw [e]
          refine con_of (n := 9) Tryz.func16 rfl (ent Tryz.func16 (by kernel_rfl) rfl) (by show 5 ≤ Tryz.f16.ntmps; decide) (by kernel_rfl) ⟨rfl, trivial⟩ (fun cx hcx => ?_)
          exact ret_of (T := T0) hT hm (f := 5000) (orc := [.call [] (.v (.bool (F52 a1))) [], .d true, .call [] (.v (.bool (F53 a2))) [], .d true, .call [] (.v (.bool (F54 a3))) [], .d false, .call [0] (iv (F60_L a0 false)) [], .d false, (oC16_L_0 a0 a1 a2 a3 a4)]) [] [] [] hcx
            (obs := [.call 52 [(.a (k3 a1))] [] (.v (.bool (F52 a1))) [], .eq (F52 a1) true, .call 53 [(iv a2)] [] (.v (.bool (F53 a2))) [], .eq (F53 a2) true, .call 54 [(iv a3)] [] (.v (.bool (F54 a3))) [], .eq (F54 a3) false, (oC16_L_2 a0), .eq (((F60_L a0 false) : Int) != 0) false, (oC16_L_1 a0 a1 a2 a3 a4)]) (by kernel_rfl) ⟨(C52 a1), h0, (C53 a2), h1, (C54 a3), h2, (C60_L a0 false (by (try simp only [List.length_append, List.length_cons, List.length_nil, Int.toNat_zero]); omega)), h3, (C56_L a0 a1 a2 a3 a4 (by (try simp only [List.length_append, List.length_cons, List.length_nil, Int.toNat_zero]); omega) (by first | exact ckL_v h1 | exact ckL_v h2 | exact ckL_v h3) (by first | exact isp_p h0 | exact absurd (ckL_b h1) (by decide) | exact absurd (ckL_b h2) (by decide) | exact absurd (ckL_b h3) (by decide)) (by first | exact iss_p h1 | exact absurd (ckL_b h1) (by decide) | exact absurd (ckL_b h2) (by decide) | exact absurd (ckL_b h3) (by decide)) (by first | exact ist_p h2 | exact absurd (ckL_b h1) (by decide) | exact absurd (ckL_b h2) (by decide) | exact absurd (ckL_b h3) (by decide)) (by first | exact isd_p (ckL_b h3) | exact absurd (ckL_b h1) (by decide) | exact absurd (ckL_b h2) (by decide) | exact absurd (ckL_b h3) (by decide))), trivial⟩
    | false =>
      cases h2 : (((F60_L a0 false) : Int) != 0) with
      | true =>
        have q2 := bne_iff_ne.1 h2
        have e : (F16_L a0 a1 a2 a3 a4) = ((0, 0), (F60_L a0 false)) := by simp only [F16_L, h0, h1, h2, cond_true, cond_false]
        rw [e]
        refine con_of (n := 9) Tryz.func16 rfl (ent Tryz.func16 (by kernel_rfl) rfl) (by show 5 ≤ Tryz.f16.ntmps; decide) (by kernel_rfl) ⟨rfl, trivial⟩ (fun cx hcx => ?_)
        exact ret_of (T := T0) hT hm (f := 5000) (orc := [.call [] (.v (.bool (F52 a1))) [], .d true, .call [] (.v (.bool (F53 a2))) [], .d false, .call [0] (iv (F60_L a0 false)) [], .d true]) [] [] [] hcx
          (obs := [.call 52 [(.a (k3 a1))] [] (.v (.bool (F52 a1))) [], .eq (F52 a1) true, .call 53 [(iv a2)] [] (.v (.bool (F53 a2))) [], .eq (F53 a2) false, (oC16_L_2 a0), .eq (((F60_L a0 false) : Int) != 0) true]) (by kernel_rfl) ⟨(C52 a1), h0, (C53 a2), h1, (C60_L a0 false (by (try simp only [List.length_append, List.length_cons, List.length_nil, Int.toNat_zero]); omega)), h2, trivial⟩
      | false =>
        have q2 := bne_eq_false_iff_eq.1 h2
        have e : (F16_L a0 a1 a2 a3 a4) = ((F56_L a0 a1 a2 a3 a4).1, (F56_L a0 a1 a2 a3 a4).2) := by simp only [F16_L, h0, h1, h2, cond_true, cond_false]
        rw [e]
        refine con_of (n := 9) Tryz.func16 rfl (ent Tryz.func16 (by kernel_rfl) rfl) (by show 5 ≤ Tryz.f16.ntmps; decide) (by kernel_rfl) ⟨rfl, trivial⟩ (fun cx hcx => ?_)
        exact ret_of (T := T0) hT hm (f := 5000) (orc := [.call [] (.v (.bool (F52 a1))) [], .d true, .call [] (.v (.bool (F53 a2))) [], .d false, .call [0] (iv (F60_L a0 false)) [], .d false, (oC16_L_0 a0 a1 a2 a3 a4)]) [] [] [] hcx
          (obs := [.call 52 [(.a (k3 a1))] [] (.v (.bool (F52 a1))) [], .eq (F52 a1) true, .call 53 [(iv a2)] [] (.v (.bool (F53 a2))) [], .eq (F53 a2) false, (oC16_L_2 a0), .eq (((F60_L a0 false) : Int) != 0) false, (oC16_L_1 a0 a1 a2 a3 a4)]) (by kernel_rfl) ⟨(C52 a1), h0, (C53 a2), h1, (C60_L a0 false (by (try simp only [List.length_append, List.length_cons, List.length_nil, Int.toNat_zero]); omega)), h2, (C56_L a0 a1 a2 a3 a4 (by (try simp only [List.length_append, List.length_cons, List.length_nil, Int.toNat_zero]); omega) (by first | exact ckL_v h1 | exact ckL_v h2 | exact ckL_v h3) (by first | exact isp_p h0 | exact absurd (ckL_b h1) (by decide) | exact absurd (ckL_b h2) (by decide) | exact absurd (ckL_b h3) (by decide)) (by first | exact iss_p h1 | exact absurd (ckL_b h1) (by decide) | exact absurd (ckL_b h2) (by decide) | exact absurd (ckL_b h3) (by decide)) (by first | exact ist_p h2 | exact absurd (ckL_b h1) (by decide) | exact absurd (ckL_b h2) (by decide) | exact absurd (ckL_b h3) (by decide)) (by first | exact isd_p (ckL_b h3) | exact absurd (ckL_b h1) (by decide) | exact absurd (ckL_b h2) (by decide) | exact absurd (ckL_b h3) (by decide))), trivial⟩
  | false =>
    cases h1 : (((F60_L a0 false) : Int) != 0) with
    | true =>
      have q1 := bne_iff_ne.1 h1
      have e : (F16_L a0 a1 a2 a3 a4) = ((0, 0), (F60_L a0 false)) := by simp only [F16_L, h0, h1, cond_true, cond_false]
      rw [e]
      refine con_of (n := 9) Tryz.func16 rfl (ent Tryz.func16 (by kernel_rfl) rfl) (by show 5 ≤ Tryz.f16.ntmps; decide) (by kernel_rfl) ⟨rfl, trivial⟩ (fun cx hcx => ?_)
      exact ret_of (T := T0) hT hm (f := 5000) (orc := [.call [] (.v (.bool (F52 a1))) [], .d false, .call [0] (iv (F60_L a0 false)) [], .d true]) [] [] [] hcx
        (obs := [.call 52 [(.a (k3 a1))] [] (.v (.bool (F52 a1))) [], .eq (F52 a1) false, (oC16_L_2 a0), .eq (((F60_L a0 false) : Int) != 0) true]) (by kernel_rfl) ⟨(C52 a1), h0, (C60_L a0 false (by (try simp only [List.length_append, List.length_cons, List.length_nil, Int.toNat_zero]); omega)), h1, trivial⟩
    | false =>
      have q1 := bne_eq_false_iff_eq.1 h1
      have e : (F16_L a0 a1 a2 a3 a4) = ((F56_L a0 a1 a2 a3 a4).1, (F56_L a0 a1 a2 a3 a4).2) := by simp only [F16_L, h0, h1, cond_true, cond_false]
      rw [e]
      refine con_of (n := 9) Tryz.func16 rfl (ent Tryz.func16 (by kernel_rfl) rfl) (by show 5 ≤ Tryz.f16.ntmps; decide) (by kernel_rfl) ⟨rfl, trivial⟩ (fun cx hcx => ?_)
      exact ret_of (T := T0) hT hm (f := 5000) (orc := [.call [] (.v (.bool (F52 a1))) [], .d false, .call [0] (iv (F60_L a0 false)) [], .d false, (oC16_L_0 a0 a1 a2 a3 a4)]) [] [] [] hcx
        (obs := [.call 52 [(.a (k3 a1))] [] (.v (.bool (F52 a1))) [], .eq (F52 a1) false, (oC16_L_2 a0), .eq (((F60_L a0 false) : Int) != 0) false, (oC16_L_1 a0 a1 a2 a3 a4)]) (by kernel_rfl) ⟨(C52 a1), h0, (C60_L a0 false (by (try simp only [List.length_append, List.length_cons, List.length_nil, Int.toNat_zero]); omega)), h1, (C56_L a0 a1 a2 a3 a4 (by (try simp only [List.length_append, List.length_cons, List.length_nil, Int.toNat_zero]); omega) (by first | exact ckL_v h1 | exact ckL_v h2 | exact ckL_v h3) (by first | exact isp_p h0 | exact absurd (ckL_b h1) (by decide) | exact absurd (ckL_b h2) (by decide) | exact absurd (ckL_b h3) (by decide)) (by first | exact iss_p h1 | exact absurd (ckL_b h1) (by decide) | exact absurd (ckL_b h2) (by decide) | exact absurd (ckL_b h3) (by decide)) (by first | exact ist_p h2 | exact absurd (ckL_b h1) (by decide) | exact absurd (ckL_b h2) (by decide) | exact absurd (ckL_b h3) (by decide)) (by first | exact isd_p (ckL_b h3) | exact absurd (ckL_b h1) (by decide) | exact absurd (ckL_b h2) (by decide) | exact absurd (ckL_b h3) (by decide))), trivial⟩

end Go.Proofs.YtnkeljlllagddaaGreat

namespace Go.Proofs.YtnkeljlllagddaaGreat
open Go.Proofs Go.Aw Go.RowKit
set_option maxRecDepth 100000
set_option linter.unusedVariables false
set_option linter.unusedSimpArgs false

/-! ### What is heard of all pulses -/
/-- a sum of pulses that are heard stays small -/
def bw (a : Int × Int) : Prop := -53687091300 ≤ a.1 ∧ a.1 ≤ a.2 ∧ a.2 ≤ 53687091300
theorem bw_vs {a : Int × Int} (h : bw a) : vs a := by unfold bw vs at *; omega
theorem sums_le : ∀ {l : List (Int × Int)} {v : Int × Int}, (∀ a ∈ l, okE a) → v.1 ≤ (sums l v).1 ∧ v.2 ≤ (sums l v).2 ∧ (sums l v).2 ≤ v.2 + 536870913 * l.length ∧ (v.1 ≤ v.2 → (sums l v).1 ≤ (sums l v).2)
  | [], v, _ => by simp only [sums, List.length_nil]; omega
  | a :: l, v, h => by
    have ha := h a List.mem_cons_self
    unfold okE at ha
    have ih := sums_le (l := l) (v := (v.1 + a.1, v.2 + a.2)) (fun b hb => h b (List.mem_cons_of_mem _ hb))
    simp only [sums, List.length_cons] at ih ⊢
    omega
theorem avg_small {l : List (Int × Int)} {n : Int} (hn : n = 1 ∨ n = 4 ∨ n = 16 ∨ n = 64) (hl : ∀ a ∈ l, okE a) (hk : ((l.length : Nat) : Int) = n) : okE (avg (sums l (0, 0)) n) := by
  have h := sums_le (v := (0, 0)) hl
  simp only at h
  unfold okE avg
  simp only
  rcases hn with rfl | rfl | rfl | rfl <;> omega
theorem sat_small {x n : Int} (hx : 0 ≤ x ∧ x ≤ 536870913) (hn : -100 ≤ n ∧ n ≤ 100) : sat x n = x * n ∧ -53687091300 ≤ x * n ∧ x * n ≤ 53687091300 := by
  have h := mul_bd (a := 536870913) (b := 100) (x := x) (y := n) ⟨by omega, hx.2⟩ hn
  unfold sat
  refine ⟨?_, by omega, by omega⟩
  rw [if_neg (by omega), if_neg (by omega)]
theorem scl_small {a : Int × Int} {n : Int} (ha : okE a) (hn : -100 ≤ n ∧ n ≤ 100) : bw (scl a n) := by
  unfold okE at ha
  have h1 := sat_small (x := a.1) ⟨ha.1, by omega⟩ hn
  have h2 := sat_small (x := a.2) ⟨by omega, ha.2.2⟩ hn
  unfold bw scl
  by_cases h : n < 0
  · have := sat_anti (n := n) ha.2.1 (by omega)
    rw [if_pos h]; simp only; omega
  · have := sat_mono (n := n) ha.2.1 (by omega)
    rw [if_neg h]; simp only; omega
theorem shG_map (p : PU) (x : P3) (s t d : Int) (k : List PN) : ∀ a ∈ k.map (fun c => (shG p x s t d c).1), okE a := by
  intro a ha
  obtain ⟨c, _, rfl⟩ := List.mem_map.1 ha
  exact shG_ok _ _ _ _ _ _
/-- what is heard of a pulse, without the span's limits -/
noncomputable def hrT (p : PU) (x : P3) (s t d : Int) : (Int × Int) × Int :=
  if t - p.2.1 < 1 then ((0, 0), 0) else out8 (fun l => (scl (avg (sums l (0, 0)) (sc d * sc d)) p.2.2, 0)) (fun e => ((0, 0), e)) (shs (shG p x s t d) (cutL d.toNat p.1) [])
theorem hrS_T {p : PU} {x : P3} {s t d : Int} (hp : POK p) (hd : 0 ≤ d ∧ d ≤ 3) : hrS p x s t d = hrT p x s t d := by
  unfold hrS hrT
  split
  · rfl
  · refine out8_ok (fun _ => ?_)
    have hb := scl_small (avg_small (cnt_in d) (shG_map p x s t d (cutL d.toNat p.1)) (by rw [List.length_map]; exact cnt_len hd p.1)) hp.2.2
    unfold bw at hb
    unfold hrE
    rw [res_f (by omega) (by omega) (by omega)]
theorem hrT_bw {p : PU} {x : P3} {s t d : Int} (hp : POK p) (hd : 0 ≤ d ∧ d ≤ 3) : bw (hrT p x s t d).1 := by
  unfold hrT
  split
  · unfold bw; simp
  · cases e : shs (shG p x s t d) (cutL d.toNat p.1) [] with
    | inr r => unfold bw out8; simp
    | inl m =>
      obtain ⟨h1, _⟩ := shs_inl e
      rw [List.nil_append] at h1
      subst h1
      exact scl_small (avg_small (cnt_in d) (shG_map p x s t d (cutL d.toNat p.1)) (by rw [List.length_map]; exact cnt_len hd p.1)) hp.2.2
theorem sums_bw : ∀ {l : List (Int × Int)} {v : Int × Int}, (∀ a ∈ l, bw a) → v.1 ≤ v.2 → v.1 - 53687091300 * l.length ≤ (sums l v).1 ∧ (sums l v).1 ≤ (sums l v).2 ∧ (sums l v).2 ≤ v.2 + 53687091300 * l.length
  | [], v, _, h => by simp only [sums, List.length_nil]; omega
  | a :: l, v, h, hv => by
    have ha := h a List.mem_cons_self
    unfold bw at ha
    have ih := sums_bw (l := l) (v := (v.1 + a.1, v.2 + a.2)) (fun b hb => h b (List.mem_cons_of_mem _ hb)) (by simp only; omega)
    simp only [sums, List.length_cons] at ih ⊢
    omega
theorem sumV_bw {l : List (Int × Int)} (h : ∀ a ∈ l, bw a) (hl : l.length ≤ 16) : sumV l = (sums l (0, 0), 0) ∧ vs (sums l (0, 0)) := by
  have hb := sums_bw (v := (0, 0)) h (by simp)
  simp only at hb
  have hv : vs (sums l (0, 0)) := by unfold vs; omega
  refine ⟨?_, hv⟩
  unfold sumV
  rw [res_f hv.1 hv.2.1 hv.2.2]
/-- what is heard of all pulses -/
noncomputable def scS (l : List PU) (x : P3) (s t d : Int) : (Int × Int) × Int := out8 (fun m => (sums m (0, 0), 0)) (fun e => ((0, 0), e)) (shs (fun p => hrT p x s t d) l [])
theorem mem_some {α : Type} {l : List α} {i : Nat} {c : α} (h : l[i]? = some c) : c ∈ l := by
  obtain ⟨hlt, hce⟩ := List.getElem?_eq_some_iff.1 h
  exact hce ▸ List.getElem_mem hlt
section
variable {l : List PU} {x : P3} {s t d : Int}
theorem scene_f (hv : vpL l = 0) (hx : bd 256 x) (hs : 1 ≤ s ∧ s ≤ 16) (ht : 0 ≤ t ∧ t ≤ 2000) (hd : 0 ≤ d ∧ d ≤ 3) : F56_L l x s t d = scS l x s t d := by
  obtain ⟨hl, hp⟩ := vpL_ok hv
  unfold F56_L F62_L_c122 scS
  have key := shs_loopF (g := fun p => hrT p x s t d) (S := S62_L_c122_0 l x s t d) (E := fun e => (((0, 0) : Int × Int), e)) (L := l)
    (G := fun m => ((F73_L m).1, (F73_L m).2)) (fun i c hi m => ?_) (fun m => ?_) l 0 (Int.toNat (((l.length : Nat) : Int) - 0) + 1) [] rfl (Nat.zero_le _) (by omega)
  · show (loopF (S62_L_c122_0 l x s t d) (Int.toNat (((l.length : Nat) : Int) - 0) + 1) ([], ((0 : Nat) : Int))) = _
    rw [key]
    refine out8_ok (fun _ => ?_)
    have hb : ∀ a ∈ l.map (fun c => (hrT c x s t d).1), bw a := fun a ha => by
      obtain ⟨c, hc, rfl⟩ := List.mem_map.1 ha
      exact hrT_bw (hp c hc) hd
    rw [Sum_f (fun a ha => bw_vs (hb a ha)) (by rw [List.length_map]; omega)]
    exact (sumV_bw hb (by rw [List.length_map]; exact hl)).1
  · obtain ⟨hg, hlt⟩ := getD_some hi
    have e : F122 c x s t d = hrT c x s t d := by
      unfold F122
      rw [heard_f (hp c (mem_some hi)) hx hs ht hd, hrS_T (hp c (mem_some hi)) hd]
    simp only [S62_L_c122_0]
    rw [decide_eq_true (show ((i : Nat) : Int) < (l.length : Nat) by omega), cond_true, Int.toNat_natCast, hg, e]; rfl
  · simp only [S62_L_c122_0]
    rw [decide_eq_false (Int.lt_irrefl _), cond_false]
theorem scene_r (hv : vpL l = 0) (hx : bd 256 x) (hs : 1 ≤ s ∧ s ≤ 16) (ht : 0 ≤ t ∧ t ≤ 2000) (hd : 0 ≤ d ∧ d ≤ 3) : F59_L l x s t d = scS l x s t d := by
  obtain ⟨hl, hp⟩ := vpL_ok hv
  unfold F59_L scS
  have key := shs_loopF (g := fun p => hrT p x s t d) (S := S59_L_0 l x s t d) (E := fun e => (((0, 0) : Int × Int), e)) (L := l)
    (G := fun m => ((F68_L m).1, (F68_L m).2)) (fun i c hi m => ?_) (fun m => ?_) l 0 (Int.toNat (((l.length : Nat) : Int) - 0) + 1) [] rfl (Nat.zero_le _) (by omega)
  · show (loopF (S59_L_0 l x s t d) (Int.toNat (((l.length : Nat) : Int) - 0) + 1) ([], ((0 : Nat) : Int))) = _
    rw [key]
    refine out8_ok (fun _ => ?_)
    have hb : ∀ a ∈ l.map (fun c => (hrT c x s t d).1), bw a := fun a ha => by
      obtain ⟨c, hc, rfl⟩ := List.mem_map.1 ha
      exact hrT_bw (hp c hc) hd
    rw [Sum_r (fun a ha => bw_vs (hb a ha)) (by rw [List.length_map]; omega)]
    exact (sumV_bw hb (by rw [List.length_map]; exact hl)).1
  · obtain ⟨hg, hlt⟩ := getD_some hi
    simp only [S59_L_0]
    rw [decide_eq_true (show ((i : Nat) : Int) < (l.length : Nat) by omega), cond_true, Int.toNat_natCast, hg, heard_r (hp c (mem_some hi)) hx hs ht hd, hrS_T (hp c (mem_some hi)) hd]; rfl
  · simp only [S59_L_0]
    rw [decide_eq_false (Int.lt_irrefl _), cond_false]
end
/-- what is asked of a point, a speed, a tick and a depth -/
def askd (x : P3) (s t d : Int) : Prop := bd 256 x ∧ (1 ≤ s ∧ s ≤ 16) ∧ (0 ≤ t ∧ t ≤ 2000) ∧ (0 ≤ d ∧ d ≤ 3)
noncomputable def scV (l : List PU) (x : P3) (s t d : Int) : (Int × Int) × Int :=
  open Classical in if vpL l = 0 then (if askd x s t d then scS l x s t d else ((0, 0), 1)) else ((0, 0), vpL l)
open Classical in
theorem Scene_f (l : List PU) (x : P3) (s t d : Int) : F16_L l x s t d = scV l x s t d := by
  unfold F16_L scV askd
  rw [isP_f, isS_f, isT_f, isD_f]
  simp only [chkL_f]
  by_cases h : vpL l = 0
  · by_cases h1 : bd 256 x
    · by_cases h2 : 1 ≤ s ∧ s ≤ 16
      · by_cases h3 : 0 ≤ t ∧ t ≤ 2000
        · by_cases h4 : 0 ≤ d ∧ d ≤ 3
          · rw [scene_f h h1 h2 h3 h4]; simp [h, h1, h2, h3, h4]
          · simp [h, h1, h2, h3, h4]
        · simp [h, h1, h2, h3]
      · simp [h, h1, h2]
    · simp [h, h1]
  · simp only [if_neg h, bne_iff_ne.2 h, cond_true]
    cases decide (bd 256 x) <;> cases decide (1 ≤ s ∧ s ≤ 16) <;> cases decide (0 ≤ t ∧ t ≤ 2000) <;> rfl
end Go.Proofs.YtnkeljlllagddaaGreat

namespace Go.Proofs.YtnkeljlllagddaaGreat
open Go.Proofs Go.Aw Go.RowKit
set_option maxRecDepth 100000
set_option linter.unusedVariables false
set_option linter.unusedSimpArgs false

/-- facet/sound.Total$1 -/
def F63 (a0 : ((Int × Int × Int) × (Int × Int × Int) × Int × Int × Int) × Int × Int) (a1 : Int × Int × Int) (a2 : Int) : (Int × Int) × Int :=
  (bif (((F64 a0.1 a1 a2).2 : Int) != 0) then
   ((0, 0), (F64 a0.1 a1 a2).2)
  else
   ((F65 (F64 a0.1 a1 a2).1 a0.2.2).1, (F65 (F64 a0.1 a1 a2).1 a0.2.2).2))

theorem C63 (a0 : ((Int × Int × Int) × (Int × Int × Int) × Int × Int × Int) × Int × Int) (a1 : Int × Int × Int) (a2 : Int) : Con Tryz.prog 63 [(.a [(iv a0.1.1.1), (iv a0.1.1.2.1), (iv a0.1.1.2.2), (iv a0.1.2.1.1), (iv a0.1.2.1.2.1), (iv a0.1.2.1.2.2), (iv a0.1.2.2.1), (iv a0.1.2.2.2.1), (iv a0.1.2.2.2.2), (iv a0.2.1), (iv a0.2.2)]), (.p 0 0), (.p 1 0)] [(.live false false (k3 a1)), (.live false false [(iv a2)])] (.t [(.a (k2 (F63 a0 a1 a2).1)), (iv (F63 a0 a1 a2).2)]) [] := by
  cases h0 : (((F64 a0.1 a1 a2).2 : Int) != 0) with
  | true =>
    have q0 := bne_iff_ne.1 h0
    have e : (F63 a0 a1 a2) = ((0, 0), (F64 a0.1 a1 a2).2) := by simp only [F63, h0, cond_true, cond_false]
    rw [e]
    refine con_of (n := 9) Tryz.func63 rfl (ent Tryz.func63 (by kernel_rfl) rfl) (by show 3 ≤ Tryz.f63.ntmps; decide) (by kernel_rfl) ⟨rfl, rfl, trivial⟩ (fun cx hcx => ?_)
    exact ret_of (T := T0) hT hm (f := 5000) (orc := [.call [] (.t [(.a (k2 (F64 a0.1 a1 a2).1)), (iv (F64 a0.1 a1 a2).2)]) [], .d true]) [] [] [] hcx
      (obs := [.call 64 [(.a (k9 a0.1)), (.a (k3 a1)), (iv a2)] [] (.t [(.a (k2 (F64 a0.1 a1 a2).1)), (iv (F64 a0.1 a1 a2).2)]) [], .eq (((F64 a0.1 a1 a2).2 : Int) != 0) true]) (by kernel_rfl) ⟨(C64 a0.1 a1 a2), h0, trivial⟩
  | false =>
    have q0 := bne_eq_false_iff_eq.1 h0
    have e : (F63 a0 a1 a2) = ((F65 (F64 a0.1 a1 a2).1 a0.2.2).1, (F65 (F64 a0.1 a1 a2).1 a0.2.2).2) := by simp only [F63, h0, cond_true, cond_false]
    rw [e]
    refine con_of (n := 9) Tryz.func63 rfl (ent Tryz.func63 (by kernel_rfl) rfl) (by show 3 ≤ Tryz.f63.ntmps; decide) (by kernel_rfl) ⟨rfl, rfl, trivial⟩ (fun cx hcx => ?_)
    exact ret_of (T := T0) hT hm (f := 5000) (orc := [.call [] (.t [(.a (k2 (F64 a0.1 a1 a2).1)), (iv (F64 a0.1 a1 a2).2)]) [], .d false, .call [] (.t [(.a (k2 (F65 (F64 a0.1 a1 a2).1 a0.2.2).1)), (iv (F65 (F64 a0.1 a1 a2).1 a0.2.2).2)]) []]) [] [] [] hcx
      (obs := [.call 64 [(.a (k9 a0.1)), (.a (k3 a1)), (iv a2)] [] (.t [(.a (k2 (F64 a0.1 a1 a2).1)), (iv (F64 a0.1 a1 a2).2)]) [], .eq (((F64 a0.1 a1 a2).2 : Int) != 0) false, .call 65 [(.a (k2 (F64 a0.1 a1 a2).1)), (iv a0.2.2)] [] (.t [(.a (k2 (F65 (F64 a0.1 a1 a2).1 a0.2.2).1)), (iv (F65 (F64 a0.1 a1 a2).1 a0.2.2).2)]) []]) (by kernel_rfl) ⟨(C64 a0.1 a1 a2), h0, (C65 (F64 a0.1 a1 a2).1 a0.2.2), trivial⟩

noncomputable def B62_L_c63_0 : Code := (loopAtD [1, 1, 0, 1] [] (Tryz.f62.body.getD .skip) []).1
noncomputable def K62_L_c63_0 : List K := (loopAtD [1, 1, 0, 1] [] (Tryz.f62.body.getD .skip) []).2

/-- a round of loop 0 of facet/sound.sum; the variables: v2 = s6, v3 = s13 -/
def S62_L_c63_0 (a0 : List (((Int × Int × Int) × (Int × Int × Int) × Int × Int × Int) × Int × Int)) (a1_0 : Int × Int × Int) (a1_1 : Int) : (List (Int × Int)) × Int → ((List (Int × Int)) × Int) ⊕ ((Int × Int) × Int)
  | (v2, v3) =>
   (bif (decide ((v3 : Int) < ((a0.length : Nat) : Int))) then
    (bif (((F63 (a0.getD (Int.toNat v3) default) a1_0 a1_1).2 : Int) != 0) then
     (.inr ((0, 0), (F63 (a0.getD (Int.toNat v3) default) a1_0 a1_1).2))
    else
     (.inl ((v2 ++ [(F63 (a0.getD (Int.toNat v3) default) a1_0 a1_1).1]), (v3 + 1))))
   else
    (.inr ((F73_L v2).1, (F73_L v2).2)))

set_option maxHeartbeats 4000000 in
theorem L62_L_c63_0 (a0 : List (((Int × Int × Int) × (Int × Int × Int) × Int × Int × Int) × Int × Int)) (a1_0 : Int × Int × Int) (a1_1 : Int) (l0 : a0.length ≤ 9223372036854775807) (hv : vpL a0 = 0) {cx : Cx} (hcx : cx.base = 3) : ∀ (n : Nat) (v2 : List (Int × Int)) (v3 : Int), (0 ≤ v3) ∧ (v2.length = Int.toNat v3) ∧ (v3 ≤ a0.length) → Int.toNat (((a0.length : Nat) : Int) - v3) < n → Aw.Good Tryz.prog none 9 (bodyPost Tryz.prog Tryz.f62 (RR cx (.t [(.a (k2 (loopF (S62_L_c63_0 a0 a1_0 a1_1) n (v2, v3)).1)), (iv (loopF (S62_L_c63_0 a0 a1_0 a1_1) n (v2, v3)).2)]) [] [])) cx [] (.l B62_L_c63_0 n :: K62_L_c63_0) ⟨[.u, (.f 63 [(.p 1 0), (.p 2 0)]), .u, .u, (.p 3 0), .u, (.s 4 0 v2.length 2), .u, .u, .u, .u, (.s 0 0 a0.length 11), (iv ((a0.length : Nat) : Int)), (iv v3), .u, .u, .u, .u, .u, .u, .u, .u, .u, .u, .u, .u, .u, .u, .u, .u, .u, .u, .u, .u, .u, .u], [(.live false true (flat c67 a0)), (.live false false (k3 a1_0)), (.live false false [(iv a1_1)]), (.live true false [(iv 0), (iv 0)]), (.live true true (flat c29 v2))]⟩ := by
  intro n
  induction n with
  | zero => intro v2 v3 hi hn; exact absurd hn (Nat.not_lt_zero _)
  | succ n ih =>
    intro v2 v3 hi hn
    refine good_round ?_
    cases h0 : (decide ((v3 : Int) < ((a0.length : Nat) : Int))) with
    | true =>
      cases h1 : (((F63 (a0.getD (Int.toNat v3) default) a1_0 a1_1).2 : Int) != 0) with
      | true =>
        have q0 := of_decide_eq_true h0
        have q1 := bne_iff_ne.1 h1
        have hl16 := (vpL_ok hv).1
        have e : S62_L_c63_0 a0 a1_0 a1_1 (v2, v3) = (.inr ((0, 0), (F63 (a0.getD (Int.toNat v3) default) a1_0 a1_1).2)) := by simp only [S62_L_c63_0, h0, h1, cond_true, cond_false]
        rw [show loopF (S62_L_c63_0 a0 a1_0 a1_1) (n + 1) (v2, v3) = thenF (S62_L_c63_0 a0 a1_0 a1_1) n (S62_L_c63_0 a0 a1_0 a1_1 (v2, v3)) from rfl, e]
        exact ret_of (T := T0) hT hm (f := 5000) (orc := [.d true, .ld [(iv (a0.getD (Int.toNat v3) default).1.1.1), (iv (a0.getD (Int.toNat v3) default).1.1.2.1), (iv (a0.getD (Int.toNat v3) default).1.1.2.2), (iv (a0.getD (Int.toNat v3) default).1.2.1.1), (iv (a0.getD (Int.toNat v3) default).1.2.1.2.1), (iv (a0.getD (Int.toNat v3) default).1.2.1.2.2), (iv (a0.getD (Int.toNat v3) default).1.2.2.1), (iv (a0.getD (Int.toNat v3) default).1.2.2.2.1), (iv (a0.getD (Int.toNat v3) default).1.2.2.2.2), (iv (a0.getD (Int.toNat v3) default).2.1), (iv (a0.getD (Int.toNat v3) default).2.2)], .call [1, 2] (.t [(.a (k2 (F63 (a0.getD (Int.toNat v3) default) a1_0 a1_1).1)), (iv (F63 (a0.getD (Int.toNat v3) default) a1_0 a1_1).2)]) [], .d true]) [] [] [] hcx
          (obs := [.eq (decide ((v3 : Int) < ((a0.length : Nat) : Int))) true, .pr (0 ≤ (v3 : Int) ∧ (v3 : Int) < ((a0.length : Nat) : Int)), .pr (((((flat c67 a0)).drop (0 + Int.toNat v3 * 11)).take 11) = [(iv (a0.getD (Int.toNat v3) default).1.1.1), (iv (a0.getD (Int.toNat v3) default).1.1.2.1), (iv (a0.getD (Int.toNat v3) default).1.1.2.2), (iv (a0.getD (Int.toNat v3) default).1.2.1.1), (iv (a0.getD (Int.toNat v3) default).1.2.1.2.1), (iv (a0.getD (Int.toNat v3) default).1.2.1.2.2), (iv (a0.getD (Int.toNat v3) default).1.2.2.1), (iv (a0.getD (Int.toNat v3) default).1.2.2.2.1), (iv (a0.getD (Int.toNat v3) default).1.2.2.2.2), (iv (a0.getD (Int.toNat v3) default).2.1), (iv (a0.getD (Int.toNat v3) default).2.2)]), .call 63 [(.a [(iv (a0.getD (Int.toNat v3) default).1.1.1), (iv (a0.getD (Int.toNat v3) default).1.1.2.1), (iv (a0.getD (Int.toNat v3) default).1.1.2.2), (iv (a0.getD (Int.toNat v3) default).1.2.1.1), (iv (a0.getD (Int.toNat v3) default).1.2.1.2.1), (iv (a0.getD (Int.toNat v3) default).1.2.1.2.2), (iv (a0.getD (Int.toNat v3) default).1.2.2.1), (iv (a0.getD (Int.toNat v3) default).1.2.2.2.1), (iv (a0.getD (Int.toNat v3) default).1.2.2.2.2), (iv (a0.getD (Int.toNat v3) default).2.1), (iv (a0.getD (Int.toNat v3) default).2.2)]), (.p 0 0), (.p 1 0)] [(.live false false (k3 a1_0)), (.live false false [(iv a1_1)])] (.t [(.a (k2 (F63 (a0.getD (Int.toNat v3) default) a1_0 a1_1).1)), (iv (F63 (a0.getD (Int.toNat v3) default) a1_0 a1_1).2)]) [], .eq (((F63 (a0.getD (Int.toNat v3) default) a1_0 a1_1).2 : Int) != 0) true]) (by kernel_rfl) ⟨h0, (show 0 ≤ (v3 : Int) ∧ (v3 : Int) < ((a0.length : Nat) : Int) from by first | omega | (rw [W_eq] <;> omega) | exact u64_nn _), (ld_part c67_len default a0 v3 0 11 (by omega) (by decide) (by omega) rfl), (C63 (a0.getD (Int.toNat v3) default) a1_0 a1_1), h1, trivial⟩
      | false =>
        have q0 := of_decide_eq_true h0
        have q1 := bne_eq_false_iff_eq.1 h1
        have hl16 := (vpL_ok hv).1
        have e : S62_L_c63_0 a0 a1_0 a1_1 (v2, v3) = (.inl ((v2 ++ [(F63 (a0.getD (Int.toNat v3) default) a1_0 a1_1).1]), (v3 + 1))) := by simp only [S62_L_c63_0, h0, h1, cond_true, cond_false]
        rw [loopF_inl e]
        refine back_of (T := T0) hT hm (f := 5000) (orc := [.d true, .ld [(iv (a0.getD (Int.toNat v3) default).1.1.1), (iv (a0.getD (Int.toNat v3) default).1.1.2.1), (iv (a0.getD (Int.toNat v3) default).1.1.2.2), (iv (a0.getD (Int.toNat v3) default).1.2.1.1), (iv (a0.getD (Int.toNat v3) default).1.2.1.2.1), (iv (a0.getD (Int.toNat v3) default).1.2.1.2.2), (iv (a0.getD (Int.toNat v3) default).1.2.2.1), (iv (a0.getD (Int.toNat v3) default).1.2.2.2.1), (iv (a0.getD (Int.toNat v3) default).1.2.2.2.2), (iv (a0.getD (Int.toNat v3) default).2.1), (iv (a0.getD (Int.toNat v3) default).2.2)], .call [1, 2] (.t [(.a (k2 (F63 (a0.getD (Int.toNat v3) default) a1_0 a1_1).1)), (iv (F63 (a0.getD (Int.toNat v3) default) a1_0 a1_1).2)]) [], .d false]) [] [1, 4, 6, 11, 12, 13] [3, 8] hcx (body := B62_L_c63_0) (m := n) (k' := K62_L_c63_0) (s' := ⟨[.u, (.f 63 [(.p 1 0), (.p 2 0)]), .u, .u, (.p 3 0), .u, (.s 4 0 (v2.length + 1) 2), .u, .u, .u, .u, (.s 0 0 a0.length 11), (iv ((a0.length : Nat) : Int)), (iv (W (v3 + 1))), .u, .u, .u, .u, .u, .u, .u, .u, .u, .u, .u, .u, .u, .u, .u, .u, .u, .u, .u, .u, .u, .u], [(.live false true (flat c67 a0)), (.live false false (k3 a1_0)), (.live false false [(iv a1_1)]), (.live true false [(iv 0), (iv 0)]), (.live true true (flat c29 v2 ++ (k2 (F63 (a0.getD (Int.toNat v3) default) a1_0 a1_1).1)))]⟩)
          (obs := [.eq (decide ((v3 : Int) < ((a0.length : Nat) : Int))) true, .pr (0 ≤ (v3 : Int) ∧ (v3 : Int) < ((a0.length : Nat) : Int)), .pr (((((flat c67 a0)).drop (0 + Int.toNat v3 * 11)).take 11) = [(iv (a0.getD (Int.toNat v3) default).1.1.1), (iv (a0.getD (Int.toNat v3) default).1.1.2.1), (iv (a0.getD (Int.toNat v3) default).1.1.2.2), (iv (a0.getD (Int.toNat v3) default).1.2.1.1), (iv (a0.getD (Int.toNat v3) default).1.2.1.2.1), (iv (a0.getD (Int.toNat v3) default).1.2.1.2.2), (iv (a0.getD (Int.toNat v3) default).1.2.2.1), (iv (a0.getD (Int.toNat v3) default).1.2.2.2.1), (iv (a0.getD (Int.toNat v3) default).1.2.2.2.2), (iv (a0.getD (Int.toNat v3) default).2.1), (iv (a0.getD (Int.toNat v3) default).2.2)]), .call 63 [(.a [(iv (a0.getD (Int.toNat v3) default).1.1.1), (iv (a0.getD (Int.toNat v3) default).1.1.2.1), (iv (a0.getD (Int.toNat v3) default).1.1.2.2), (iv (a0.getD (Int.toNat v3) default).1.2.1.1), (iv (a0.getD (Int.toNat v3) default).1.2.1.2.1), (iv (a0.getD (Int.toNat v3) default).1.2.1.2.2), (iv (a0.getD (Int.toNat v3) default).1.2.2.1), (iv (a0.getD (Int.toNat v3) default).1.2.2.2.1), (iv (a0.getD (Int.toNat v3) default).1.2.2.2.2), (iv (a0.getD (Int.toNat v3) default).2.1), (iv (a0.getD (Int.toNat v3) default).2.2)]), (.p 0 0), (.p 1 0)] [(.live false false (k3 a1_0)), (.live false false [(iv a1_1)])] (.t [(.a (k2 (F63 (a0.getD (Int.toNat v3) default) a1_0 a1_1).1)), (iv (F63 (a0.getD (Int.toNat v3) default) a1_0 a1_1).2)]) [], .eq (((F63 (a0.getD (Int.toNat v3) default) a1_0 a1_1).2 : Int) != 0) false, .pr ((flat c29 v2).length = v2.length * 2 ∧ v2.length + 1 ≤ 2 ^ 40 ∧ (v2.length + 1) * 16 ≤ 2 ^ 47)]) (by kernel_rfl) ⟨h0, (show 0 ≤ (v3 : Int) ∧ (v3 : Int) < ((a0.length : Nat) : Int) from by first | omega | (rw [W_eq] <;> omega) | exact u64_nn _), (ld_part c67_len default a0 v3 0 11 (by omega) (by decide) (by omega) rfl), (C63 (a0.getD (Int.toNat v3) default) a1_0 a1_1), h1, (app_ok c29_len (by omega) (by omega)), trivial⟩ ?_
        have z0 : (W (v3 + 1)) = (v3 + 1) := W_eq (by omega) (by omega)
        have z1 : (flat c29 v2 ++ (k2 (F63 (a0.getD (Int.toNat v3) default) a1_0 a1_1).1)) = (flat c29 (v2 ++ [(F63 (a0.getD (Int.toNat v3) default) a1_0 a1_1).1])) := (flat_append (c := c29) (l := v2) (m := [(F63 (a0.getD (Int.toNat v3) default) a1_0 a1_1).1])).symm
        have z2 : (v2.length + 1) = (v2 ++ [(F63 (a0.getD (Int.toNat v3) default) a1_0 a1_1).1]).length := len_app v2 [(F63 (a0.getD (Int.toNat v3) default) a1_0 a1_1).1] rfl
        rw [z0, z1, z2]
        exact ih (v2 ++ [(F63 (a0.getD (Int.toNat v3) default) a1_0 a1_1).1]) (v3 + 1) (by refine ⟨?_, ?_, ?_⟩ <;> (try simp only [List.length_append, List.length_cons, List.length_nil, Int.toNat_zero]) <;> first | omega | assumption | simp) (by (try simp only [List.length_append, List.length_cons, List.length_nil, Int.toNat_zero]); omega)
    | false =>
      have q0 := of_decide_eq_false h0
      have hl16 := (vpL_ok hv).1
      have e : S62_L_c63_0 a0 a1_0 a1_1 (v2, v3) = (.inr ((F73_L v2).1, (F73_L v2).2)) := by simp only [S62_L_c63_0, h0, cond_true, cond_false]
      rw [show loopF (S62_L_c63_0 a0 a1_0 a1_1) (n + 1) (v2, v3) = thenF (S62_L_c63_0 a0 a1_0 a1_1) n (S62_L_c63_0 a0 a1_0 a1_1 (v2, v3)) from rfl, e]
      exact ret_of (T := T0) hT hm (f := 5000) (orc := [.d false, .call [4] (.t [(.a (k2 (F73_L v2).1)), (iv (F73_L v2).2)]) []]) [] [] [] hcx
        (obs := [.eq (decide ((v3 : Int) < ((a0.length : Nat) : Int))) false, .call 73 [(.s 0 0 v2.length 2)] [(.live false true (flat c29 v2))] (.t [(.a (k2 (F73_L v2).1)), (iv (F73_L v2).2)]) []]) (by kernel_rfl) ⟨h0, (C73_L v2 (by (try simp only [List.length_append, List.length_cons, List.length_nil, Int.toNat_zero]); omega)), trivial⟩

/-- facet/sound.sum at ('L', 'c63') -/
def F62_L_c63 (a0 : List (((Int × Int × Int) × (Int × Int × Int) × Int × Int × Int) × Int × Int)) (a1_0 : Int × Int × Int) (a1_1 : Int) : (Int × Int) × Int :=
  (loopF (S62_L_c63_0 a0 a1_0 a1_1) (Int.toNat (((a0.length : Nat) : Int) - 0) + 1) (([] : List (Int × Int)), 0))

theorem C62_L_c63 (a0 : List (((Int × Int × Int) × (Int × Int × Int) × Int × Int × Int) × Int × Int)) (a1_0 : Int × Int × Int) (a1_1 : Int) (l0 : a0.length ≤ 9223372036854775807) (hv : vpL a0 = 0) : Con Tryz.prog 62 [(.s 0 0 a0.length 11), (.f 63 [(.p 1 0), (.p 2 0)])] [(.live false true (flat c67 a0)), (.live false false (k3 a1_0)), (.live false false [(iv a1_1)])] (.t [(.a (k2 (F62_L_c63 a0 a1_0 a1_1).1)), (iv (F62_L_c63 a0 a1_0 a1_1).2)]) [] := by
  have e : (F62_L_c63 a0 a1_0 a1_1) = (loopF (S62_L_c63_0 a0 a1_0 a1_1) (Int.toNat (((a0.length : Nat) : Int) - 0) + 1) (([] : List (Int × Int)), 0)) := by simp only [F62_L_c63]
  rw [e]
  refine con_of (n := 9) Tryz.func62 rfl (ent Tryz.func62 (by kernel_rfl) rfl) (by show 2 ≤ Tryz.f62.ntmps; decide) (by kernel_rfl) ⟨rfl, rfl, rfl, trivial⟩ (fun cx hcx => ?_)
  refine enter_of (T := T0) hT hm (f := 5000) (orc := []) [.slot 6 2] [1, 4, 6, 11, 12, 13] [3, 4] hcx (body := B62_L_c63_0) (k' := K62_L_c63_0) (s' := ⟨[.u, (.f 63 [(.p 1 0), (.p 2 0)]), .u, .u, (.p 3 0), .u, (.s 4 0 0 2), .u, .u, .u, .u, (.s 0 0 a0.length 11), (iv ((a0.length : Nat) : Int)), (iv 0), .u, .u, .u, .u, .u, .u, .u, .u, .u, .u, .u, .u, .u, .u, .u, .u, .u, .u, .u, .u, .u, .u], [(.live false true (flat c67 a0)), (.live false false (k3 a1_0)), (.live false false [(iv a1_1)]), (.live true false [(iv 0), (iv 0)]), (.live true true (flat c29 ([] : List (Int × Int))))]⟩)
    (obs := []) (by kernel_rfl) trivial ⟨Int.toNat (((a0.length : Nat) : Int) - 0) + 1, ?_⟩
  exact L62_L_c63_0 a0 a1_0 a1_1 l0 hv hcx (Int.toNat (((a0.length : Nat) : Int) - 0) + 1) ([] : List (Int × Int)) 0 (by refine ⟨?_, ?_, ?_⟩ <;> (try simp only [List.length_append, List.length_cons, List.length_nil, Int.toNat_zero]) <;> first | omega | assumption | simp) (by (try simp only [List.length_append, List.length_cons, List.length_nil, Int.toNat_zero]); omega)

/-- facet/sound.Total at ('L',) -/
def F18_L (a0 : List (((Int × Int × Int) × (Int × Int × Int) × Int × Int × Int) × Int × Int)) (a1 : Int × Int × Int) (a2 : Int) : (Int × Int) × Int :=
  (bif (F52 a1) then
   (bif (((F60_L a0 (F55 a2)) : Int) != 0) then
    ((0, 0), (F60_L a0 (F55 a2)))
   else
    ((F62_L_c63 a0 a1 a2).1, (F62_L_c63 a0 a1 a2).2))
  else
   (bif (((F60_L a0 false) : Int) != 0) then
    ((0, 0), (F60_L a0 false))
   else
    ((F62_L_c63 a0 a1 a2).1, (F62_L_c63 a0 a1 a2).2)))

noncomputable def oC18_L_0 (a0 : List (((Int × Int × Int) × (Int × Int × Int) × Int × Int × Int) × Int × Int)) (a1 : Int × Int × Int) (a2 : Int) : Ob := .call 62 [(.s 0 0 a0.length 11), (.f 63 [(.p 1 0), (.p 2 0)])] [(.live false true (flat c67 a0)), (.live false false (k3 a1)), (.live false false [(iv a2)])] (.t [(.a (k2 (F62_L_c63 a0 a1 a2).1)), (iv (F62_L_c63 a0 a1 a2).2)]) []
theorem C18_L (a0 : List (((Int × Int × Int) × (Int × Int × Int) × Int × Int × Int) × Int × Int)) (a1 : Int × Int × Int) (a2 : Int) (l0 : a0.length ≤ 9223372036854775807) : Con Tryz.prog 18 [(.s 0 0 a0.length 11), (.a (k3 a1)), (iv a2)] [(.live false true (flat c67 a0))] (.t [(.a (k2 (F18_L a0 a1 a2).1)), (iv (F18_L a0 a1 a2).2)]) [] := by
  cases h0 : (F52 a1) with
  | true =>
    cases h1 : (((F60_L a0 (F55 a2)) : Int) != 0) with
    | true =>
      have q1 := bne_iff_ne.1 h1
      have e : (F18_L a0 a1 a2) = ((0, 0), (F60_L a0 (F55 a2))) := by simp only [F18_L, h0, h1, cond_true, cond_false]
      rw [e]
      refine con_of (n := 9) Tryz.func18 rfl (ent Tryz.func18 (by kernel_rfl) rfl) (by show 3 ≤ Tryz.f18.ntmps; decide) (by kernel_rfl) ⟨rfl, trivial⟩ (fun cx hcx => ?_)
      exact ret_of (T := T0) hT hm (f := 5000) (orc := [.call [] (.v (.bool (F52 a1))) [], .d true, .call [] (.v (.bool (F55 a2))) [], .call [0] (iv (F60_L a0 (F55 a2))) [], .d true]) [] [] [] hcx
        (obs := [.call 52 [(.a (k3 a1))] [] (.v (.bool (F52 a1))) [], .eq (F52 a1) true, .call 55 [(iv a2)] [] (.v (.bool (F55 a2))) [], .call 60 [(.s 0 0 a0.length 11), (.v (.bool (F55 a2)))] [(.live false true (flat c67 a0))] (iv (F60_L a0 (F55 a2))) [], .eq (((F60_L a0 (F55 a2)) : Int) != 0) true]) (by kernel_rfl) ⟨(C52 a1), h0, (C55 a2), (C60_L a0 (F55 a2) (by (try simp only [List.length_append, List.length_cons, List.length_nil, Int.toNat_zero]); omega)), h1, trivial⟩
    | false =>
      have q1 := bne_eq_false_iff_eq.1 h1
      have e : (F18_L a0 a1 a2) = ((F62_L_c63 a0 a1 a2).1, (F62_L_c63 a0 a1 a2).2) := by simp only [F18_L, h0, h1, cond_true, cond_false]
      rw [e]
      refine con_of (n := 9) Tryz.func18 rfl (ent Tryz.func18 (by kernel_rfl) rfl) (by show 3 ≤ Tryz.f18.ntmps; decide) (by kernel_rfl) ⟨rfl, trivial⟩ (fun cx hcx => ?_)
      exact ret_of (T := T0) hT hm (f := 5000) (orc := [.call [] (.v (.bool (F52 a1))) [], .d true, .call [] (.v (.bool (F55 a2))) [], .call [0] (iv (F60_L a0 (F55 a2))) [], .d false, .call [0, 1, 2] (.t [(.a (k2 (F62_L_c63 a0 a1 a2).1)), (iv (F62_L_c63 a0 a1 a2).2)]) []]) [] [] [] hcx
        (obs := [.call 52 [(.a (k3 a1))] [] (.v (.bool (F52 a1))) [], .eq (F52 a1) true, .call 55 [(iv a2)] [] (.v (.bool (F55 a2))) [], .call 60 [(.s 0 0 a0.length 11), (.v (.bool (F55 a2)))] [(.live false true (flat c67 a0))] (iv (F60_L a0 (F55 a2))) [], .eq (((F60_L a0 (F55 a2)) : Int) != 0) false, (oC18_L_0 a0 a1 a2)]) (by kernel_rfl) ⟨(C52 a1), h0, (C55 a2), (C60_L a0 (F55 a2) (by (try simp only [List.length_append, List.length_cons, List.length_nil, Int.toNat_zero]); omega)), h1, (C62_L_c63 a0 a1 a2 (by (try simp only [List.length_append, List.length_cons, List.length_nil, Int.toNat_zero]); omega) (by first | exact ckL_v h1 | exact ckL_v h0)), trivial⟩
  | false =>
    cases h1 : (((F60_L a0 false) : Int) != 0) with
    | true =>
      have q1 := bne_iff_ne.1 h1
      have e : (F18_L a0 a1 a2) = ((0, 0), (F60_L a0 false)) := by simp only [F18_L, h0, h1, cond_true, cond_false]
      rw [e]
      refine con_of (n := 9) Tryz.func18 rfl (ent Tryz.func18 (by kernel_rfl) rfl) (by show 3 ≤ Tryz.f18.ntmps; decide) (by kernel_rfl) ⟨rfl, trivial⟩ (fun cx hcx => ?_)
      exact ret_of (T := T0) hT hm (f := 5000) (orc := [.call [] (.v (.bool (F52 a1))) [], .d false, .call [0] (iv (F60_L a0 false)) [], .d true]) [] [] [] hcx
        (obs := [.call 52 [(.a (k3 a1))] [] (.v (.bool (F52 a1))) [], .eq (F52 a1) false, .call 60 [(.s 0 0 a0.length 11), (.v (.bool false))] [(.live false true (flat c67 a0))] (iv (F60_L a0 false)) [], .eq (((F60_L a0 false) : Int) != 0) true]) (by kernel_rfl) ⟨(C52 a1), h0, (C60_L a0 false (by (try simp only [List.length_append, List.length_cons, List.length_nil, Int.toNat_zero]); omega)), h1, trivial⟩
    | false =>
      have q1 := bne_eq_false_iff_eq.1 h1
      have e : (F18_L a0 a1 a2) = ((F62_L_c63 a0 a1 a2).1, (F62_L_c63 a0 a1 a2).2) := by simp only [F18_L, h0, h1, cond_true, cond_false]
      rw [e]
      refine con_of (n := 9) Tryz.func18 rfl (ent Tryz.func18 (by kernel_rfl) rfl) (by show 3 ≤ Tryz.f18.ntmps; decide) (by kernel_rfl) ⟨rfl, trivial⟩ (fun cx hcx => ?_)
      exact ret_of (T := T0) hT hm (f := 5000) (orc := [.call [] (.v (.bool (F52 a1))) [], .d false, .call [0] (iv (F60_L a0 false)) [], .d false, .call [0, 1, 2] (.t [(.a (k2 (F62_L_c63 a0 a1 a2).1)), (iv (F62_L_c63 a0 a1 a2).2)]) []]) [] [] [] hcx
        (obs := [.call 52 [(.a (k3 a1))] [] (.v (.bool (F52 a1))) [], .eq (F52 a1) false, .call 60 [(.s 0 0 a0.length 11), (.v (.bool false))] [(.live false true (flat c67 a0))] (iv (F60_L a0 false)) [], .eq (((F60_L a0 false) : Int) != 0) false, (oC18_L_0 a0 a1 a2)]) (by kernel_rfl) ⟨(C52 a1), h0, (C60_L a0 false (by (try simp only [List.length_append, List.length_cons, List.length_nil, Int.toNat_zero]); omega)), h1, (C62_L_c63 a0 a1 a2 (by (try simp only [List.length_append, List.length_cons, List.length_nil, Int.toNat_zero]); omega) (by first | exact ckL_v h1 | exact ckL_v h0)), trivial⟩

noncomputable def B19_L_0 : Code := (loopAtD [1, 1, 1, 1, 1, 1, 0, 1] [] (Tryz.f19.body.getD .skip) []).1
noncomputable def K19_L_0 : List K := (loopAtD [1, 1, 1, 1, 1, 1, 0, 1] [] (Tryz.f19.body.getD .skip) []).2

/-- a round of loop 0 of facet/facetref08.Total; the variables: v2 = s9, v3 = s10 -/
def S19_L_0 (a0 : List (((Int × Int × Int) × (Int × Int × Int) × Int × Int × Int) × Int × Int)) (a1 : Int × Int × Int) (a2 : Int) : (List (Int × Int)) × Int → ((List (Int × Int)) × Int) ⊕ ((Int × Int) × Int)
  | (v2, v3) =>
   (bif (decide ((v3 : Int) < ((a0.length : Nat) : Int))) then
    (bif (((F66 (a0.getD (Int.toNat v3) default).1 a1 a2).2 : Int) != 0) then
     (.inr ((0, 0), (F66 (a0.getD (Int.toNat v3) default).1 a1 a2).2))
    else
     (bif (((F67 (F66 (a0.getD (Int.toNat v3) default).1 a1 a2).1 (a0.getD (Int.toNat v3) default).2.2).2 : Int) != 0) then
      (.inr ((0, 0), (F67 (F66 (a0.getD (Int.toNat v3) default).1 a1 a2).1 (a0.getD (Int.toNat v3) default).2.2).2))
     else
      (.inl ((v2 ++ [(F67 (F66 (a0.getD (Int.toNat v3) default).1 a1 a2).1 (a0.getD (Int.toNat v3) default).2.2).1]), (v3 + 1)))))
   else
    (.inr ((F68_L v2).1, (F68_L v2).2)))

set_option maxHeartbeats 4000000 in
theorem L19_L_0 (a0 : List (((Int × Int × Int) × (Int × Int × Int) × Int × Int × Int) × Int × Int)) (a1 : Int × Int × Int) (a2 : Int) (l0 : a0.length ≤ 9223372036854775807) {cx : Cx} (hcx : cx.base = 1) : ∀ (n : Nat) (v2 : List (Int × Int)) (v3 : Int), (0 ≤ v3) ∧ (v2.length = Int.toNat v3) ∧ (v3 ≤ a0.length) ∧ (a0.length ≤ 16) → Int.toNat (((a0.length : Nat) : Int) - v3) < n → Aw.Good Tryz.prog none 9 (bodyPost Tryz.prog Tryz.f19 (RR cx (.t [(.a (k2 (loopF (S19_L_0 a0 a1 a2) n (v2, v3)).1)), (iv (loopF (S19_L_0 a0 a1 a2) n (v2, v3)).2)]) [] [])) cx [] (.l B19_L_0 n :: K19_L_0) ⟨[(.s 0 0 a0.length 11), .u, (iv a2), .u, (.p 1 0), .u, (.p 2 0), .u, .u, (.s 3 0 v2.length 2), (iv v3), .u, .u, .u, .u, .u, .u, .u, .u, .u, .u, .u, .u, .u, .u, .u, .u, .u, .u, .u, .u, .u, .u, .u, .u, .u, .u, .u, .u, .u, .u, .u, .u, .u, .u, .u, .u, .u, .u, .u, .u, .u, .u, .u, .u, .u, .u, .u, .u, .u, .u, .u, .u, .u, .u, .u, .u, .u, .u], [(.live false true (flat c67 a0)), (.live true false (k3 a1)), (.live true false [(iv 0), (iv 0)]), (.live true true (flat c29 v2))]⟩ := by
  intro n
  induction n with
  | zero => intro v2 v3 hi hn; exact absurd hn (Nat.not_lt_zero _)
  | succ n ih =>
    intro v2 v3 hi hn
    refine good_round ?_
    cases h0 : (decide ((v3 : Int) < ((a0.length : Nat) : Int))) with
    | true =>
      cases h1 : (((F66 (a0.getD (Int.toNat v3) default).1 a1 a2).2 : Int) != 0) with
      | true =>
        have q0 := of_decide_eq_true h0
        have q1 := bne_iff_ne.1 h1
        have e : S19_L_0 a0 a1 a2 (v2, v3) = (.inr ((0, 0), (F66 (a0.getD (Int.toNat v3) default).1 a1 a2).2)) := by simp only [S19_L_0, h0, h1, cond_true, cond_false]
        rw [show loopF (S19_L_0 a0 a1 a2) (n + 1) (v2, v3) = thenF (S19_L_0 a0 a1 a2) n (S19_L_0 a0 a1 a2 (v2, v3)) from rfl, e]
        exact ret_of (T := T0) hT hm (f := 5000) (orc := [.d true, .ld (k9 (a0.getD (Int.toNat v3) default).1), .call [] (.t [(.a (k2 (F66 (a0.getD (Int.toNat v3) default).1 a1 a2).1)), (iv (F66 (a0.getD (Int.toNat v3) default).1 a1 a2).2)]) [], .d true]) [] [] [] hcx
          (obs := [.eq (decide ((v3 : Int) < ((a0.length : Nat) : Int))) true, .pr (0 ≤ (v3 : Int) ∧ (v3 : Int) < ((a0.length : Nat) : Int)), .pr (((((flat c67 a0)).drop (0 + Int.toNat v3 * 11 + 0)).take 9) = (k9 (a0.getD (Int.toNat v3) default).1)), .call 66 [(.a (k9 (a0.getD (Int.toNat v3) default).1)), (.a (k3 a1)), (iv a2)] [] (.t [(.a (k2 (F66 (a0.getD (Int.toNat v3) default).1 a1 a2).1)), (iv (F66 (a0.getD (Int.toNat v3) default).1 a1 a2).2)]) [], .eq (((F66 (a0.getD (Int.toNat v3) default).1 a1 a2).2 : Int) != 0) true]) (by kernel_rfl) ⟨h0, (show 0 ≤ (v3 : Int) ∧ (v3 : Int) < ((a0.length : Nat) : Int) from by first | omega | (rw [W_eq] <;> omega) | exact u64_nn _), (ld_part c67_len default a0 v3 0 9 (by omega) (by decide) (by omega) rfl), (C66 (a0.getD (Int.toNat v3) default).1 a1 a2), h1, trivial⟩
      | false =>
        cases h2 : (((F67 (F66 (a0.getD (Int.toNat v3) default).1 a1 a2).1 (a0.getD (Int.toNat v3) default).2.2).2 : Int) != 0) with
        | true =>
          have q0 := of_decide_eq_true h0
          have q1 := bne_eq_false_iff_eq.1 h1
          have q2 := bne_iff_ne.1 h2
          have e : S19_L_0 a0 a1 a2 (v2, v3) = (.inr ((0, 0), (F67 (F66 (a0.getD (Int.toNat v3) default).1 a1 a2).1 (a0.getD (Int.toNat v3) default).2.2).2)) := by simp only [S19_L_0, h0, h1, h2, cond_true, cond_false]
          rw [show loopF (S19_L_0 a0 a1 a2) (n + 1) (v2, v3) = thenF (S19_L_0 a0 a1 a2) n (S19_L_0 a0 a1 a2 (v2, v3)) from rfl, e]
          exact ret_of (T := T0) hT hm (f := 5000) (orc := [.d true, .ld (k9 (a0.getD (Int.toNat v3) default).1), .call [] (.t [(.a (k2 (F66 (a0.getD (Int.toNat v3) default).1 a1 a2).1)), (iv (F66 (a0.getD (Int.toNat v3) default).1 a1 a2).2)]) [], .d false, .ld [(iv (a0.getD (Int.toNat v3) default).2.2)], .call [] (.t [(.a (k2 (F67 (F66 (a0.getD (Int.toNat v3) default).1 a1 a2).1 (a0.getD (Int.toNat v3) default).2.2).1)), (iv (F67 (F66 (a0.getD (Int.toNat v3) default).1 a1 a2).1 (a0.getD (Int.toNat v3) default).2.2).2)]) [], .d true]) [] [] [] hcx
            (obs := [.eq (decide ((v3 : Int) < ((a0.length : Nat) : Int))) true, .pr (0 ≤ (v3 : Int) ∧ (v3 : Int) < ((a0.length : Nat) : Int)), .pr (((((flat c67 a0)).drop (0 + Int.toNat v3 * 11 + 0)).take 9) = (k9 (a0.getD (Int.toNat v3) default).1)), .call 66 [(.a (k9 (a0.getD (Int.toNat v3) default).1)), (.a (k3 a1)), (iv a2)] [] (.t [(.a (k2 (F66 (a0.getD (Int.toNat v3) default).1 a1 a2).1)), (iv (F66 (a0.getD (Int.toNat v3) default).1 a1 a2).2)]) [], .eq (((F66 (a0.getD (Int.toNat v3) default).1 a1 a2).2 : Int) != 0) false, .pr (0 ≤ (v3 : Int) ∧ (v3 : Int) < ((a0.length : Nat) : Int)), .pr (((((flat c67 a0)).drop (0 + Int.toNat v3 * 11 + 10)).take 1) = [(iv (a0.getD (Int.toNat v3) default).2.2)]), .call 67 [(.a (k2 (F66 (a0.getD (Int.toNat v3) default).1 a1 a2).1)), (iv (a0.getD (Int.toNat v3) default).2.2)] [] (.t [(.a (k2 (F67 (F66 (a0.getD (Int.toNat v3) default).1 a1 a2).1 (a0.getD (Int.toNat v3) default).2.2).1)), (iv (F67 (F66 (a0.getD (Int.toNat v3) default).1 a1 a2).1 (a0.getD (Int.toNat v3) default).2.2).2)]) [], .eq (((F67 (F66 (a0.getD (Int.toNat v3) default).1 a1 a2).1 (a0.getD (Int.toNat v3) default).2.2).2 : Int) != 0) true]) (by kernel_rfl) ⟨h0, (show 0 ≤ (v3 : Int) ∧ (v3 : Int) < ((a0.length : Nat) : Int) from by first | omega | (rw [W_eq] <;> omega) | exact u64_nn _), (ld_part c67_len default a0 v3 0 9 (by omega) (by decide) (by omega) rfl), (C66 (a0.getD (Int.toNat v3) default).1 a1 a2), h1, (show 0 ≤ (v3 : Int) ∧ (v3 : Int) < ((a0.length : Nat) : Int) from by first | omega | (rw [W_eq] <;> omega) | exact u64_nn _), (ld_part c67_len default a0 v3 10 1 (by omega) (by decide) (by omega) rfl), (C67 (F66 (a0.getD (Int.toNat v3) default).1 a1 a2).1 (a0.getD (Int.toNat v3) default).2.2), h2, trivial⟩
        | false =>
          have q0 := of_decide_eq_true h0
          have q1 := bne_eq_false_iff_eq.1 h1
          have q2 := bne_eq_false_iff_eq.1 h2
          have e : S19_L_0 a0 a1 a2 (v2, v3) = (.inl ((v2 ++ [(F67 (F66 (a0.getD (Int.toNat v3) default).1 a1 a2).1 (a0.getD (Int.toNat v3) default).2.2).1]), (v3 + 1))) := by simp only [S19_L_0, h0, h1, h2, cond_true, cond_false]
          rw [loopF_inl e]
          refine back_of (T := T0) hT hm (f := 5000) (orc := [.d true, .ld (k9 (a0.getD (Int.toNat v3) default).1), .call [] (.t [(.a (k2 (F66 (a0.getD (Int.toNat v3) default).1 a1 a2).1)), (iv (F66 (a0.getD (Int.toNat v3) default).1 a1 a2).2)]) [], .d false, .ld [(iv (a0.getD (Int.toNat v3) default).2.2)], .call [] (.t [(.a (k2 (F67 (F66 (a0.getD (Int.toNat v3) default).1 a1 a2).1 (a0.getD (Int.toNat v3) default).2.2).1)), (iv (F67 (F66 (a0.getD (Int.toNat v3) default).1 a1 a2).1 (a0.getD (Int.toNat v3) default).2.2).2)]) [], .d false]) [] [0, 2, 4, 6, 9, 10] [1, 2, 6] hcx (body := B19_L_0) (m := n) (k' := K19_L_0) (s' := ⟨[(.s 0 0 a0.length 11), .u, (iv a2), .u, (.p 1 0), .u, (.p 2 0), .u, .u, (.s 3 0 (v2.length + 1) 2), (iv (W (v3 + 1))), .u, .u, .u, .u, .u, .u, .u, .u, .u, .u, .u, .u, .u, .u, .u, .u, .u, .u, .u, .u, .u, .u, .u, .u, .u, .u, .u, .u, .u, .u, .u, .u, .u, .u, .u, .u, .u, .u, .u, .u, .u, .u, .u, .u, .u, .u, .u, .u, .u, .u, .u, .u, .u, .u, .u, .u, .u, .u], [(.live false true (flat c67 a0)), (.live true false (k3 a1)), (.live true false [(iv 0), (iv 0)]), (.live true true (flat c29 v2 ++ (k2 (F67 (F66 (a0.getD (Int.toNat v3) default).1 a1 a2).1 (a0.getD (Int.toNat v3) default).2.2).1)))]⟩)
            (obs := [.eq (decide ((v3 : Int) < ((a0.length : Nat) : Int))) true, .pr (0 ≤ (v3 : Int) ∧ (v3 : Int) < ((a0.length : Nat) : Int)), .pr (((((flat c67 a0)).drop (0 + Int.toNat v3 * 11 + 0)).take 9) = (k9 (a0.getD (Int.toNat v3) default).1)), .call 66 [(.a (k9 (a0.getD (Int.toNat v3) default).1)), (.a (k3 a1)), (iv a2)] [] (.t [(.a (k2 (F66 (a0.getD (Int.toNat v3) default).1 a1 a2).1)), (iv (F66 (a0.getD (Int.toNat v3) default).1 a1 a2).2)]) [], .eq (((F66 (a0.getD (Int.toNat v3) default).1 a1 a2).2 : Int) != 0) false, .pr (0 ≤ (v3 : Int) ∧ (v3 : Int) < ((a0.length : Nat) : Int)), .pr (((((flat c67 a0)).drop (0 + Int.toNat v3 * 11 + 10)).take 1) = [(iv (a0.getD (Int.toNat v3) default).2.2)]), .call 67 [(.a (k2 (F66 (a0.getD (Int.toNat v3) default).1 a1 a2).1)), (iv (a0.getD (Int.toNat v3) default).2.2)] [] (.t [(.a (k2 (F67 (F66 (a0.getD (Int.toNat v3) default).1 a1 a2).1 (a0.getD (Int.toNat v3) default).2.2).1)), (iv (F67 (F66 (a0.getD (Int.toNat v3) default).1 a1 a2).1 (a0.getD (Int.toNat v3) default).2.2).2)]) [], .eq (((F67 (F66 (a0.getD (Int.toNat v3) default).1 a1 a2).1 (a0.getD (Int.toNat v3) default).2.2).2 : Int) != 0) false, .pr ((flat c29 v2).length = v2.length * 2 ∧ v2.length + 1 ≤ 2 ^ 40 ∧ (v2.length + 1) * 16 ≤ 2 ^ 47)]) (by kernel_rfl) ⟨h0, (show 0 ≤ (v3 : Int) ∧ (v3 : Int) < ((a0.length : Nat) : Int) from by first | omega | (rw [W_eq] <;> omega) | exact u64_nn _), (ld_part c67_len default a0 v3 0 9 (by omega) (by decide) (by omega) rfl), (C66 (a0.getD (Int.toNat v3) default).1 a1 a2), h1, (show 0 ≤ (v3 : Int) ∧ (v3 : Int) < ((a0.length : Nat) : Int) from by first | omega | (rw [W_eq] <;> omega) | exact u64_nn _), (ld_part c67_len default a0 v3 10 1 (by omega) (by decide) (by omega) rfl), (C67 (F66 (a0.getD (Int.toNat v3) default).1 a1 a2).1 (a0.getD (Int.toNat v3) default).2.2), h2, (app_ok c29_len (by omega) (by omega)), trivial⟩ ?_
          have z0 : (W (v3 + 1)) = (v3 + 1) := W_eq (by omega) (by omega)
          have z1 : (flat c29 v2 ++ (k2 (F67 (F66 (a0.getD (Int.toNat v3) default).1 a1 a2).1 (a0.getD (Int.toNat v3) default).2.2).1)) = (flat c29 (v2 ++ [(F67 (F66 (a0.getD (Int.toNat v3) default).1 a1 a2).1 (a0.getD (Int.toNat v3) default).2.2).1])) := (flat_append (c := c29) (l := v2) (m := [(F67 (F66 (a0.getD (Int.toNat v3) default).1 a1 a2).1 (a0.getD (Int.toNat v3) default).2.2).1])).symm
          have z2 : (v2.length + 1) = (v2 ++ [(F67 (F66 (a0.getD (Int.toNat v3) default).1 a1 a2).1 (a0.getD (Int.toNat v3) default).2.2).1]).length := len_app v2 [(F67 (F66 (a0.getD (Int.toNat v3) default).1 a1 a2).1 (a0.getD (Int.toNat v3) default).2.2).1] rfl
          rw [z0, z1, z2]
          exact ih (v2 ++ [(F67 (F66 (a0.getD (Int.toNat v3) default).1 a1 a2).1 (a0.getD (Int.toNat v3) default).2.2).1]) (v3 + 1) (by refine ⟨?_, ?_, ?_, ?_⟩ <;> (try simp only [List.length_append, List.length_cons, List.length_nil, Int.toNat_zero]) <;> first | omega | assumption | simp) (by (try simp only [List.length_append, List.length_cons, List.length_nil, Int.toNat_zero]); omega)
    | false =>
      have q0 := of_decide_eq_false h0
      have e : S19_L_0 a0 a1 a2 (v2, v3) = (.inr ((F68_L v2).1, (F68_L v2).2)) := by simp only [S19_L_0, h0, cond_true, cond_false]
      rw [show loopF (S19_L_0 a0 a1 a2) (n + 1) (v2, v3) = thenF (S19_L_0 a0 a1 a2) n (S19_L_0 a0 a1 a2 (v2, v3)) from rfl, e]
      exact ret_of (T := T0) hT hm (f := 5000) (orc := [.d false, .call [3] (.t [(.a (k2 (F68_L v2).1)), (iv (F68_L v2).2)]) []]) [] [] [] hcx
        (obs := [.eq (decide ((v3 : Int) < ((a0.length : Nat) : Int))) false, .call 68 [(.s 0 0 v2.length 2)] [(.live false true (flat c29 v2))] (.t [(.a (k2 (F68_L v2).1)), (iv (F68_L v2).2)]) []]) (by kernel_rfl) ⟨h0, (C68_L v2 (by (try simp only [List.length_append, List.length_cons, List.length_nil, Int.toNat_zero]); omega)), trivial⟩

/-- facet/facetref08.Total at ('L',) -/
def F19_L (a0 : List (((Int × Int × Int) × (Int × Int × Int) × Int × Int × Int) × Int × Int)) (a1 : Int × Int × Int) (a2 : Int) : (Int × Int) × Int :=
  (bif (((F61_L a0) : Int) != 0) then
   ((0, 0), (F61_L a0))
  else
   (bif (((F58 a1 1 0 a2) : Int) != 0) then
    ((0, 0), (F58 a1 1 0 a2))
   else
    (loopF (S19_L_0 a0 a1 a2) (Int.toNat (((a0.length : Nat) : Int) - 0) + 1) (([] : List (Int × Int)), 0))))

noncomputable def oC19_L_0 (a0 : List (((Int × Int × Int) × (Int × Int × Int) × Int × Int × Int) × Int × Int)) : Ob := .call 61 [(.s 0 0 a0.length 11)] [(.live false true (flat c67 a0))] (iv (F61_L a0)) []
theorem C19_L (a0 : List (((Int × Int × Int) × (Int × Int × Int) × Int × Int × Int) × Int × Int)) (a1 : Int × Int × Int) (a2 : Int) (l0 : a0.length ≤ 9223372036854775807) : Con Tryz.prog 19 [(.s 0 0 a0.length 11), (.a (k3 a1)), (iv a2)] [(.live false true (flat c67 a0))] (.t [(.a (k2 (F19_L a0 a1 a2).1)), (iv (F19_L a0 a1 a2).2)]) [] := by
  cases h0 : (((F61_L a0) : Int) != 0) with
  | true =>
    have q0 := bne_iff_ne.1 h0
    try have hl16 := vprL_len h0
    have e : (F19_L a0 a1 a2) = ((0, 0), (F61_L a0)) := by simp only [F19_L, h0, cond_true, cond_false]
    rw [e]
    refine con_of (n := 9) Tryz.func19 rfl (ent Tryz.func19 (by kernel_rfl) rfl) (by show 3 ≤ Tryz.f19.ntmps; decide) (by kernel_rfl) ⟨rfl, trivial⟩ (fun cx hcx => ?_)
    exact ret_of (T := T0) hT hm (f := 5000) (orc := [.call [0] (iv (F61_L a0)) [], .d true]) [] [] [] hcx
      (obs := [(oC19_L_0 a0), .eq (((F61_L a0) : Int) != 0) true]) (by kernel_rfl) ⟨(C61_L a0 (by (try simp only [List.length_append, List.length_cons, List.length_nil, Int.toNat_zero]); omega)), h0, trivial⟩
  | false =>
    cases h1 : (((F58 a1 1 0 a2) : Int) != 0) with
    | true =>
      have q0 := bne_eq_false_iff_eq.1 h0
      have q1 := bne_iff_ne.1 h1
      try have hl16 := vprL_len h0
      have e : (F19_L a0 a1 a2) = ((0, 0), (F58 a1 1 0 a2)) := by simp only [F19_L, h0, h1, cond_true, cond_false]
      rw [e]
      refine con_of (n := 9) Tryz.func19 rfl (ent Tryz.func19 (by kernel_rfl) rfl) (by show 3 ≤ Tryz.f19.ntmps; decide) (by kernel_rfl) ⟨rfl, trivial⟩ (fun cx hcx => ?_)
      exact ret_of (T := T0) hT hm (f := 5000) (orc := [.call [0] (iv (F61_L a0)) [], .d false, .call [] (iv (F58 a1 1 0 a2)) [], .d true]) [] [] [] hcx
        (obs := [(oC19_L_0 a0), .eq (((F61_L a0) : Int) != 0) false, .call 58 [(.a (k3 a1)), (iv 1), (iv 0), (iv a2)] [] (iv (F58 a1 1 0 a2)) [], .eq (((F58 a1 1 0 a2) : Int) != 0) true]) (by kernel_rfl) ⟨(C61_L a0 (by (try simp only [List.length_append, List.length_cons, List.length_nil, Int.toNat_zero]); omega)), h0, (C58 a1 1 0 a2), h1, trivial⟩
    | false =>
      have q0 := bne_eq_false_iff_eq.1 h0
      have q1 := bne_eq_false_iff_eq.1 h1
      try have hl16 := vprL_len h0
      have e : (F19_L a0 a1 a2) = (loopF (S19_L_0 a0 a1 a2) (Int.toNat (((a0.length : Nat) : Int) - 0) + 1) (([] : List (Int × Int)), 0)) := by simp only [F19_L, h0, h1, cond_true, cond_false]
      rw [e]
      refine con_of (n := 9) Tryz.func19 rfl (ent Tryz.func19 (by kernel_rfl) rfl) (by show 3 ≤ Tryz.f19.ntmps; decide) (by kernel_rfl) ⟨rfl, trivial⟩ (fun cx hcx => ?_)
      refine enter_of (T := T0) hT hm (f := 5000) (orc := [.call [0] (iv (F61_L a0)) [], .d false, .call [] (iv (F58 a1 1 0 a2)) [], .d false]) [.slot 9 2] [0, 2, 4, 6, 9, 10] [1, 2, 3] hcx (body := B19_L_0) (k' := K19_L_0) (s' := ⟨[(.s 0 0 a0.length 11), .u, (iv a2), .u, (.p 1 0), .u, (.p 2 0), .u, .u, (.s 3 0 0 2), (iv 0), .u, .u, .u, .u, .u, .u, .u, .u, .u, .u, .u, .u, .u, .u, .u, .u, .u, .u, .u, .u, .u, .u, .u, .u, .u, .u, .u, .u, .u, .u, .u, .u, .u, .u, .u, .u, .u, .u, .u, .u, .u, .u, .u, .u, .u, .u, .u, .u, .u, .u, .u, .u, .u, .u, .u, .u, .u, .u], [(.live false true (flat c67 a0)), (.live true false (k3 a1)), (.live true false [(iv 0), (iv 0)]), (.live true true (flat c29 ([] : List (Int × Int))))]⟩)
        (obs := [(oC19_L_0 a0), .eq (((F61_L a0) : Int) != 0) false, .call 58 [(.a (k3 a1)), (iv 1), (iv 0), (iv a2)] [] (iv (F58 a1 1 0 a2)) [], .eq (((F58 a1 1 0 a2) : Int) != 0) false]) (by kernel_rfl) ⟨(C61_L a0 (by (try simp only [List.length_append, List.length_cons, List.length_nil, Int.toNat_zero]); omega)), h0, (C58 a1 1 0 a2), h1, trivial⟩ ⟨Int.toNat (((a0.length : Nat) : Int) - 0) + 1, ?_⟩
      exact L19_L_0 a0 a1 a2 l0 hcx (Int.toNat (((a0.length : Nat) : Int) - 0) + 1) ([] : List (Int × Int)) 0 (by refine ⟨?_, ?_, ?_, ?_⟩ <;> (try simp only [List.length_append, List.length_cons, List.length_nil, Int.toNat_zero]) <;> first | omega | assumption | simp) (by (try simp only [List.length_append, List.length_cons, List.length_nil, Int.toNat_zero]); omega)

/-- facet/facetref08.Scene at ('L',) -/
def F17_L (a0 : List (((Int × Int × Int) × (Int × Int × Int) × Int × Int × Int) × Int × Int)) (a1 : Int × Int × Int) (a2 : Int) (a3 : Int) (a4 : Int) : (Int × Int) × Int :=
  (bif (((F61_L a0) : Int) != 0) then
   ((0, 0), (F61_L a0))
  else
   (bif (((F58 a1 a2 a3 a4) : Int) != 0) then
    ((0, 0), (F58 a1 a2 a3 a4))
   else
    ((F59_L a0 a1 a2 a3 a4).1, (F59_L a0 a1 a2 a3 a4).2)))

noncomputable def oC17_L_0 (a0 : List (((Int × Int × Int) × (Int × Int × Int) × Int × Int × Int) × Int × Int)) : Ob := .call 61 [(.s 0 0 a0.length 11)] [(.live false true (flat c67 a0))] (iv (F61_L a0)) []
theorem C17_L (a0 : List (((Int × Int × Int) × (Int × Int × Int) × Int × Int × Int) × Int × Int)) (a1 : Int × Int × Int) (a2 : Int) (a3 : Int) (a4 : Int) (l0 : a0.length ≤ 9223372036854775807) : Con Tryz.prog 17 [(.s 0 0 a0.length 11), (.a (k3 a1)), (iv a2), (iv a3), (iv a4)] [(.live false true (flat c67 a0))] (.t [(.a (k2 (F17_L a0 a1 a2 a3 a4).1)), (iv (F17_L a0 a1 a2 a3 a4).2)]) [] := by
  cases h0 : (((F61_L a0) : Int) != 0) with
  | true =>
    have q0 := bne_iff_ne.1 h0
    have e : (F17_L a0 a1 a2 a3 a4) = ((0, 0), (F61_L a0)) := by simp only [F17_L, h0, cond_true, cond_false]
    rw [e]
    refine con_of (n := 9) Tryz.func17 rfl (ent Tryz.func17 (by kernel_rfl) rfl) (by show 5 ≤ Tryz.f17.ntmps; decide) (by kernel_rfl) ⟨rfl, trivial⟩ (fun cx hcx => ?_)
    exact ret_of (T := T0) hT hm (f := 5000) (orc := [.call [0] (iv (F61_L a0)) [], .d true]) [] [] [] hcx
      (obs := [(oC17_L_0 a0), .eq (((F61_L a0) : Int) != 0) true]) (by kernel_rfl) ⟨(C61_L a0 (by (try simp only [List.length_append, List.length_cons, List.length_nil, Int.toNat_zero]); omega)), h0, trivial⟩
  | false =>
    cases h1 : (((F58 a1 a2 a3 a4) : Int) != 0) with
    | true =>
      have q0 := bne_eq_false_iff_eq.1 h0
      have q1 := bne_iff_ne.1 h1
      have e : (F17_L a0 a1 a2 a3 a4) = ((0, 0), (F58 a1 a2 a3 a4)) := by simp only [F17_L, h0, h1, cond_true, cond_false]
      rw [e]
      refine con_of (n := 9) Tryz.func17 rfl (ent Tryz.func17 (by kernel_rfl) rfl) (by show 5 ≤ Tryz.f17.ntmps; decide) (by kernel_rfl) ⟨rfl, trivial⟩ (fun cx hcx => ?_)
      exact ret_of (T := T0) hT hm (f := 5000) (orc := [.call [0] (iv (F61_L a0)) [], .d false, .call [] (iv (F58 a1 a2 a3 a4)) [], .d true]) [] [] [] hcx
        (obs := [(oC17_L_0 a0), .eq (((F61_L a0) : Int) != 0) false, .call 58 [(.a (k3 a1)), (iv a2), (iv a3), (iv a4)] [] (iv (F58 a1 a2 a3 a4)) [], .eq (((F58 a1 a2 a3 a4) : Int) != 0) true]) (by kernel_rfl) ⟨(C61_L a0 (by (try simp only [List.length_append, List.length_cons, List.length_nil, Int.toNat_zero]); omega)), h0, (C58 a1 a2 a3 a4), h1, trivial⟩
    | false =>
      have q0 := bne_eq_false_iff_eq.1 h0
      have q1 := bne_eq_false_iff_eq.1 h1
      have e : (F17_L a0 a1 a2 a3 a4) = ((F59_L a0 a1 a2 a3 a4).1, (F59_L a0 a1 a2 a3 a4).2) := by simp only [F17_L, h0, h1, cond_true, cond_false]
      rw [e]
      refine con_of (n := 9) Tryz.func17 rfl (ent Tryz.func17 (by kernel_rfl) rfl) (by show 5 ≤ Tryz.f17.ntmps; decide) (by kernel_rfl) ⟨rfl, trivial⟩ (fun cx hcx => ?_)
      exact ret_of (T := T0) hT hm (f := 5000) (orc := [.call [0] (iv (F61_L a0)) [], .d false, .call [] (iv (F58 a1 a2 a3 a4)) [], .d false, .call [0] (.t [(.a (k2 (F59_L a0 a1 a2 a3 a4).1)), (iv (F59_L a0 a1 a2 a3 a4).2)]) []]) [] [] [] hcx
        (obs := [(oC17_L_0 a0), .eq (((F61_L a0) : Int) != 0) false, .call 58 [(.a (k3 a1)), (iv a2), (iv a3), (iv a4)] [] (iv (F58 a1 a2 a3 a4)) [], .eq (((F58 a1 a2 a3 a4) : Int) != 0) false, .call 59 [(.s 0 0 a0.length 11), (.a (k3 a1)), (iv a2), (iv a3), (iv a4)] [(.live false true (flat c67 a0))] (.t [(.a (k2 (F59_L a0 a1 a2 a3 a4).1)), (iv (F59_L a0 a1 a2 a3 a4).2)]) []]) (by kernel_rfl) ⟨(C61_L a0 (by (try simp only [List.length_append, List.length_cons, List.length_nil, Int.toNat_zero]); omega)), h0, (C58 a1 a2 a3 a4), h1, (C59_L a0 a1 a2 a3 a4 (by (try simp only [List.length_append, List.length_cons, List.length_nil, Int.toNat_zero]); omega) (by rw [← vpl_r]; exact bne_eq_false_iff_eq.1 h0) (ask_p h1).1 (ask_p h1).2.1 (ask_p h1).2.2.1 (ask_p h1).2.2.2), trivial⟩

/-! ### What is heard in all -/
noncomputable def toG (x : P3) (d : Int) (p : PU) : (Int × Int) × Int :=
  if (meanV of1 p.1 x d).2 = 0 then F134 (scl (meanV of1 p.1 x d).1 p.2.2).1 (scl (meanV of1 p.1 x d).1 p.2.2).2 else ((0, 0), (meanV of1 p.1 x d).2)
noncomputable def toS (l : List PU) (x : P3) (d : Int) : (Int × Int) × Int := out8 (fun m => sumV m) (fun e => ((0, 0), e)) (shs (toG x d) l [])
section
variable {l : List PU} {p : PU} {x : P3} {d : Int}
theorem toG_vs (h : (toG x d p).2 = 0) : vs (toG x d p).1 := by
  by_cases hm : (meanV of1 p.1 x d).2 = 0
  · have e : toG x d p = F134 (scl (meanV of1 p.1 x d).1 p.2.2).1 (scl (meanV of1 p.1 x d).1 p.2.2).2 := if_pos hm
    rw [e] at h ⊢
    rcases res_cases (scl (meanV of1 p.1 x d).1 p.2.2).1 (scl (meanV of1 p.1 x d).1 p.2.2).2 with ⟨e, hv⟩ | e
    · rw [e]; exact hv
    · rw [e] at h; exact absurd h (by decide)
  · have e : toG x d p = ((0, 0), (meanV of1 p.1 x d).2) := if_neg hm
    rw [e] at h; exact absurd h hm
theorem toG_f (hp : POK p) : F63 p x d = toG x d p := by
  unfold F63 toG
  rw [Mean_f]
  by_cases h : (meanV of1 p.1 x d).2 = 0
  · have hv := (meanV_vs of1_all h).2
    have hw := hp.2.2
    rw [if_pos h, h, Scale_f hv (by omega)]; rfl
  · rw [if_neg h, bne_iff_ne.2 h]; rfl
theorem total_f (hv : vpL l = 0) : F62_L_c63 l x d = toS l x d := by
  obtain ⟨hl, hp⟩ := vpL_ok hv
  unfold F62_L_c63 toS
  have key := shs_loopF (g := toG x d) (S := S62_L_c63_0 l x d) (E := fun e => (((0, 0) : Int × Int), e)) (L := l)
    (G := fun m => ((F73_L m).1, (F73_L m).2)) (fun i c hi m => ?_) (fun m => ?_) l 0 (Int.toNat (((l.length : Nat) : Int) - 0) + 1) [] rfl (Nat.zero_le _) (by omega)
  · show (loopF (S62_L_c63_0 l x d) (Int.toNat (((l.length : Nat) : Int) - 0) + 1) ([], ((0 : Nat) : Int))) = _
    rw [key]
    refine out8_ok (fun h0 => ?_)
    exact Sum_f (fun a ha => by
      obtain ⟨c, hc, rfl⟩ := List.mem_map.1 ha
      exact toG_vs (h0 c hc)) (by rw [List.length_map]; omega)
  · obtain ⟨hg, hlt⟩ := getD_some hi
    simp only [S62_L_c63_0]
    rw [decide_eq_true (show ((i : Nat) : Int) < (l.length : Nat) by omega), cond_true, Int.toNat_natCast, hg, toG_f (hp c (mem_some hi))]; rfl
  · simp only [S62_L_c63_0]
    rw [decide_eq_false (Int.lt_irrefl _), cond_false]
theorem total_r (hv : vpL l = 0) : loopF (S19_L_0 l x d) (Int.toNat (((l.length : Nat) : Int) - 0) + 1) ([], 0) = toS l x d := by
  obtain ⟨hl, hp⟩ := vpL_ok hv
  unfold toS
  have key := shs_loopF (g := toG x d) (S := S19_L_0 l x d) (E := fun e => (((0, 0) : Int × Int), e)) (L := l)
    (G := fun m => ((F68_L m).1, (F68_L m).2)) (fun i c hi m => ?_) (fun m => ?_) l 0 (Int.toNat (((l.length : Nat) : Int) - 0) + 1) [] rfl (Nat.zero_le _) (by omega)
  · show (loopF (S19_L_0 l x d) (Int.toNat (((l.length : Nat) : Int) - 0) + 1) ([], ((0 : Nat) : Int))) = _
    rw [key]
    refine out8_ok (fun h0 => ?_)
    exact Sum_r (fun a ha => by
      obtain ⟨c, hc, rfl⟩ := List.mem_map.1 ha
      exact toG_vs (h0 c hc)) (by rw [List.length_map]; omega)
  · obtain ⟨hg, hlt⟩ := getD_some hi
    simp only [S19_L_0]
    rw [decide_eq_true (show ((i : Nat) : Int) < (l.length : Nat) by omega), cond_true, Int.toNat_natCast, hg, Mean_r]
    by_cases hm : (meanV of1 c.1 x d).2 = 0
    · have e : toG x d c = F134 (scl (meanV of1 c.1 x d).1 c.2.2).1 (scl (meanV of1 c.1 x d).1 c.2.2).2 := if_pos hm
      have hw := (hp c (mem_some hi)).2.2
      rw [hm, Scale_r (meanV_vs of1_all hm).2 (by omega), ← e]; rfl
    · have e : toG x d c = ((0, 0), (meanV of1 c.1 x d).2) := if_neg hm
      rw [e, bne_iff_ne.2 hm]; rfl
  · simp only [S19_L_0]
    rw [decide_eq_false (Int.lt_irrefl _), cond_false]
end
noncomputable def toV (l : List PU) (x : P3) (d : Int) : (Int × Int) × Int :=
  open Classical in if vpL l = 0 then (if bd 256 x ∧ (0 ≤ d ∧ d ≤ 3) then toS l x d else ((0, 0), 1)) else ((0, 0), vpL l)
open Classical in
theorem Total_f (l : List PU) (x : P3) (d : Int) : F18_L l x d = toV l x d := by
  unfold F18_L toV
  rw [isP_f, isD_f]
  simp only [chkL_f]
  by_cases h : vpL l = 0
  · by_cases h1 : bd 256 x
    · by_cases h4 : 0 ≤ d ∧ d ≤ 3
      · rw [total_f h]; simp [h, h1, h4]
      · simp [h, h1, h4]
    · simp [h, h1]
  · simp only [if_neg h, bne_iff_ne.2 h, cond_true]
    cases decide (bd 256 x) <;> rfl
open Classical in
theorem Total_r (l : List PU) (x : P3) (d : Int) : F19_L l x d = toV l x d := by
  unfold F19_L toV
  rw [asked_r, vpl_r]
  by_cases h : vpL l = 0
  · rw [if_pos h, h]
    by_cases h1 : bd 256 x
    · by_cases h4 : 0 ≤ d ∧ d ≤ 3
      · rw [total_r h, if_pos (by refine ⟨h1, ?_, ?_, h4⟩ <;> omega), if_pos ⟨h1, h4⟩]; rfl
      · rw [if_neg (fun h => h4 h.2.2.2), if_neg (fun h => h4 h.2)]; rfl
    · rw [if_neg (fun h => h1 h.1), if_neg (fun h => h1 h.1)]; rfl
  · rw [if_neg h, bne_iff_ne.2 h]; rfl
open Classical in
theorem Scene_r (l : List PU) (x : P3) (s t d : Int) : F17_L l x s t d = scV l x s t d := by
  unfold F17_L scV askd
  rw [asked_r, vpl_r]
  by_cases h : vpL l = 0
  · rw [if_pos h, h]
    by_cases h1 : bd 256 x ∧ (1 ≤ s ∧ s ≤ 16) ∧ (0 ≤ t ∧ t ≤ 2000) ∧ (0 ≤ d ∧ d ≤ 3)
    · rw [scene_r h h1.1 h1.2.1 h1.2.2.1 h1.2.2.2, if_pos h1, if_pos h1]; rfl
    · rw [if_neg h1, if_neg h1]; rfl
  · rw [if_neg h, bne_iff_ne.2 h]; rfl

end Go.Proofs.YtnkeljlllagddaaGreat
