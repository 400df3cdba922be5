/-
  Parts of the proofs of the laws: the executor, what functions of the program compute, and that it is what the statements ask. No premise.
-/
import Derived.Test.YtnbpiejjeeomkaaVPbu5
namespace Go.Proofs.Ytnbpiejjeeomkaa
open Go.Proofs Go.Aw Go.RowKit
set_option maxRecDepth 100000
set_option linter.unusedVariables false
set_option linter.unusedSimpArgs false

def A60_L_z11_L_1 (a0 : TyL) (a1 : List (Int) × TyN) (a2 : List (Int)) (a3 : Int) := (F81_L (F82_L_L a0 a2) ((F80_L_L a0 a2 0), (F80_L_L a0 a2 1), (F80_L_L a0 a2 2)))

def A60_L_z11_L_2 (a0 : TyL) (a1 : List (Int) × TyN) (a2 : List (Int)) (a3 : Int) := (F60_L_z10_L a0 (([] : List (Int)), ([(0, (W (0 + ((a2.length : Nat) : Int))), (-1), (-1), ((F80_L_L a0 a2 0), (F80_L_L a0 a2 1), (F80_L_L a0 a2 2)), (A60_L_z11_L_1 a0 a1 a2 a3).1)] : TyN)) (Aw.part (F83_L_L a0 a2 (F84_L_L a0 a2)) 0 (W (Int.tdiv (W ((((F83_L_L a0 a2 (F84_L_L a0 a2)).length : Nat) : Int) + 1)) 2))) a3)

def A60_L_z11_L_3 (a0 : TyL) (a1 : List (Int) × TyN) (a2 : List (Int)) (a3 : Int) := (F60_L_z00_L a0 ((A60_L_z11_L_2 a0 a1 a2 a3).1, (A60_L_z11_L_2 a0 a1 a2 a3).2) (Aw.part (F83_L_L a0 a2 (F84_L_L a0 a2)) (W (Int.tdiv (W ((((F83_L_L a0 a2 (F84_L_L a0 a2)).length : Nat) : Int) + 1)) 2)) (((F83_L_L a0 a2 (F84_L_L a0 a2)).length : Nat) : Int)) a3)

def R60_L_z11_L : Nat → TyL → (List (Int) × TyN) → (List (Int)) → (Int) → List (Int) × TyN
  | 0, _, _, _, _ => default
  | nr + 1, a0, a1, a2, a3 =>
  (bif (decide ((((a2.length : Nat) : Int) : Int) ≤ a3)) then
   (a2, ([(0, (W (0 + ((a2.length : Nat) : Int))), (-1), (-1), ((F80_L_L a0 a2 0), (F80_L_L a0 a2 1), (F80_L_L a0 a2 2)), (A60_L_z11_L_1 a0 a1 a2 a3).1)] : TyN))
  else
   ((A60_L_z11_L_3 a0 a1 a2 a3).1, (((A60_L_z11_L_3 a0 a1 a2 a3).2.set (Int.toNat 0) (((A60_L_z11_L_3 a0 a1 a2 a3).2.getD (Int.toNat 0) default).1, ((A60_L_z11_L_3 a0 a1 a2 a3).2.getD (Int.toNat 0) default).2.1, 1, ((A60_L_z11_L_3 a0 a1 a2 a3).2.getD (Int.toNat 0) default).2.2.2.1, ((A60_L_z11_L_3 a0 a1 a2 a3).2.getD (Int.toNat 0) default).2.2.2.2.1, ((A60_L_z11_L_3 a0 a1 a2 a3).2.getD (Int.toNat 0) default).2.2.2.2.2)).set (Int.toNat 0) ((((A60_L_z11_L_3 a0 a1 a2 a3).2.set (Int.toNat 0) (((A60_L_z11_L_3 a0 a1 a2 a3).2.getD (Int.toNat 0) default).1, ((A60_L_z11_L_3 a0 a1 a2 a3).2.getD (Int.toNat 0) default).2.1, 1, ((A60_L_z11_L_3 a0 a1 a2 a3).2.getD (Int.toNat 0) default).2.2.2.1, ((A60_L_z11_L_3 a0 a1 a2 a3).2.getD (Int.toNat 0) default).2.2.2.2.1, ((A60_L_z11_L_3 a0 a1 a2 a3).2.getD (Int.toNat 0) default).2.2.2.2.2)).getD (Int.toNat 0) default).1, (((A60_L_z11_L_3 a0 a1 a2 a3).2.set (Int.toNat 0) (((A60_L_z11_L_3 a0 a1 a2 a3).2.getD (Int.toNat 0) default).1, ((A60_L_z11_L_3 a0 a1 a2 a3).2.getD (Int.toNat 0) default).2.1, 1, ((A60_L_z11_L_3 a0 a1 a2 a3).2.getD (Int.toNat 0) default).2.2.2.1, ((A60_L_z11_L_3 a0 a1 a2 a3).2.getD (Int.toNat 0) default).2.2.2.2.1, ((A60_L_z11_L_3 a0 a1 a2 a3).2.getD (Int.toNat 0) default).2.2.2.2.2)).getD (Int.toNat 0) default).2.1, (((A60_L_z11_L_3 a0 a1 a2 a3).2.set (Int.toNat 0) (((A60_L_z11_L_3 a0 a1 a2 a3).2.getD (Int.toNat 0) default).1, ((A60_L_z11_L_3 a0 a1 a2 a3).2.getD (Int.toNat 0) default).2.1, 1, ((A60_L_z11_L_3 a0 a1 a2 a3).2.getD (Int.toNat 0) default).2.2.2.1, ((A60_L_z11_L_3 a0 a1 a2 a3).2.getD (Int.toNat 0) default).2.2.2.2.1, ((A60_L_z11_L_3 a0 a1 a2 a3).2.getD (Int.toNat 0) default).2.2.2.2.2)).getD (Int.toNat 0) default).2.2.1, (((A60_L_z11_L_2 a0 a1 a2 a3).2.length : Nat) : Int), (((A60_L_z11_L_3 a0 a1 a2 a3).2.set (Int.toNat 0) (((A60_L_z11_L_3 a0 a1 a2 a3).2.getD (Int.toNat 0) default).1, ((A60_L_z11_L_3 a0 a1 a2 a3).2.getD (Int.toNat 0) default).2.1, 1, ((A60_L_z11_L_3 a0 a1 a2 a3).2.getD (Int.toNat 0) default).2.2.2.1, ((A60_L_z11_L_3 a0 a1 a2 a3).2.getD (Int.toNat 0) default).2.2.2.2.1, ((A60_L_z11_L_3 a0 a1 a2 a3).2.getD (Int.toNat 0) default).2.2.2.2.2)).getD (Int.toNat 0) default).2.2.2.2.1, (((A60_L_z11_L_3 a0 a1 a2 a3).2.set (Int.toNat 0) (((A60_L_z11_L_3 a0 a1 a2 a3).2.getD (Int.toNat 0) default).1, ((A60_L_z11_L_3 a0 a1 a2 a3).2.getD (Int.toNat 0) default).2.1, 1, ((A60_L_z11_L_3 a0 a1 a2 a3).2.getD (Int.toNat 0) default).2.2.2.1, ((A60_L_z11_L_3 a0 a1 a2 a3).2.getD (Int.toNat 0) default).2.2.2.2.1, ((A60_L_z11_L_3 a0 a1 a2 a3).2.getD (Int.toNat 0) default).2.2.2.2.2)).getD (Int.toNat 0) default).2.2.2.2.2))))

def F60_L_z11_L (a0 : TyL) (a1 : List (Int) × TyN) (a2 : List (Int)) (a3 : Int) : List (Int) × TyN := R60_L_z11_L (a2.length + 1) a0 a1 a2 a3

theorem Cr60_L_z11_L : ∀ (nr : Nat) (a0 : TyL) (a1 : List (Int) × TyN) (a2 : List (Int)) (a3 : Int) (l0 : a0.length ≤ 9223372036854775807) (l1_1 : a1.1.length ≤ 9223372036854775807) (l1_2 : a1.2.length ≤ 9223372036854775807) (l2 : a2.length ≤ 9223372036854775807) (hp : PGRW a0 ([], []) a2 a3), a2.length < nr → Con Try.prog 60 [(.s 0 0 a0.length 10), (.a [(.v (.slice none 0 0)), (.v (.slice none 0 0))]), (.s 1 0 a2.length 1), (iv a3)] [(.live false true (flat c81 a0)), (.live false true (flat c3 a2))] (.a [(.s 2 0 (R60_L_z11_L nr a0 a1 a2 a3).1.length 1), (.s 3 0 (R60_L_z11_L nr a0 a1 a2 a3).2.length 8)]) [(.live true true (flat c3 (R60_L_z11_L nr a0 a1 a2 a3).1)), (.live true true (flat c40 (R60_L_z11_L nr a0 a1 a2 a3).2))] := by
  intro nr
  induction nr with
  | zero => intro a0 a1 a2 a3 l0 l1_1 l1_2 l2 hp hlt; exact absurd hlt (Nat.not_lt_zero _)
  | succ nr ihr =>
  intro a0 a1 a2 a3 l0 l1_1 l1_2 l2 hp hlt
  refine con_s Try.func60 (by kernel_rfl) fun cx hcx => ?_
  have hpr := hp.rng
  have hpn := hp.nds
  try dsimp only at hpr hpn
  try simp only [List.length_nil, Nat.zero_add] at hpr hpn
  have hpl := hp.lf
  have hpk := rpi_len a0 a2
  have hso := grw_s hp (F84_L_L a0 a2)
  obtain ⟨hso1, hso2⟩ := hso
  have hhf : (W (Int.tdiv (W ((((F83_L_L a0 a2 (F84_L_L a0 a2)).length : Nat) : Int) + 1)) 2)) = (((a2.length + 1) / 2 : Nat) : Int) := by rw [hso1]; exact hf_eq (by omega)
  have hpt1 : (Aw.part (F83_L_L a0 a2 (F84_L_L a0 a2)) 0 (W (Int.tdiv (W ((((F83_L_L a0 a2 (F84_L_L a0 a2)).length : Nat) : Int) + 1)) 2))).length = (a2.length + 1) / 2 := by rw [part_len (by omega)]; omega
  have hpt2 : (Aw.part (F83_L_L a0 a2 (F84_L_L a0 a2)) (W (Int.tdiv (W ((((F83_L_L a0 a2 (F84_L_L a0 a2)).length : Nat) : Int) + 1)) 2)) (((F83_L_L a0 a2 (F84_L_L a0 a2)).length : Nat) : Int)).length = a2.length - (a2.length + 1) / 2 := by rw [part_len (by omega)]; omega
  try have h2 : 2 ≤ a2.length := (fun _ => by omega) h0
  try have h5 : GRR _ (A60_L_z10_L_2 (R60_L_z10_L nr) a0 a1 a2 a3) _ := (fun _ => grw_inv10 nr a0 ([], _) _ a3 (pgrw1 hp _ h2) (by omega)) h0
  try have h6 : GRR _ (A60_L_z10_L_3 (R60_L_z10_L nr) a0 a1 a2 a3) _ := (fun _ => grw_inv _ _ _ _ _ (pgrw2 hp _ h2 h5) (Nat.lt_succ_self _)) h0
  try have h5 : GRR _ (A60_L_z00_L_2 (R60_L_z00_L nr) a0 a1 a2 a3) _ := (fun _ => grw_inv nr _ _ _ _ (pgrw1 hp _ h2) (by omega)) h0
  try have h6 : GRR _ (A60_L_z00_L_3 (R60_L_z00_L nr) a0 a1 a2 a3) _ := (fun _ => grw_inv nr _ _ _ _ (pgrw2 hp _ h2 h5) (by omega)) h0
  try have h5 : GRR _ (A60_L_z11_L_2 a0 a1 a2 a3) _ := (fun _ => grw_inv10 _ a0 ([], _) _ a3 (pgrw1 (t := ([], [])) hp _ h2) (Nat.lt_succ_self _)) h0
  try have h6 : GRR _ (A60_L_z11_L_3 a0 a1 a2 a3) _ := (fun _ => grw_inv _ _ _ _ _ (pgrw2 (t := ([], [])) hp _ h2 h5) (Nat.lt_succ_self _)) h0
  try have g1 := (fun _ => h5.ol) h0
  try have g2 := (fun _ => h5.lo) h0
  try have g3 := (fun _ => h5.hi) h0
  try have f1 := (fun _ => h6.ol) h0
  try have f2 := (fun _ => h6.lo) h0
  try have f3 := (fun _ => h6.hi) h0
  try (have _ := h0; simp only [List.length_append, List.length_cons, List.length_nil] at g1 g2 g3 f1 f2 f3)
  let t0 : List (St Try.prog) := [.c [0, 1] (C80_L_L a0 a2 0 (by (try simp only [List.length_append, List.length_cons, List.length_nil, Int.toNat_zero, List.length_set]); omega) (by (try simp only [List.length_append, List.length_cons, List.length_nil, Int.toNat_zero, List.length_set]); omega) hp.inr (by omega)), .c [0, 1] (C80_L_L a0 a2 1 (by (try simp only [List.length_append, List.length_cons, List.length_nil, Int.toNat_zero, List.length_set]); omega) (by (try simp only [List.length_append, List.length_cons, List.length_nil, Int.toNat_zero, List.length_set]); omega) hp.inr (by omega)), .c [0, 1] (C80_L_L a0 a2 2 (by (try simp only [List.length_append, List.length_cons, List.length_nil, Int.toNat_zero, List.length_set]); omega) (by (try simp only [List.length_append, List.length_cons, List.length_nil, Int.toNat_zero, List.length_set]); omega) hp.inr (by omega)), .c [0, 1] (C82_L_L a0 a2 (by (try simp only [List.length_append, List.length_cons, List.length_nil, Int.toNat_zero, List.length_set]); omega) (by (try simp only [List.length_append, List.length_cons, List.length_nil, Int.toNat_zero, List.length_set]); omega) hp.inr (by omega)), .c [5] (C81_L (F82_L_L a0 a2) ((F80_L_L a0 a2 0), (F80_L_L a0 a2 1), (F80_L_L a0 a2 2)) (by (try simp only [List.length_append, List.length_cons, List.length_nil, Int.toNat_zero, List.length_set]); omega))]
  cases h0 : (decide ((((a2.length : Nat) : Int) : Int) ≤ a3)) with
  | true =>
   have q0 := of_decide_eq_true h0
   try have h2 : 2 ≤ a2.length := (fun _ => by omega) h0
   try have h5 : GRR _ (A60_L_z10_L_2 (R60_L_z10_L nr) a0 a1 a2 a3) _ := (fun _ => grw_inv10 nr a0 ([], _) _ a3 (pgrw1 hp _ h2) (by omega)) h0
   try have h6 : GRR _ (A60_L_z10_L_3 (R60_L_z10_L nr) a0 a1 a2 a3) _ := (fun _ => grw_inv _ _ _ _ _ (pgrw2 hp _ h2 h5) (Nat.lt_succ_self _)) h0
   try have h5 : GRR _ (A60_L_z00_L_2 (R60_L_z00_L nr) a0 a1 a2 a3) _ := (fun _ => grw_inv nr _ _ _ _ (pgrw1 hp _ h2) (by omega)) h0
   try have h6 : GRR _ (A60_L_z00_L_3 (R60_L_z00_L nr) a0 a1 a2 a3) _ := (fun _ => grw_inv nr _ _ _ _ (pgrw2 hp _ h2 h5) (by omega)) h0
   try have h5 : GRR _ (A60_L_z11_L_2 a0 a1 a2 a3) _ := (fun _ => grw_inv10 _ a0 ([], _) _ a3 (pgrw1 (t := ([], [])) hp _ h2) (Nat.lt_succ_self _)) h0
   try have h6 : GRR _ (A60_L_z11_L_3 a0 a1 a2 a3) _ := (fun _ => grw_inv _ _ _ _ _ (pgrw2 (t := ([], [])) hp _ h2 h5) (Nat.lt_succ_self _)) h0
   try have g1 := (fun _ => h5.ol) h0
   try have g2 := (fun _ => h5.lo) h0
   try have g3 := (fun _ => h5.hi) h0
   try have f1 := (fun _ => h6.ol) h0
   try have f2 := (fun _ => h6.lo) h0
   try have f3 := (fun _ => h6.hi) h0
   try (have _ := h0; simp only [List.length_append, List.length_cons, List.length_nil] at g1 g2 g3 f1 f2 f3)
   have e := Eq.refl (R60_L_z11_L (nr + 1) a0 a1 a2 a3); conv at e => rhs; simp only [R60_L_z11_L, h0, cond_true, cond_false]
   rw [e]
   try dsimp only [thenF]
   try dsimp only
   exact rt (t0 ++ [.d h0, .p (show ((flat c3 a2).length = a2.length * 1 ∧ (flat c3 a2).all SV.one = true ∧ a2.length ≤ 2 ^ 40 ∧ a2.length * 8 ≤ 2 ^ 47) from by refine ⟨?_, ?_, ?_, ?_⟩ <;> first | omega | exact flat_one (fun _ => rfl) | (simp [flat_lenc c3_len]; done) | (simp [flat_lenc c3_len]; omega))]) [.sym 7 true]  [8, 7] hcx (by kernel_rfl)
  | false =>
   have q0 := of_decide_eq_false h0
   try have h2 : 2 ≤ a2.length := (fun _ => by omega) h0
   try have h5 : GRR _ (A60_L_z10_L_2 (R60_L_z10_L nr) a0 a1 a2 a3) _ := (fun _ => grw_inv10 nr a0 ([], _) _ a3 (pgrw1 hp _ h2) (by omega)) h0
   try have h6 : GRR _ (A60_L_z10_L_3 (R60_L_z10_L nr) a0 a1 a2 a3) _ := (fun _ => grw_inv _ _ _ _ _ (pgrw2 hp _ h2 h5) (Nat.lt_succ_self _)) h0
   try have h5 : GRR _ (A60_L_z00_L_2 (R60_L_z00_L nr) a0 a1 a2 a3) _ := (fun _ => grw_inv nr _ _ _ _ (pgrw1 hp _ h2) (by omega)) h0
   try have h6 : GRR _ (A60_L_z00_L_3 (R60_L_z00_L nr) a0 a1 a2 a3) _ := (fun _ => grw_inv nr _ _ _ _ (pgrw2 hp _ h2 h5) (by omega)) h0
   try have h5 : GRR _ (A60_L_z11_L_2 a0 a1 a2 a3) _ := (fun _ => grw_inv10 _ a0 ([], _) _ a3 (pgrw1 (t := ([], [])) hp _ h2) (Nat.lt_succ_self _)) h0
   try have h6 : GRR _ (A60_L_z11_L_3 a0 a1 a2 a3) _ := (fun _ => grw_inv _ _ _ _ _ (pgrw2 (t := ([], [])) hp _ h2 h5) (Nat.lt_succ_self _)) h0
   try have g1 := (fun _ => h5.ol) h0
   try have g2 := (fun _ => h5.lo) h0
   try have g3 := (fun _ => h5.hi) h0
   try have f1 := (fun _ => h6.ol) h0
   try have f2 := (fun _ => h6.lo) h0
   try have f3 := (fun _ => h6.hi) h0
   try (have _ := h0; simp only [List.length_append, List.length_cons, List.length_nil] at g1 g2 g3 f1 f2 f3)
   have e := Eq.refl (R60_L_z11_L (nr + 1) a0 a1 a2 a3); conv at e => rhs; simp only [R60_L_z11_L, h0, cond_true, cond_false]
   rw [e]
   try dsimp only [thenF]
   try dsimp only
   rw [show flat c40 (((A60_L_z11_L_3 a0 a1 a2 a3).2.set (Int.toNat 0) (((A60_L_z11_L_3 a0 a1 a2 a3).2.getD (Int.toNat 0) default).1, ((A60_L_z11_L_3 a0 a1 a2 a3).2.getD (Int.toNat 0) default).2.1, 1, ((A60_L_z11_L_3 a0 a1 a2 a3).2.getD (Int.toNat 0) default).2.2.2.1, ((A60_L_z11_L_3 a0 a1 a2 a3).2.getD (Int.toNat 0) default).2.2.2.2.1, ((A60_L_z11_L_3 a0 a1 a2 a3).2.getD (Int.toNat 0) default).2.2.2.2.2)).set (Int.toNat 0) ((((A60_L_z11_L_3 a0 a1 a2 a3).2.set (Int.toNat 0) (((A60_L_z11_L_3 a0 a1 a2 a3).2.getD (Int.toNat 0) default).1, ((A60_L_z11_L_3 a0 a1 a2 a3).2.getD (Int.toNat 0) default).2.1, 1, ((A60_L_z11_L_3 a0 a1 a2 a3).2.getD (Int.toNat 0) default).2.2.2.1, ((A60_L_z11_L_3 a0 a1 a2 a3).2.getD (Int.toNat 0) default).2.2.2.2.1, ((A60_L_z11_L_3 a0 a1 a2 a3).2.getD (Int.toNat 0) default).2.2.2.2.2)).getD (Int.toNat 0) default).1, (((A60_L_z11_L_3 a0 a1 a2 a3).2.set (Int.toNat 0) (((A60_L_z11_L_3 a0 a1 a2 a3).2.getD (Int.toNat 0) default).1, ((A60_L_z11_L_3 a0 a1 a2 a3).2.getD (Int.toNat 0) default).2.1, 1, ((A60_L_z11_L_3 a0 a1 a2 a3).2.getD (Int.toNat 0) default).2.2.2.1, ((A60_L_z11_L_3 a0 a1 a2 a3).2.getD (Int.toNat 0) default).2.2.2.2.1, ((A60_L_z11_L_3 a0 a1 a2 a3).2.getD (Int.toNat 0) default).2.2.2.2.2)).getD (Int.toNat 0) default).2.1, (((A60_L_z11_L_3 a0 a1 a2 a3).2.set (Int.toNat 0) (((A60_L_z11_L_3 a0 a1 a2 a3).2.getD (Int.toNat 0) default).1, ((A60_L_z11_L_3 a0 a1 a2 a3).2.getD (Int.toNat 0) default).2.1, 1, ((A60_L_z11_L_3 a0 a1 a2 a3).2.getD (Int.toNat 0) default).2.2.2.1, ((A60_L_z11_L_3 a0 a1 a2 a3).2.getD (Int.toNat 0) default).2.2.2.2.1, ((A60_L_z11_L_3 a0 a1 a2 a3).2.getD (Int.toNat 0) default).2.2.2.2.2)).getD (Int.toNat 0) default).2.2.1, (((A60_L_z11_L_2 a0 a1 a2 a3).2.length : Nat) : Int), (((A60_L_z11_L_3 a0 a1 a2 a3).2.set (Int.toNat 0) (((A60_L_z11_L_3 a0 a1 a2 a3).2.getD (Int.toNat 0) default).1, ((A60_L_z11_L_3 a0 a1 a2 a3).2.getD (Int.toNat 0) default).2.1, 1, ((A60_L_z11_L_3 a0 a1 a2 a3).2.getD (Int.toNat 0) default).2.2.2.1, ((A60_L_z11_L_3 a0 a1 a2 a3).2.getD (Int.toNat 0) default).2.2.2.2.1, ((A60_L_z11_L_3 a0 a1 a2 a3).2.getD (Int.toNat 0) default).2.2.2.2.2)).getD (Int.toNat 0) default).2.2.2.2.1, (((A60_L_z11_L_3 a0 a1 a2 a3).2.set (Int.toNat 0) (((A60_L_z11_L_3 a0 a1 a2 a3).2.getD (Int.toNat 0) default).1, ((A60_L_z11_L_3 a0 a1 a2 a3).2.getD (Int.toNat 0) default).2.1, 1, ((A60_L_z11_L_3 a0 a1 a2 a3).2.getD (Int.toNat 0) default).2.2.2.1, ((A60_L_z11_L_3 a0 a1 a2 a3).2.getD (Int.toNat 0) default).2.2.2.2.1, ((A60_L_z11_L_3 a0 a1 a2 a3).2.getD (Int.toNat 0) default).2.2.2.2.2)).getD (Int.toNat 0) default).2.2.2.2.2)) = (splice (splice (flat c40 (A60_L_z11_L_3 a0 a1 a2 a3).2) (0 + Int.toNat 0 * 8 + 2) [(iv 1)]) (0 + Int.toNat 0 * 8 + 3) [(iv (((A60_L_z11_L_2 a0 a1 a2 a3).2.length : Nat) : Int))]) from Eq.symm (by rw [show (splice (flat c40 (A60_L_z11_L_3 a0 a1 a2 a3).2) (0 + Int.toNat 0 * 8 + 2) [(iv 1)]) = flat c40 ((A60_L_z11_L_3 a0 a1 a2 a3).2.set (Int.toNat 0) (((A60_L_z11_L_3 a0 a1 a2 a3).2.getD (Int.toNat 0) default).1, ((A60_L_z11_L_3 a0 a1 a2 a3).2.getD (Int.toNat 0) default).2.1, 1, ((A60_L_z11_L_3 a0 a1 a2 a3).2.getD (Int.toNat 0) default).2.2.2.1, ((A60_L_z11_L_3 a0 a1 a2 a3).2.getD (Int.toNat 0) default).2.2.2.2.1, ((A60_L_z11_L_3 a0 a1 a2 a3).2.getD (Int.toNat 0) default).2.2.2.2.2)) from (flat_set c40_len (by first | omega | (simp only [List.length_set]; omega)) (i := Int.toNat 0) (o := 2) (d := default) (y := (((A60_L_z11_L_3 a0 a1 a2 a3).2.getD (Int.toNat 0) default).1, ((A60_L_z11_L_3 a0 a1 a2 a3).2.getD (Int.toNat 0) default).2.1, 1, ((A60_L_z11_L_3 a0 a1 a2 a3).2.getD (Int.toNat 0) default).2.2.2.1, ((A60_L_z11_L_3 a0 a1 a2 a3).2.getD (Int.toNat 0) default).2.2.2.2.1, ((A60_L_z11_L_3 a0 a1 a2 a3).2.getD (Int.toNat 0) default).2.2.2.2.2)) (xs := [(iv 1)]) (Nat.le_of_ble_eq_true rfl) rfl)]; exact flat_set c40_len (by first | omega | (simp only [List.length_set]; omega)) (i := Int.toNat 0) (o := 3) (d := default) (y := ((((A60_L_z11_L_3 a0 a1 a2 a3).2.set (Int.toNat 0) (((A60_L_z11_L_3 a0 a1 a2 a3).2.getD (Int.toNat 0) default).1, ((A60_L_z11_L_3 a0 a1 a2 a3).2.getD (Int.toNat 0) default).2.1, 1, ((A60_L_z11_L_3 a0 a1 a2 a3).2.getD (Int.toNat 0) default).2.2.2.1, ((A60_L_z11_L_3 a0 a1 a2 a3).2.getD (Int.toNat 0) default).2.2.2.2.1, ((A60_L_z11_L_3 a0 a1 a2 a3).2.getD (Int.toNat 0) default).2.2.2.2.2)).getD (Int.toNat 0) default).1, (((A60_L_z11_L_3 a0 a1 a2 a3).2.set (Int.toNat 0) (((A60_L_z11_L_3 a0 a1 a2 a3).2.getD (Int.toNat 0) default).1, ((A60_L_z11_L_3 a0 a1 a2 a3).2.getD (Int.toNat 0) default).2.1, 1, ((A60_L_z11_L_3 a0 a1 a2 a3).2.getD (Int.toNat 0) default).2.2.2.1, ((A60_L_z11_L_3 a0 a1 a2 a3).2.getD (Int.toNat 0) default).2.2.2.2.1, ((A60_L_z11_L_3 a0 a1 a2 a3).2.getD (Int.toNat 0) default).2.2.2.2.2)).getD (Int.toNat 0) default).2.1, (((A60_L_z11_L_3 a0 a1 a2 a3).2.set (Int.toNat 0) (((A60_L_z11_L_3 a0 a1 a2 a3).2.getD (Int.toNat 0) default).1, ((A60_L_z11_L_3 a0 a1 a2 a3).2.getD (Int.toNat 0) default).2.1, 1, ((A60_L_z11_L_3 a0 a1 a2 a3).2.getD (Int.toNat 0) default).2.2.2.1, ((A60_L_z11_L_3 a0 a1 a2 a3).2.getD (Int.toNat 0) default).2.2.2.2.1, ((A60_L_z11_L_3 a0 a1 a2 a3).2.getD (Int.toNat 0) default).2.2.2.2.2)).getD (Int.toNat 0) default).2.2.1, (((A60_L_z11_L_2 a0 a1 a2 a3).2.length : Nat) : Int), (((A60_L_z11_L_3 a0 a1 a2 a3).2.set (Int.toNat 0) (((A60_L_z11_L_3 a0 a1 a2 a3).2.getD (Int.toNat 0) default).1, ((A60_L_z11_L_3 a0 a1 a2 a3).2.getD (Int.toNat 0) default).2.1, 1, ((A60_L_z11_L_3 a0 a1 a2 a3).2.getD (Int.toNat 0) default).2.2.2.1, ((A60_L_z11_L_3 a0 a1 a2 a3).2.getD (Int.toNat 0) default).2.2.2.2.1, ((A60_L_z11_L_3 a0 a1 a2 a3).2.getD (Int.toNat 0) default).2.2.2.2.2)).getD (Int.toNat 0) default).2.2.2.2.1, (((A60_L_z11_L_3 a0 a1 a2 a3).2.set (Int.toNat 0) (((A60_L_z11_L_3 a0 a1 a2 a3).2.getD (Int.toNat 0) default).1, ((A60_L_z11_L_3 a0 a1 a2 a3).2.getD (Int.toNat 0) default).2.1, 1, ((A60_L_z11_L_3 a0 a1 a2 a3).2.getD (Int.toNat 0) default).2.2.2.1, ((A60_L_z11_L_3 a0 a1 a2 a3).2.getD (Int.toNat 0) default).2.2.2.2.1, ((A60_L_z11_L_3 a0 a1 a2 a3).2.getD (Int.toNat 0) default).2.2.2.2.2)).getD (Int.toNat 0) default).2.2.2.2.2)) (xs := [(iv (((A60_L_z11_L_2 a0 a1 a2 a3).2.length : Nat) : Int))]) (Nat.le_of_ble_eq_true rfl) rfl)]
   try rw [show List.length (α := Int × Int × Int × Int × (Int × Int × Int) × Int) (((A60_L_z11_L_3 a0 a1 a2 a3).2.set (Int.toNat 0) (((A60_L_z11_L_3 a0 a1 a2 a3).2.getD (Int.toNat 0) default).1, ((A60_L_z11_L_3 a0 a1 a2 a3).2.getD (Int.toNat 0) default).2.1, 1, ((A60_L_z11_L_3 a0 a1 a2 a3).2.getD (Int.toNat 0) default).2.2.2.1, ((A60_L_z11_L_3 a0 a1 a2 a3).2.getD (Int.toNat 0) default).2.2.2.2.1, ((A60_L_z11_L_3 a0 a1 a2 a3).2.getD (Int.toNat 0) default).2.2.2.2.2)).set (Int.toNat 0) ((((A60_L_z11_L_3 a0 a1 a2 a3).2.set (Int.toNat 0) (((A60_L_z11_L_3 a0 a1 a2 a3).2.getD (Int.toNat 0) default).1, ((A60_L_z11_L_3 a0 a1 a2 a3).2.getD (Int.toNat 0) default).2.1, 1, ((A60_L_z11_L_3 a0 a1 a2 a3).2.getD (Int.toNat 0) default).2.2.2.1, ((A60_L_z11_L_3 a0 a1 a2 a3).2.getD (Int.toNat 0) default).2.2.2.2.1, ((A60_L_z11_L_3 a0 a1 a2 a3).2.getD (Int.toNat 0) default).2.2.2.2.2)).getD (Int.toNat 0) default).1, (((A60_L_z11_L_3 a0 a1 a2 a3).2.set (Int.toNat 0) (((A60_L_z11_L_3 a0 a1 a2 a3).2.getD (Int.toNat 0) default).1, ((A60_L_z11_L_3 a0 a1 a2 a3).2.getD (Int.toNat 0) default).2.1, 1, ((A60_L_z11_L_3 a0 a1 a2 a3).2.getD (Int.toNat 0) default).2.2.2.1, ((A60_L_z11_L_3 a0 a1 a2 a3).2.getD (Int.toNat 0) default).2.2.2.2.1, ((A60_L_z11_L_3 a0 a1 a2 a3).2.getD (Int.toNat 0) default).2.2.2.2.2)).getD (Int.toNat 0) default).2.1, (((A60_L_z11_L_3 a0 a1 a2 a3).2.set (Int.toNat 0) (((A60_L_z11_L_3 a0 a1 a2 a3).2.getD (Int.toNat 0) default).1, ((A60_L_z11_L_3 a0 a1 a2 a3).2.getD (Int.toNat 0) default).2.1, 1, ((A60_L_z11_L_3 a0 a1 a2 a3).2.getD (Int.toNat 0) default).2.2.2.1, ((A60_L_z11_L_3 a0 a1 a2 a3).2.getD (Int.toNat 0) default).2.2.2.2.1, ((A60_L_z11_L_3 a0 a1 a2 a3).2.getD (Int.toNat 0) default).2.2.2.2.2)).getD (Int.toNat 0) default).2.2.1, (((A60_L_z11_L_2 a0 a1 a2 a3).2.length : Nat) : Int), (((A60_L_z11_L_3 a0 a1 a2 a3).2.set (Int.toNat 0) (((A60_L_z11_L_3 a0 a1 a2 a3).2.getD (Int.toNat 0) default).1, ((A60_L_z11_L_3 a0 a1 a2 a3).2.getD (Int.toNat 0) default).2.1, 1, ((A60_L_z11_L_3 a0 a1 a2 a3).2.getD (Int.toNat 0) default).2.2.2.1, ((A60_L_z11_L_3 a0 a1 a2 a3).2.getD (Int.toNat 0) default).2.2.2.2.1, ((A60_L_z11_L_3 a0 a1 a2 a3).2.getD (Int.toNat 0) default).2.2.2.2.2)).getD (Int.toNat 0) default).2.2.2.2.1, (((A60_L_z11_L_3 a0 a1 a2 a3).2.set (Int.toNat 0) (((A60_L_z11_L_3 a0 a1 a2 a3).2.getD (Int.toNat 0) default).1, ((A60_L_z11_L_3 a0 a1 a2 a3).2.getD (Int.toNat 0) default).2.1, 1, ((A60_L_z11_L_3 a0 a1 a2 a3).2.getD (Int.toNat 0) default).2.2.2.1, ((A60_L_z11_L_3 a0 a1 a2 a3).2.getD (Int.toNat 0) default).2.2.2.2.1, ((A60_L_z11_L_3 a0 a1 a2 a3).2.getD (Int.toNat 0) default).2.2.2.2.2)).getD (Int.toNat 0) default).2.2.2.2.2)) = (A60_L_z11_L_3 a0 a1 a2 a3).2.length from by first | simp; done | omega]
   exact rt (t0 ++ [.d h0, .c [0, 1] (C84_L_L a0 a2 (by (try simp only [List.length_append, List.length_cons, List.length_nil, Int.toNat_zero, List.length_set]); omega) (by (try simp only [List.length_append, List.length_cons, List.length_nil, Int.toNat_zero, List.length_set]); omega) hp.inr (by omega)), .c [0, 1] (C83_L_L a0 a2 (F84_L_L a0 a2) (by (try simp only [List.length_append, List.length_cons, List.length_nil, Int.toNat_zero, List.length_set]); omega) (by (try simp only [List.length_append, List.length_cons, List.length_nil, Int.toNat_zero, List.length_set]); omega) hp.inr (by omega)), .p (show (2 : Int) ≠ 0 from by decide), .S c3_len (F83_L_L a0 a2 (F84_L_L a0 a2)) 0 (W (Int.tdiv (W ((((F83_L_L a0 a2 (F84_L_L a0 a2)).length : Nat) : Int) + 1)) 2)) ((F83_L_L a0 a2 (F84_L_L a0 a2)).length), .c [0, 7, 9] (by have q := (Con.flags (bs' := [(.live false true (flat c81 a0)), (.live true false [(iv 0), (iv (W (0 + ((a2.length : Nat) : Int)))), (iv (-1)), (iv (-1)), (iv (F80_L_L a0 a2 0)), (iv (F80_L_L a0 a2 1)), (iv (F80_L_L a0 a2 2)), (iv (A60_L_z11_L_1 a0 a1 a2 a3).1)]), (.live false true (flat c3 (Aw.part (F83_L_L a0 a2 (F84_L_L a0 a2)) 0 (W (Int.tdiv (W ((((F83_L_L a0 a2 (F84_L_L a0 a2)).length : Nat) : Int) + 1)) 2)))))]) (C60_L_z10_L a0 (([] : List (Int)), ([(0, (W (0 + ((a2.length : Nat) : Int))), (-1), (-1), ((F80_L_L a0 a2 0), (F80_L_L a0 a2 1), (F80_L_L a0 a2 2)), (A60_L_z11_L_1 a0 a1 a2 a3).1)] : TyN)) (Aw.part (F83_L_L a0 a2 (F84_L_L a0 a2)) 0 (W (Int.tdiv (W ((((F83_L_L a0 a2 (F84_L_L a0 a2)).length : Nat) : Int) + 1)) 2))) a3 (by (try simp only [List.length_append, List.length_cons, List.length_nil, Int.toNat_zero, List.length_set]); omega) (by (try simp only [List.length_append, List.length_cons, List.length_nil, Int.toNat_zero, List.length_set]); omega) (by (try simp only [List.length_append, List.length_cons, List.length_nil, Int.toNat_zero, List.length_set]); omega) (by (try simp only [List.length_append, List.length_cons, List.length_nil, Int.toNat_zero, List.length_set]); omega) (by first | exact pgrw1 hp _ h2 | exact pgrw2 hp _ h2 h5)) rfl ⟨flat_plain (fun _ => rfl), flat_plain (fun _ => rfl), flat_plain (fun _ => rfl), trivial⟩); (try dsimp only at q); (try rw [show List.length (α := Int) (Aw.part (F83_L_L a0 a2 (F84_L_L a0 a2)) 0 (W (Int.tdiv (W ((((F83_L_L a0 a2 (F84_L_L a0 a2)).length : Nat) : Int) + 1)) 2))) = (Int.toNat (W (Int.tdiv (W ((((F83_L_L a0 a2 (F84_L_L a0 a2)).length : Nat) : Int) + 1)) 2)) - Int.toNat 0) from by first | simp; done | omega] at q); exact q), .S c3_len (F83_L_L a0 a2 (F84_L_L a0 a2)) (W (Int.tdiv (W ((((F83_L_L a0 a2 (F84_L_L a0 a2)).length : Nat) : Int) + 1)) 2)) (((F83_L_L a0 a2 (F84_L_L a0 a2)).length : Nat) : Int) ((F83_L_L a0 a2 (F84_L_L a0 a2)).length), .c [0, 10, 11, 12] (by have q := (C60_L_z00_L a0 ((A60_L_z11_L_2 a0 a1 a2 a3).1, (A60_L_z11_L_2 a0 a1 a2 a3).2) (Aw.part (F83_L_L a0 a2 (F84_L_L a0 a2)) (W (Int.tdiv (W ((((F83_L_L a0 a2 (F84_L_L a0 a2)).length : Nat) : Int) + 1)) 2)) (((F83_L_L a0 a2 (F84_L_L a0 a2)).length : Nat) : Int)) a3 (by (try simp only [List.length_append, List.length_cons, List.length_nil, Int.toNat_zero, List.length_set]); omega) (by (try simp only [List.length_append, List.length_cons, List.length_nil, Int.toNat_zero, List.length_set]); omega) (by (try simp only [List.length_append, List.length_cons, List.length_nil, Int.toNat_zero, List.length_set]); omega) (by (try simp only [List.length_append, List.length_cons, List.length_nil, Int.toNat_zero, List.length_set]); omega) (by first | exact pgrw1 hp _ h2 | exact pgrw2 hp _ h2 h5)); (try dsimp only at q); (try rw [show List.length (α := Int) (Aw.part (F83_L_L a0 a2 (F84_L_L a0 a2)) (W (Int.tdiv (W ((((F83_L_L a0 a2 (F84_L_L a0 a2)).length : Nat) : Int) + 1)) 2)) (((F83_L_L a0 a2 (F84_L_L a0 a2)).length : Nat) : Int)) = (Int.toNat (((F83_L_L a0 a2 (F84_L_L a0 a2)).length : Nat) : Int) - Int.toNat (W (Int.tdiv (W ((((F83_L_L a0 a2 (F84_L_L a0 a2)).length : Nat) : Int) + 1)) 2))) from by first | simp; done | omega] at q); exact q), .i 0 ((A60_L_z11_L_3 a0 a1 a2 a3).2.length), .p (show ((0 + Int.toNat 0 * 8 + 2) + 1 ≤ (flat c40 (A60_L_z11_L_3 a0 a1 a2 a3).2).length) from (flat_setl c40_len (by first | omega | (simp only [List.length_set]; omega)) (i := Int.toNat 0) (o := 2) (n := 1) (Nat.le_of_ble_eq_true rfl))), .i 0 ((A60_L_z11_L_3 a0 a1 a2 a3).2.length), .p (show ((0 + Int.toNat 0 * 8 + 3) + 1 ≤ (splice (flat c40 (A60_L_z11_L_3 a0 a1 a2 a3).2) (0 + Int.toNat 0 * 8 + 2) [(iv 1)]).length) from (by rw [show (splice (flat c40 (A60_L_z11_L_3 a0 a1 a2 a3).2) (0 + Int.toNat 0 * 8 + 2) [(iv 1)]) = flat c40 ((A60_L_z11_L_3 a0 a1 a2 a3).2.set (Int.toNat 0) (((A60_L_z11_L_3 a0 a1 a2 a3).2.getD (Int.toNat 0) default).1, ((A60_L_z11_L_3 a0 a1 a2 a3).2.getD (Int.toNat 0) default).2.1, 1, ((A60_L_z11_L_3 a0 a1 a2 a3).2.getD (Int.toNat 0) default).2.2.2.1, ((A60_L_z11_L_3 a0 a1 a2 a3).2.getD (Int.toNat 0) default).2.2.2.2.1, ((A60_L_z11_L_3 a0 a1 a2 a3).2.getD (Int.toNat 0) default).2.2.2.2.2)) from (flat_set c40_len (by first | omega | (simp only [List.length_set]; omega)) (i := Int.toNat 0) (o := 2) (d := default) (y := (((A60_L_z11_L_3 a0 a1 a2 a3).2.getD (Int.toNat 0) default).1, ((A60_L_z11_L_3 a0 a1 a2 a3).2.getD (Int.toNat 0) default).2.1, 1, ((A60_L_z11_L_3 a0 a1 a2 a3).2.getD (Int.toNat 0) default).2.2.2.1, ((A60_L_z11_L_3 a0 a1 a2 a3).2.getD (Int.toNat 0) default).2.2.2.2.1, ((A60_L_z11_L_3 a0 a1 a2 a3).2.getD (Int.toNat 0) default).2.2.2.2.2)) (xs := [(iv 1)]) (Nat.le_of_ble_eq_true rfl) rfl)]; exact flat_setl c40_len (by first | omega | (simp only [List.length_set]; omega)) (i := Int.toNat 0) (o := 3) (n := 1) (Nat.le_of_ble_eq_true rfl)))]) []  [13, 14] hcx (by kernel_rfl)

theorem C60_L_z11_L (a0 : TyL) (a1 : List (Int) × TyN) (a2 : List (Int)) (a3 : Int) (l0 : a0.length ≤ 9223372036854775807) (l1_1 : a1.1.length ≤ 9223372036854775807) (l1_2 : a1.2.length ≤ 9223372036854775807) (l2 : a2.length ≤ 9223372036854775807) (hp : PGRW a0 ([], []) a2 a3) : Con Try.prog 60 [(.s 0 0 a0.length 10), (.a [(.v (.slice none 0 0)), (.v (.slice none 0 0))]), (.s 1 0 a2.length 1), (iv a3)] [(.live false true (flat c81 a0)), (.live false true (flat c3 a2))] (.a [(.s 2 0 (F60_L_z11_L a0 a1 a2 a3).1.length 1), (.s 3 0 (F60_L_z11_L a0 a1 a2 a3).2.length 8)]) [(.live true true (flat c3 (F60_L_z11_L a0 a1 a2 a3).1)), (.live true true (flat c40 (F60_L_z11_L a0 a1 a2 a3).2))] := Cr60_L_z11_L (a2.length + 1) a0 a1 a2 a3 l0 l1_1 l1_2 l2 hp (Nat.lt_succ_self _)

end Go.Proofs.Ytnbpiejjeeomkaa

namespace Go.Proofs.Ytnbpiejjeeomkaa
open Go.Proofs Go.Aw Go.RowKit
set_option maxRecDepth 100000
set_option linter.unusedVariables false
set_option linter.unusedSimpArgs false

noncomputable def B36_L_0 : Code := (loopAtD [1, 1, 0, 1] [] (bodyOf Try.f36) []).1
noncomputable def K36_L_0 : List K := (loopAtD [1, 1, 0, 1] [] (bodyOf Try.f36) []).2

def st36_L_0 (a0 : TyL) (a1 : Int) (v2c : List SV) (v2n : Nat) (v3 : Int) : LS := ⟨slN 26 [(0, (.s 0 0 a0.length 10)), (1, (iv a1)), (4, (.p 1 0)), (5, (.s 2 0 v2n 1)), (6, (iv v3))], [(.live false true (flat c81 a0)), (.live true false [(.v (.slice none 0 0)), (.v (.slice none 0 0))]), (.live true true v2c)]⟩

def S36_L_0 (a0 : TyL) (a1 : Int) : List (Int) × Int → (List (Int) × Int) ⊕ (List (Int) × TyN)
  | (v2, v3) =>
   (bif (decide ((v3 : Int) < ((a0.length : Nat) : Int))) then
    (.inl ((v2 ++ [v3]), (v3 + 1)))
   else
    (bif ((((a0.length : Nat) : Int) : Int) == 0) then
     (.inr (([] : List (Int)), ([] : TyN)))
    else
     (.inr ((F60_L_z11_L a0 (([] : List (Int)), ([] : TyN)) v2 a1).1, (F60_L_z11_L a0 (([] : List (Int)), ([] : TyN)) v2 a1).2))))

set_option maxHeartbeats 4000000 in
theorem L36_L_0 (a0 : TyL) (a1 : Int) (l0 : a0.length ≤ 9223372036854775807) (hl : a0.length ≤ 96) (hf : 1 ≤ a1) {cx : Cx} (hcx : cx.base = 1) : ∀ (n : Nat) (v2 : List (Int)) (v3 : Int), (0 ≤ v3) ∧ (v2.length = Int.toNat v3) ∧ (InR a0.length v2) ∧ (v3 ≤ a0.length) ∧ (a0.length ≤ 96) → Int.toNat (((a0.length : Nat) : Int) - v3) < n → Aw.Good Try.prog none 9 (bodyPost Try.prog Try.f36 (RR cx (.a [(.s 1 0 (loopF (S36_L_0 a0 a1) n (v2, v3)).1.length 1), (.s 2 0 (loopF (S36_L_0 a0 a1) n (v2, v3)).2.length 8)]) [(.live true true (flat c3 (loopF (S36_L_0 a0 a1) n (v2, v3)).1)), (.live true true (flat c40 (loopF (S36_L_0 a0 a1) n (v2, v3)).2))] [])) cx [] (.l B36_L_0 n :: K36_L_0) (st36_L_0 a0 a1 (flat c3 v2) v2.length v3) := by
  intro n
  induction n with
  | zero => intro v2 v3 hi hn; exact absurd hn (Nat.not_lt_zero _)
  | succ n ih =>
    intro v2 v3 hi hn
    refine good_round ?_
    cases h0 : (decide ((v3 : Int) < ((a0.length : Nat) : Int))) with
    | true =>
     have q0 := of_decide_eq_true h0
     have e := Eq.refl (S36_L_0 a0 a1 (v2, v3)); conv at e => rhs; simp only [S36_L_0, h0, cond_true, cond_false]
     rw [loopF_inl e]
     refine ba [.d h0, .p (show ((flat c3 v2).length = v2.length * 1 ∧ v2.length + 1 ≤ 2 ^ 40 ∧ (v2.length + 1) * 8 ≤ 2 ^ 47) from app_ok c3_len (by omega) (by omega))] [] [0, 1, 4, 5, 6] [1, 4] hcx (m := n) B36_L_0 (K36_L_0) (st36_L_0 a0 a1 (flat c3 v2 ++ [(iv v3)]) (v2.length + 1) (W (v3 + 1))) (by kernel_rfl) ?_
     have z0 : (W (v3 + 1)) = (v3 + 1) := W_eq (by omega) (by omega)
     have z1 : (flat c3 v2 ++ [(iv v3)]) = (flat c3 (v2 ++ [v3])) := (flat_append (c := c3) (l := v2) (m := [v3])).symm
     have z2 : (v2.length + 1) = (v2 ++ [v3]).length := len_app v2 [v3] rfl
     rw [z0, z1, z2]
     exact ih (v2 ++ [v3]) (v3 + 1) (by and_intros <;> (try simp only [List.length_append, List.length_cons, List.length_nil, Int.toNat_zero, List.length_set]) <;> first | omega | assumption | exact hi.2.1 | exact hi.2.2.1 | exact InR.swap hi.2.1 (by omega) (by omega) | exact InR.swap hr (by omega) (by omega) | exact InR.nil _ | exact hi.2.2.1.add (by omega)) (by (try simp only [List.length_append, List.length_cons, List.length_nil, Int.toNat_zero]); omega)
    | false =>
     have q0 := of_decide_eq_false h0
     let t1 : List (St Try.prog) := [.d h0]
     cases h1 : ((((a0.length : Nat) : Int) : Int) == 0) with
     | true =>
      have q1 := eq_of_beq h1
      have e := Eq.refl (S36_L_0 a0 a1 (v2, v3)); conv at e => rhs; simp only [S36_L_0, h0, h1, cond_true, cond_false]
      rw [loopF_s, e]
      exact rt (t1 ++ [.d h1]) [.cell 1 0 1, .cell 1 1 8] [3, 4] hcx (by kernel_rfl)
     | false =>
      have q1 := ne_of_beq_false h1
      have e := Eq.refl (S36_L_0 a0 a1 (v2, v3)); conv at e => rhs; simp only [S36_L_0, h0, h1, cond_true, cond_false]
      rw [loopF_s, e]
      exact rt (t1 ++ [.d h1, .c [0, 2] (C60_L_z11_L a0 (([] : List (Int)), ([] : TyN)) v2 a1 (by (try simp only [List.length_append, List.length_cons, List.length_nil, Int.toNat_zero, List.length_set]); omega) (by (try simp only [List.length_append, List.length_cons, List.length_nil, Int.toNat_zero, List.length_set]); omega) (by (try simp only [List.length_append, List.length_cons, List.length_nil, Int.toNat_zero, List.length_set]); omega) (by (try simp only [List.length_append, List.length_cons, List.length_nil, Int.toNat_zero, List.length_set]); omega) ⟨hi.2.2.1, by simp only [List.length_nil]; omega, by simp only [List.length_nil]; omega, hf⟩)]) [] [3, 4] hcx (by kernel_rfl)

def F36_L (a0 : TyL) (a1 : Int) : List (Int) × TyN :=
  (loopF (S36_L_0 a0 a1) (Int.toNat (((a0.length : Nat) : Int) - 0) + 1) (([] : List (Int)), 0))

theorem C36_L (a0 : TyL) (a1 : Int) (l0 : a0.length ≤ 9223372036854775807) (hl : a0.length ≤ 96) (hf : 1 ≤ a1) : Con Try.prog 36 [(.s 0 0 a0.length 10), (iv a1)] [(.live false true (flat c81 a0))] (.a [(.s 1 0 (F36_L a0 a1).1.length 1), (.s 2 0 (F36_L a0 a1).2.length 8)]) [(.live true true (flat c3 (F36_L a0 a1).1)), (.live true true (flat c40 (F36_L a0 a1).2))] := by
  refine con_s Try.func36 (by kernel_rfl) fun cx hcx => ?_
  have e := Eq.refl (F36_L a0 a1); conv at e => rhs; simp only [F36_L]
  rw [e]
  refine en [] [.slot 5 1] [0, 1, 4, 5, 6] [1, 2] hcx B36_L_0 (K36_L_0) (st36_L_0 a0 a1 (flat c3 ([] : List (Int))) 0 0) (Int.toNat (((a0.length : Nat) : Int) - 0) + 1) (by kernel_rfl) ?_
  exact L36_L_0 a0 a1 l0 hl hf hcx (Int.toNat (((a0.length : Nat) : Int) - 0) + 1) ([] : List (Int)) 0 (by and_intros <;> (try simp only [List.length_append, List.length_cons, List.length_nil, Int.toNat_zero, List.length_set]) <;> first | omega | assumption | exact hi.2.1 | exact hi.2.2.1 | exact InR.swap hi.2.1 (by omega) (by omega) | exact InR.swap hr (by omega) (by omega) | exact InR.nil _ | exact hi.2.2.1.add (by omega)) (by (try simp only [List.length_append, List.length_cons, List.length_nil, Int.toNat_zero]); omega)

def F12_L (a0 : TyL) (a1 : Int) : (List (Int) × TyN) × Int :=
  (bif (((F35_L a0) : Int) != 0) then
   ((([] : List (Int)), ([] : TyN)), (F35_L a0))
  else
   (bif (decide ((a1 : Int) < 1)) then
    ((([] : List (Int)), ([] : TyN)), 1)
   else
    (bif (decide ((a1 : Int) > 16)) then
     ((([] : List (Int)), ([] : TyN)), 1)
    else
     (((F36_L a0 a1).1, (F36_L a0 a1).2), 0))))

theorem C12_L (a0 : TyL) (a1 : Int) (l0 : a0.length ≤ 9223372036854775807) : Con Try.prog 12 [(.s 0 0 a0.length 10), (iv a1)] [(.live false true (flat c81 a0))] (.t [(.a [(.s 1 0 (F12_L a0 a1).1.1.length 1), (.s 2 0 (F12_L a0 a1).1.2.length 8)]), (iv (F12_L a0 a1).2)]) [(.live true true (flat c3 (F12_L a0 a1).1.1)), (.live true true (flat c40 (F12_L a0 a1).1.2))] := by
  refine con_s Try.func12 (by kernel_rfl) fun cx hcx => ?_
  let t0 : List (St Try.prog) := [.c [0] (C35_L a0 (by (try simp only [List.length_append, List.length_cons, List.length_nil, Int.toNat_zero, List.length_set]); omega))]
  cases h0 : (((F35_L a0) : Int) != 0) with
  | true =>
   have q0 := bne_iff_ne.1 h0
   have e := Eq.refl (F12_L a0 a1); conv at e => rhs; simp only [F12_L, h0, cond_true, cond_false]
   rw [e]
   exact rt (t0 ++ [.d h0]) [.cell 1 0 1, .cell 1 1 8] [2, 3] hcx (by kernel_rfl)
  | false =>
   have q0 := bne_eq_false_iff_eq.1 h0
   let t1 : List (St Try.prog) := (t0 ++ [.d h0])
   cases h1 : (decide ((a1 : Int) < 1)) with
   | true =>
    have q1 := of_decide_eq_true h1
    have e := Eq.refl (F12_L a0 a1); conv at e => rhs; simp only [F12_L, h0, h1, cond_true, cond_false]
    rw [e]
    exact rt (t1 ++ [.d h1]) [.cell 1 0 1, .cell 1 1 8] [2, 3] hcx (by kernel_rfl)
   | false =>
    have q1 := of_decide_eq_false h1
    let t2 : List (St Try.prog) := (t1 ++ [.d h1])
    cases h2 : (decide ((a1 : Int) > 16)) with
    | true =>
     have q2 := of_decide_eq_true h2
     have e := Eq.refl (F12_L a0 a1); conv at e => rhs; simp only [F12_L, h0, h1, h2, cond_true, cond_false]
     rw [e]
     exact rt (t2 ++ [.d h2]) [.cell 1 0 1, .cell 1 1 8] [2, 3] hcx (by kernel_rfl)
    | false =>
     have q2 := of_decide_eq_false h2
     have e := Eq.refl (F12_L a0 a1); conv at e => rhs; simp only [F12_L, h0, h1, h2, cond_true, cond_false]
     rw [e]
     exact rt (t2 ++ [.d h2, .c [0] (C36_L a0 a1 (by (try simp only [List.length_append, List.length_cons, List.length_nil, Int.toNat_zero, List.length_set]); omega) (vch_lenr (l := a0) (bne_eq_false_iff_eq.1 h0)) (by omega))]) [] [2, 3] hcx (by kernel_rfl)

noncomputable def B27_L_L_0 : Code := (loopAtD [1, 1, 0, 1] [] (bodyOf Try.f27) []).1
noncomputable def K27_L_L_0 : List K := (loopAtD [1, 1, 0, 1] [] (bodyOf Try.f27) []).2

def st27_L_L_0 (a0 : List (Int)) (a1 : List (Int)) (v1 : Int) : LS := ⟨slN 26 [(0, (.s 0 0 a0.length 1)), (1, (.s 1 0 a1.length 1)), (5, (iv v1))], [(.live false true (flat c3 a0)), (.live false true (flat c3 a1))]⟩

def S27_L_L_0 (a0 : List (Int)) (a1 : List (Int)) : Int → (Int) ⊕ (Bool)
  | v1 =>
   (bif (decide ((v1 : Int) < ((a0.length : Nat) : Int))) then
    (bif (((a0.getD (Int.toNat v1) default) : Int) != (a1.getD (Int.toNat v1) default)) then
     (.inr false)
    else
     (.inl (v1 + 1)))
   else
    (.inr true))

set_option maxHeartbeats 4000000 in
theorem L27_L_L_0 (a0 : List (Int)) (a1 : List (Int)) (l0 : a0.length ≤ 9223372036854775807) (l1 : a1.length ≤ 9223372036854775807) {cx : Cx} (hcx : cx.base = 2) : ∀ (n : Nat) (v1 : Int), (0 ≤ v1) ∧ (a0.length = a1.length) → Int.toNat (((a0.length : Nat) : Int) - v1) < n → Aw.Good Try.prog none 9 (bodyPost Try.prog Try.f27 (RR cx (.v (.bool (loopF (S27_L_L_0 a0 a1) n v1))) [] [])) cx [] (.l B27_L_L_0 n :: K27_L_L_0) (st27_L_L_0 a0 a1 v1) := by
  intro n
  induction n with
  | zero => intro v1 hi hn; exact absurd hn (Nat.not_lt_zero _)
  | succ n ih =>
    intro v1 hi hn
    refine good_round ?_
    cases h0 : (decide ((v1 : Int) < ((a0.length : Nat) : Int))) with
    | true =>
     have q0 := of_decide_eq_true h0
     let t1 : List (St Try.prog) := [.d h0, .i v1 (a0.length), .L c3_len a0 v1 0 1, .i v1 (a1.length), .L c3_len a1 v1 0 1]
     cases h1 : (((a0.getD (Int.toNat v1) default) : Int) != (a1.getD (Int.toNat v1) default)) with
     | true =>
      have q1 := bne_iff_ne.1 h1
      have e := Eq.refl (S27_L_L_0 a0 a1 v1); conv at e => rhs; simp only [S27_L_L_0, h0, h1, cond_true, cond_false]
      rw [loopF_s, e]
      exact rt (t1 ++ [.d h1]) [] [] hcx (by kernel_rfl)
     | false =>
      have q1 := bne_eq_false_iff_eq.1 h1
      have e := Eq.refl (S27_L_L_0 a0 a1 v1); conv at e => rhs; simp only [S27_L_L_0, h0, h1, cond_true, cond_false]
      rw [loopF_inl e]
      refine ba (t1 ++ [.d h1]) [] [0, 1, 5] [] hcx (m := n) B27_L_L_0 (K27_L_L_0) (st27_L_L_0 a0 a1 (W (v1 + 1))) (by kernel_rfl) ?_
      have z0 : (W (v1 + 1)) = (v1 + 1) := W_eq (by omega) (by omega)
      rw [z0]
      exact ih (v1 + 1) (by refine ⟨?_, ?_⟩ <;> (try simp only [List.length_append, List.length_cons, List.length_nil, Int.toNat_zero]) <;> first | omega | assumption | simp) (by (try simp only [List.length_append, List.length_cons, List.length_nil, Int.toNat_zero]); omega)
    | false =>
     have q0 := of_decide_eq_false h0
     have e := Eq.refl (S27_L_L_0 a0 a1 v1); conv at e => rhs; simp only [S27_L_L_0, h0, cond_true, cond_false]
     rw [loopF_s, e]
     exact rt [.d h0] [] [] hcx (by kernel_rfl)

def F27_L_L (a0 : List (Int)) (a1 : List (Int)) : Bool :=
  (bif ((((a0.length : Nat) : Int) : Int) != ((a1.length : Nat) : Int)) then
   false
  else
   (loopF (S27_L_L_0 a0 a1) (Int.toNat (((a0.length : Nat) : Int) - 0) + 1) 0))

theorem C27_L_L (a0 : List (Int)) (a1 : List (Int)) (l0 : a0.length ≤ 9223372036854775807) (l1 : a1.length ≤ 9223372036854775807) : Con Try.prog 27 [(.s 0 0 a0.length 1), (.s 1 0 a1.length 1)] [(.live false true (flat c3 a0)), (.live false true (flat c3 a1))] (.v (.bool (F27_L_L a0 a1))) [] := by
  refine con_s Try.func27 (by kernel_rfl) fun cx hcx => ?_
  cases h0 : ((((a0.length : Nat) : Int) : Int) != ((a1.length : Nat) : Int)) with
  | true =>
   have q0 := bne_iff_ne.1 h0
   have e := Eq.refl (F27_L_L a0 a1); conv at e => rhs; simp only [F27_L_L, h0, cond_true, cond_false]
   rw [e]
   exact rt [.d h0] [] [] hcx (by kernel_rfl)
  | false =>
   have q0 := bne_eq_false_iff_eq.1 h0
   have e := Eq.refl (F27_L_L a0 a1); conv at e => rhs; simp only [F27_L_L, h0, cond_true, cond_false]
   rw [e]
   refine en [.d h0] [] [0, 1, 5] [] hcx B27_L_L_0 (K27_L_L_0) (st27_L_L_0 a0 a1 0) (Int.toNat (((a0.length : Nat) : Int) - 0) + 1) (by kernel_rfl) ?_
   exact L27_L_L_0 a0 a1 l0 l1 hcx (Int.toNat (((a0.length : Nat) : Int) - 0) + 1) 0 (by refine ⟨?_, ?_⟩ <;> (try simp only [List.length_append, List.length_cons, List.length_nil, Int.toNat_zero]) <;> first | omega | assumption | simp) (by (try simp only [List.length_append, List.length_cons, List.length_nil, Int.toNat_zero]); omega)

noncomputable def B13_0 : Code := (loopAtD [1, 1, 0, 1] [] (bodyOf Try.f13) []).1
noncomputable def K13_0 : List K := (loopAtD [1, 1, 0, 1] [] (bodyOf Try.f13) []).2

def st13_0 (a0 : List (Int) × TyN) (a1 : List (Int) × TyN) (v1 : Int) : LS := ⟨slN 39 [(2, (.p 4 0)), (3, (.p 5 0)), (5, (iv v1))], [(.live false true (flat c3 a0.1)), (.live false true (flat c40 a0.2)), (.live false true (flat c3 a1.1)), (.live false true (flat c40 a1.2)), (.live true false [(.s 0 0 a0.1.length 1), (.s 1 0 a0.2.length 8)]), (.live true false [(.s 2 0 a1.1.length 1), (.s 3 0 a1.2.length 8)])]⟩

def S13_0 (a0 : List (Int) × TyN) (a1 : List (Int) × TyN) : Int → (Int) ⊕ (Bool)
  | v1 =>
   (bif (decide ((v1 : Int) < ((a0.2.length : Nat) : Int))) then
    (bif (!((((a0.2.getD (Int.toNat v1) default).1 : Int) == (a1.2.getD (Int.toNat v1) default).1) && ((((a0.2.getD (Int.toNat v1) default).2.1 : Int) == (a1.2.getD (Int.toNat v1) default).2.1) && ((((a0.2.getD (Int.toNat v1) default).2.2.1 : Int) == (a1.2.getD (Int.toNat v1) default).2.2.1) && ((((a0.2.getD (Int.toNat v1) default).2.2.2.1 : Int) == (a1.2.getD (Int.toNat v1) default).2.2.2.1) && (((((a0.2.getD (Int.toNat v1) default).2.2.2.2.1.1 : Int) == (a1.2.getD (Int.toNat v1) default).2.2.2.2.1.1) && ((((a0.2.getD (Int.toNat v1) default).2.2.2.2.1.2.1 : Int) == (a1.2.getD (Int.toNat v1) default).2.2.2.2.1.2.1) && ((((a0.2.getD (Int.toNat v1) default).2.2.2.2.1.2.2 : Int) == (a1.2.getD (Int.toNat v1) default).2.2.2.2.1.2.2) && true))) && ((((a0.2.getD (Int.toNat v1) default).2.2.2.2.2 : Int) == (a1.2.getD (Int.toNat v1) default).2.2.2.2.2) && true))))))) then
     (.inr false)
    else
     (.inl (v1 + 1)))
   else
    (.inr true))

set_option maxHeartbeats 4000000 in
theorem L13_0 (a0 : List (Int) × TyN) (a1 : List (Int) × TyN) (l0_1 : a0.1.length ≤ 9223372036854775807) (l0_2 : a0.2.length ≤ 9223372036854775807) (l1_1 : a1.1.length ≤ 9223372036854775807) (l1_2 : a1.2.length ≤ 9223372036854775807) {cx : Cx} (hcx : cx.base = 4) : ∀ (n : Nat) (v1 : Int), (0 ≤ v1) ∧ (a0.2.length = a1.2.length) → Int.toNat (((a0.2.length : Nat) : Int) - v1) < n → Aw.Good Try.prog none 9 (bodyPost Try.prog Try.f13 (RR cx (.v (.bool (loopF (S13_0 a0 a1) n v1))) [] [])) cx [] (.l B13_0 n :: K13_0) (st13_0 a0 a1 v1) := by
  intro n
  induction n with
  | zero => intro v1 hi hn; exact absurd hn (Nat.not_lt_zero _)
  | succ n ih =>
    intro v1 hi hn
    refine good_round ?_
    cases h0 : (decide ((v1 : Int) < ((a0.2.length : Nat) : Int))) with
    | true =>
     have q0 := of_decide_eq_true h0
     let t1 : List (St Try.prog) := [.d h0, .i v1 (a0.2.length), .L c40_len a0.2 v1 0 8, .i v1 (a1.2.length), .L c40_len a1.2 v1 0 8]
     cases h1 : (!((((a0.2.getD (Int.toNat v1) default).1 : Int) == (a1.2.getD (Int.toNat v1) default).1) && ((((a0.2.getD (Int.toNat v1) default).2.1 : Int) == (a1.2.getD (Int.toNat v1) default).2.1) && ((((a0.2.getD (Int.toNat v1) default).2.2.1 : Int) == (a1.2.getD (Int.toNat v1) default).2.2.1) && ((((a0.2.getD (Int.toNat v1) default).2.2.2.1 : Int) == (a1.2.getD (Int.toNat v1) default).2.2.2.1) && (((((a0.2.getD (Int.toNat v1) default).2.2.2.2.1.1 : Int) == (a1.2.getD (Int.toNat v1) default).2.2.2.2.1.1) && ((((a0.2.getD (Int.toNat v1) default).2.2.2.2.1.2.1 : Int) == (a1.2.getD (Int.toNat v1) default).2.2.2.2.1.2.1) && ((((a0.2.getD (Int.toNat v1) default).2.2.2.2.1.2.2 : Int) == (a1.2.getD (Int.toNat v1) default).2.2.2.2.1.2.2) && true))) && ((((a0.2.getD (Int.toNat v1) default).2.2.2.2.2 : Int) == (a1.2.getD (Int.toNat v1) default).2.2.2.2.2) && true))))))) with
     | true =>
      have e := Eq.refl (S13_0 a0 a1 v1); conv at e => rhs; simp only [S13_0, h0, h1, cond_true, cond_false]
      rw [loopF_s, e]
      exact rt (t1 ++ [.d h1]) [] [] hcx (by kernel_rfl)
     | false =>
      have e := Eq.refl (S13_0 a0 a1 v1); conv at e => rhs; simp only [S13_0, h0, h1, cond_true, cond_false]
      rw [loopF_inl e]
      refine ba (t1 ++ [.d h1]) [] [2, 3, 5] [4, 5] hcx (m := n) B13_0 (K13_0) (st13_0 a0 a1 (W (v1 + 1))) (by kernel_rfl) ?_
      have z0 : (W (v1 + 1)) = (v1 + 1) := W_eq (by omega) (by omega)
      rw [z0]
      exact ih (v1 + 1) (by refine ⟨?_, ?_⟩ <;> (try simp only [List.length_append, List.length_cons, List.length_nil, Int.toNat_zero]) <;> first | omega | assumption | simp) (by (try simp only [List.length_append, List.length_cons, List.length_nil, Int.toNat_zero]); omega)
    | false =>
     have q0 := of_decide_eq_false h0
     have e := Eq.refl (S13_0 a0 a1 v1); conv at e => rhs; simp only [S13_0, h0, cond_true, cond_false]
     rw [loopF_s, e]
     exact rt [.d h0] [] [] hcx (by kernel_rfl)

def F13 (a0 : List (Int) × TyN) (a1 : List (Int) × TyN) : Bool :=
  (bif (!(F27_L_L a0.1 a1.1)) then
   false
  else
   (bif ((((a0.2.length : Nat) : Int) : Int) != ((a1.2.length : Nat) : Int)) then
    false
   else
    (loopF (S13_0 a0 a1) (Int.toNat (((a0.2.length : Nat) : Int) - 0) + 1) 0)))

theorem C13 (a0 : List (Int) × TyN) (a1 : List (Int) × TyN) (l0_1 : a0.1.length ≤ 9223372036854775807) (l0_2 : a0.2.length ≤ 9223372036854775807) (l1_1 : a1.1.length ≤ 9223372036854775807) (l1_2 : a1.2.length ≤ 9223372036854775807) : Con Try.prog 13 [(.a [(.s 0 0 a0.1.length 1), (.s 1 0 a0.2.length 8)]), (.a [(.s 2 0 a1.1.length 1), (.s 3 0 a1.2.length 8)])] [(.live false true (flat c3 a0.1)), (.live false true (flat c40 a0.2)), (.live false true (flat c3 a1.1)), (.live false true (flat c40 a1.2))] (.v (.bool (F13 a0 a1))) [] := by
  refine con_s Try.func13 (by kernel_rfl) fun cx hcx => ?_
  let t0 : List (St Try.prog) := [.c [0, 2] (C27_L_L a0.1 a1.1 (by (try simp only [List.length_append, List.length_cons, List.length_nil, Int.toNat_zero, List.length_set]); omega) (by (try simp only [List.length_append, List.length_cons, List.length_nil, Int.toNat_zero, List.length_set]); omega))]
  cases h0 : (!(F27_L_L a0.1 a1.1)) with
  | true =>
   have e := Eq.refl (F13 a0 a1); conv at e => rhs; simp only [F13, h0, cond_true, cond_false]
   rw [e]
   exact rt (t0 ++ [.d h0]) [] [] hcx (by kernel_rfl)
  | false =>
   let t1 : List (St Try.prog) := (t0 ++ [.d h0])
   cases h1 : ((((a0.2.length : Nat) : Int) : Int) != ((a1.2.length : Nat) : Int)) with
   | true =>
    have q1 := bne_iff_ne.1 h1
    have e := Eq.refl (F13 a0 a1); conv at e => rhs; simp only [F13, h0, h1, cond_true, cond_false]
    rw [e]
    exact rt (t1 ++ [.d h1]) [] [] hcx (by kernel_rfl)
   | false =>
    have q1 := bne_eq_false_iff_eq.1 h1
    have e := Eq.refl (F13 a0 a1); conv at e => rhs; simp only [F13, h0, h1, cond_true, cond_false]
    rw [e]
    refine en (t1 ++ [.d h1]) [] [2, 3, 5] [4, 5] hcx B13_0 (K13_0) (st13_0 a0 a1 0) (Int.toNat (((a0.2.length : Nat) : Int) - 0) + 1) (by kernel_rfl) ?_
    exact L13_0 a0 a1 l0_1 l0_2 l1_1 l1_2 hcx (Int.toNat (((a0.2.length : Nat) : Int) - 0) + 1) 0 (by refine ⟨?_, ?_⟩ <;> (try simp only [List.length_append, List.length_cons, List.length_nil, Int.toNat_zero]) <;> first | omega | assumption | simp) (by (try simp only [List.length_append, List.length_cons, List.length_nil, Int.toNat_zero]); omega)

end Go.Proofs.Ytnbpiejjeeomkaa

namespace Go.Proofs.Ytnbpiejjeeomkaa
open Go.Proofs Go.Aw Go.RowKit
set_option maxRecDepth 100000
set_option linter.unusedVariables false
set_option linter.unusedSimpArgs false

/-! ### The nodes' numbers: program and document -/
def VCH (l : LCH) : Prop := l.length ≤ 96 ∧ ∀ i, i < l.length → vp (l.getD i default).1 = 0 ∧ (-100 ≤ (l.getD i default).2 ∧ (l.getD i default).2 ≤ 100)
theorem vch_loop {l : LCH} : ∀ (d i n : Nat), d = l.length - i → i ≤ l.length → d < n → loopF (S32_L_0 l) n (i : Int) = 0 → ∀ j, i ≤ j → j < l.length → vp (l.getD j default).1 = 0 ∧ (-100 ≤ (l.getD j default).2 ∧ (l.getD j default).2 ≤ 100)
  | 0, i, n, hd, hi, hn, _, j, h1, h2 => absurd h2 (by omega)
  | d + 1, i, n, hd, hi, hn, h, j, h1, h2 => by
    obtain ⟨n, rfl⟩ : ∃ m, n = m + 1 := ⟨n - 1, by omega⟩
    have e : S32_L_0 l (i : Int) = bif (((F55 (l.getD i default).1) : Int) != 0) then .inr (F55 (l.getD i default).1) else bif (!(F56 (l.getD i default).2 (-100) 100)) then .inr 1 else .inl ((i + 1 : Nat) : Int) := by
      simp only [S32_L_0, Int.toNat_natCast]
      rw [decide_eq_true (show ((i : Nat) : Int) < ((l.length : Nat) : Int) by omega), cond_true]; rfl
    cases hv : (((F55 (l.getD i default).1) : Int) != 0) with
    | true =>
      rw [hv, cond_true] at e
      rw [loopF_inr e] at h
      rw [h] at hv; exact absurd hv (by decide)
    | false =>
      rw [hv, cond_false] at e
      cases hw : (!(F56 (l.getD i default).2 (-100) 100)) with
      | true =>
        rw [hw, cond_true] at e
        rw [loopF_inr e] at h
        exact absurd h (by decide)
      | false =>
        rw [hw, cond_false] at e
        rw [loopF_inl e] at h
        by_cases hj : j = i
        · subst hj
          refine ⟨?_, ?_⟩
          · rw [← vp_s]; exact bne_eq_false_iff_eq.1 hv
          · simp only [F56, Bool.not_eq_false'] at hw
            by_cases h3 : (l.getD j default).2 ≥ -100
            · rw [decide_eq_true h3, cond_true] at hw; exact ⟨h3, of_decide_eq_true hw⟩
            · rw [decide_eq_false h3, cond_false] at hw; cases hw
        · exact vch_loop d (i + 1) n (by omega) (by omega) (by omega) h j (by omega) h2
theorem vch_ok {l : LCH} (h : F32_L l = 0) : VCH l := by
  refine ⟨vch_len h, fun i hi => ?_⟩
  have hl := vch_len h
  unfold F32_L at h
  rw [decide_eq_false (show ¬ ((l.length : Nat) : Int) > 96 by omega), cond_false] at h
  exact vch_loop l.length 0 _ (by omega) (by omega) (by omega) h i (Nat.zero_le _) hi
theorem vch_bd {l : LCH} (h : VCH l) {i : Nat} (hi : i < l.length) : bdP 64 (l.getD i default).1 := (vp_ok (h.2 i hi).1).1
section
variable {l : LCH} {ns : List Int}
theorem mem_getD {i : Nat} (hi : i < ns.length) : (F72_L_L l ns).getD i default = l.getD (Int.toNat (ns.getD i default)) default := by
  rw [mem_eq]; simp [List.getD_eq_getElem?_getD, hi]
theorem cen_loop (hl : ns.length ≤ 1048576) : ∀ (n i : Nat) (a1 a2 a3 b1 b2 b3 : Int), ns.length - i < n →
    loopF (S73_L_0 (F72_L_L l ns)) n ((i : Int), a1, a2, a3, b1, b2, b3) =
      (loopF (S80_L_L_0 l ns 0) n (a1, b1, (i : Int)), loopF (S80_L_L_0 l ns 1) n (a2, b2, (i : Int)), loopF (S80_L_L_0 l ns 2) n (a3, b3, (i : Int)))
  | 0, _, _, _, _, _, _, _, h => absurd h (Nat.not_lt_zero _)
  | n + 1, i, a1, a2, a3, b1, b2, b3, h => by
    have hm : (F72_L_L l ns).length = ns.length := mem_len l ns
    by_cases h1 : i < ns.length
    · have hg := mem_getD (l := l) h1
      have e : S73_L_0 (F72_L_L l ns) ((i : Int), a1, a2, a3, b1, b2, b3) = .inl (((i + 1 : Nat) : Int), imn (imn (imn a1 (l.getD (Int.toNat (ns.getD i default)) default).1.1.1) (l.getD (Int.toNat (ns.getD i default)) default).1.2.1.1) (l.getD (Int.toNat (ns.getD i default)) default).1.2.2.1, imn (imn (imn a2 (l.getD (Int.toNat (ns.getD i default)) default).1.1.2.1) (l.getD (Int.toNat (ns.getD i default)) default).1.2.1.2.1) (l.getD (Int.toNat (ns.getD i default)) default).1.2.2.2.1, imn (imn (imn a3 (l.getD (Int.toNat (ns.getD i default)) default).1.1.2.2) (l.getD (Int.toNat (ns.getD i default)) default).1.2.1.2.2) (l.getD (Int.toNat (ns.getD i default)) default).1.2.2.2.2,
          imx (imx (imx b1 (l.getD (Int.toNat (ns.getD i default)) default).1.1.1) (l.getD (Int.toNat (ns.getD i default)) default).1.2.1.1) (l.getD (Int.toNat (ns.getD i default)) default).1.2.2.1, imx (imx (imx b2 (l.getD (Int.toNat (ns.getD i default)) default).1.1.2.1) (l.getD (Int.toNat (ns.getD i default)) default).1.2.1.2.1) (l.getD (Int.toNat (ns.getD i default)) default).1.2.2.2.1, imx (imx (imx b3 (l.getD (Int.toNat (ns.getD i default)) default).1.1.2.2) (l.getD (Int.toNat (ns.getD i default)) default).1.2.1.2.2) (l.getD (Int.toNat (ns.getD i default)) default).1.2.2.2.2) := by
        simp only [S73_L_0, Int.toNat_natCast, hg, hm]
        rw [decide_eq_true (by omega), cond_true]; rfl
      have r : ∀ k a b, S80_L_L_0 l ns k (a, b, (i : Int)) = .inl (imn (imn (imn a (F101 (l.getD (Int.toNat (ns.getD i default)) default).1.1 k)) (F101 (l.getD (Int.toNat (ns.getD i default)) default).1.2.1 k)) (F101 (l.getD (Int.toNat (ns.getD i default)) default).1.2.2 k),
          imx (imx (imx b (F101 (l.getD (Int.toNat (ns.getD i default)) default).1.1 k)) (F101 (l.getD (Int.toNat (ns.getD i default)) default).1.2.1 k)) (F101 (l.getD (Int.toNat (ns.getD i default)) default).1.2.2 k), ((i + 1 : Nat) : Int)) := fun k a b => by
        simp only [S80_L_L_0, Int.toNat_natCast]
        rw [decide_eq_true (by omega), cond_true]; rfl
      rw [loopF_inl e, loopF_inl (r 0 a1 b1), loopF_inl (r 1 a2 b2), loopF_inl (r 2 a3 b3)]
      exact cen_loop hl n (i + 1) _ _ _ _ _ _ (by omega)
    · have e : S73_L_0 (F72_L_L l ns) ((i : Int), a1, a2, a3, b1, b2, b3) = .inr (F102 a1 b1, F102 a2 b2, F102 a3 b3) := by
        simp only [S73_L_0, hm]
        rw [decide_eq_false (by omega), cond_false]; rfl
      have r : ∀ k a b, S80_L_L_0 l ns k (a, b, (i : Int)) = .inr (F102 a b) := fun k a b => by
        simp only [S80_L_L_0]
        rw [decide_eq_false (by omega), cond_false]
      rw [loopF_inr e, loopF_inr (r 0 a1 b1), loopF_inr (r 1 a2 b2), loopF_inr (r 2 a3 b3)]
theorem cen_eq (hv : VCH l) (hi : InR l.length ns) (h1 : 1 ≤ ns.length) (hl : ns.length ≤ 1048576) : F73_L (F72_L_L l ns) = (F80_L_L l ns 0, F80_L_L l ns 1, F80_L_L l ns 2) := by
  have hm : (F72_L_L l ns).length = ns.length := mem_len l ns
  have hg := mem_getD (l := l) (ns := ns) (i := 0) (by omega)
  have h0 := hi.at (i := 0) (by omega)
  have hb := vch_bd hv (i := Int.toNat (ns.getD 0 default)) (by omega)
  unfold F73_L F80_L_L
  rw [hm, show (Int.toNat 0) = 0 from rfl, hg]
  obtain ⟨n, hn⟩ : ∃ n, Int.toNat (((ns.length : Nat) : Int) - 0) + 1 = n + 1 := ⟨_, rfl⟩
  rw [hn]
  have hnn : ns.length ≤ n := by omega
  generalize hp : l.getD (Int.toNat (ns.getD 0 default)) default = p at hb hg ⊢
  -- the first round
  have e : S73_L_0 (F72_L_L l ns) (0, p.1.1.1, p.1.1.2.1, p.1.1.2.2, p.1.1.1, p.1.1.2.1, p.1.1.2.2) = .inl (((1 : Nat) : Int), imn (imn (imn p.1.1.1 p.1.1.1) p.1.2.1.1) p.1.2.2.1, imn (imn (imn p.1.1.2.1 p.1.1.2.1) p.1.2.1.2.1) p.1.2.2.2.1, imn (imn (imn p.1.1.2.2 p.1.1.2.2) p.1.2.1.2.2) p.1.2.2.2.2,
      imx (imx (imx p.1.1.1 p.1.1.1) p.1.2.1.1) p.1.2.2.1, imx (imx (imx p.1.1.2.1 p.1.1.2.1) p.1.2.1.2.1) p.1.2.2.2.1, imx (imx (imx p.1.1.2.2 p.1.1.2.2) p.1.2.1.2.2) p.1.2.2.2.2) := by
    simp only [S73_L_0, show (Int.toNat 0) = 0 from rfl, hg, hm]
    rw [decide_eq_true (by omega), cond_true]; rfl
  have r : ∀ k, S80_L_L_0 l ns k (64, (-64), 0) = .inl (imn (imn (imn 64 (F101 p.1.1 k)) (F101 p.1.2.1 k)) (F101 p.1.2.2 k),
      imx (imx (imx (-64) (F101 p.1.1 k)) (F101 p.1.2.1 k)) (F101 p.1.2.2 k), ((1 : Nat) : Int)) := fun k => by
    simp only [S80_L_L_0, show (Int.toNat 0) = 0 from rfl, hp]
    rw [decide_eq_true (by omega), cond_true]; rfl
  have m1 : ∀ x y z : Int, (-64 ≤ x ∧ x ≤ 64) → imn (imn (imn 64 x) y) z = imn (imn (imn x x) y) z := fun x y z hx => by
    congr 2; unfold imn; split <;> split <;> omega
  have m2 : ∀ x y z : Int, (-64 ≤ x ∧ x ≤ 64) → imx (imx (imx (-64) x) y) z = imx (imx (imx x x) y) z := fun x y z hx => by
    congr 2; unfold imx; split <;> split <;> omega
  obtain ⟨⟨hx, hy, hz⟩, _⟩ := hb
  rw [loopF_inl e, loopF_inl (r 0), loopF_inl (r 1), loopF_inl (r 2), cen_loop hl n 1 _ _ _ _ _ _ (by omega)]
  rw [m1 _ _ _ (show -64 ≤ F101 p.1.1 0 ∧ F101 p.1.1 0 ≤ 64 from hx), m2 _ _ _ (show -64 ≤ F101 p.1.1 0 ∧ F101 p.1.1 0 ≤ 64 from hx),
    m1 _ _ _ (show -64 ≤ F101 p.1.1 1 ∧ F101 p.1.1 1 ≤ 64 from hy), m2 _ _ _ (show -64 ≤ F101 p.1.1 1 ∧ F101 p.1.1 1 ≤ 64 from hy),
    m1 _ _ _ (show -64 ≤ F101 p.1.1 2 ∧ F101 p.1.1 2 ≤ 64 from hz), m2 _ _ _ (show -64 ≤ F101 p.1.1 2 ∧ F101 p.1.1 2 ≤ 64 from hz)]
  rfl
theorem cen_rng (hv : VCH l) (hi : InR l.length ns) (k : Int) : ∀ (n i : Nat) (a b : Int), ns.length - i < n → (-64 ≤ a ∧ a ≤ 64) → (-64 ≤ b ∧ b ≤ 64) → -64 ≤ loopF (S80_L_L_0 l ns k) n (a, b, (i : Int)) ∧ loopF (S80_L_L_0 l ns k) n (a, b, (i : Int)) ≤ 64
  | 0, _, _, _, h, _, _ => absurd h (Nat.not_lt_zero _)
  | n + 1, i, a, b, h, ha, hb => by
    by_cases h1 : i < ns.length
    · have h0 := hi.at h1
      have hp := vch_bd hv (i := Int.toNat (ns.getD i default)) (by omega)
      have r : S80_L_L_0 l ns k (a, b, (i : Int)) = .inl (imn (imn (imn a (F101 (l.getD (Int.toNat (ns.getD i default)) default).1.1 k)) (F101 (l.getD (Int.toNat (ns.getD i default)) default).1.2.1 k)) (F101 (l.getD (Int.toNat (ns.getD i default)) default).1.2.2 k),
          imx (imx (imx b (F101 (l.getD (Int.toNat (ns.getD i default)) default).1.1 k)) (F101 (l.getD (Int.toNat (ns.getD i default)) default).1.2.1 k)) (F101 (l.getD (Int.toNat (ns.getD i default)) default).1.2.2 k), ((i + 1 : Nat) : Int)) := by
        simp only [S80_L_L_0, Int.toNat_natCast]
        rw [decide_eq_true (by omega), cond_true]; rfl
      rw [loopF_inl r]
      have ax : ∀ p : Int × Int × Int, bd 64 p → -64 ≤ F101 p k ∧ F101 p k ≤ 64 := fun p hp => by
        unfold F101
        rw [Bool.cond_eq_ite]
        split
        · exact hp.1
        · rw [Bool.cond_eq_ite]
          split
          · exact hp.2.1
          · exact hp.2.2
      have qa1 := ax _ hp.1; have qa2 := ax _ hp.2.1; have qa3 := ax _ hp.2.2
      have mn : ∀ x y : Int, (-64 ≤ x ∧ x ≤ 64) → (-64 ≤ y ∧ y ≤ 64) → -64 ≤ imn x y ∧ imn x y ≤ 64 := fun x y hx hy => by unfold imn; split <;> assumption
      have mx : ∀ x y : Int, (-64 ≤ x ∧ x ≤ 64) → (-64 ≤ y ∧ y ≤ 64) → -64 ≤ imx x y ∧ imx x y ≤ 64 := fun x y hx hy => by unfold imx; split <;> assumption
      exact cen_rng hv hi k n (i + 1) _ _ (by omega) (mn _ _ (mn _ _ (mn _ _ ha qa1) qa2) qa3) (mx _ _ (mx _ _ (mx _ _ hb qa1) qa2) qa3)
    · have r : S80_L_L_0 l ns k (a, b, (i : Int)) = .inr (F102 a b) := by
        simp only [S80_L_L_0]
        rw [decide_eq_false (by omega), cond_false]
      rw [loopF_inr r]
      unfold F102
      rw [W_eq (by omega) (by omega), show (2 : Int) ^ (min (Int.toNat 1) 64) = 2 from by decide, Int.fdiv_eq_ediv_of_nonneg _ (by decide)]
      omega
theorem cen_bd (hv : VCH l) (hi : InR l.length ns) (k : Int) : -64 ≤ F80_L_L l ns k ∧ F80_L_L l ns k ≤ 64 :=
  cen_rng hv hi k _ 0 64 (-64) (by omega) (by omega) (by omega)
theorem rad_eq (m : LCH) {c : Int × Int × Int} (hc : bd 64 c) : F74_L m c = F81_L m c := by
  obtain ⟨h1, h2, h3⟩ := hc
  have hW : W (0 - 64) = -64 := by decide
  have e1 : F106 c 64 = true := by
    unfold F106 F118
    rw [hW, decide_eq_true h1.1, decide_eq_true h1.2, decide_eq_true h2.1, decide_eq_true h2.2, decide_eq_true h3.1, decide_eq_true h3.2]; rfl
  have sz : ∀ x : Int, (-64 ≤ x ∧ x ≤ 64) → F63 x ≤ 64 := fun x hx => by
    unfold F63
    rw [W_eq (n := 0 - x) (by omega) (by omega)]
    split <;> omega
  have e2 : F44 c 64 = true := by
    unfold F44
    rw [hW, decide_eq_true (sz _ h1), decide_eq_true (sz _ h2), decide_eq_true (sz _ h3), decide_eq_true (show c.1 ≥ -64 from h1.1), decide_eq_true (show c.2.1 ≥ -64 from h2.1), decide_eq_true (show c.2.2 ≥ -64 from h3.1)]; rfl
  have e3 : F90_L m c = F103_L m c := by
    unfold F90_L F103_L
    rw [vch_eq, e1, e2]
  have e4 : S74_L_0 m c = S81_L_0 m c := by
    funext ⟨v1, v2⟩
    rfl
  unfold F74_L F81_L
  rw [e3, e4]
def inrB (b : BU) : (Int × Int × Int) ⊕ Int → (Int × Int × Int) ⊕ (BU × Int)
  | .inl s => .inl s
  | .inr x => .inr (b, x)
theorem wid1_eq {b : BU} (hb : b.1 = l) {k : Int} : ∀ (n i : Nat) (v15 v16 lo hi : Int), ns.length - i < n →
    loopF (S76_L_1 b ns) n (v15, v16, k, lo, hi, k, (i : Int)) = inrB b (loopF (S84_L_L_1 l ns) n (v15, v16, k, lo, hi, (i : Int)))
  | 0, _, _, _, _, _, h => absurd h (Nat.not_lt_zero _)
  | n + 1, i, v15, v16, lo, hi, h => by
    have hk : ∀ x : Int, F95 (b.1, b.2.1, (b.2.2.1, b.2.2.2)) x k = F104 (l.getD (Int.toNat x) default) k := fun x => by
      rw [key_eq, ← hb]; rfl
    by_cases h1 : i < ns.length
    · have e : S76_L_1 b ns (v15, v16, k, lo, hi, k, (i : Int)) = .inl (v15, v16, k, imn lo (F104 (l.getD (Int.toNat (ns.getD i default)) default) k), imx hi (F104 (l.getD (Int.toNat (ns.getD i default)) default) k), k, ((i + 1 : Nat) : Int)) := by
        simp only [S76_L_1, hk, Int.toNat_natCast]
        rw [decide_eq_true (by omega), cond_true]; rfl
      have r : S84_L_L_1 l ns (v15, v16, k, lo, hi, (i : Int)) = .inl (v15, v16, k, imn lo (F104 (l.getD (Int.toNat (ns.getD i default)) default) k), imx hi (F104 (l.getD (Int.toNat (ns.getD i default)) default) k), ((i + 1 : Nat) : Int)) := by
        simp only [S84_L_L_1, Int.toNat_natCast]
        rw [decide_eq_true (by omega), cond_true]; rfl
      rw [loopF_inl e, loopF_inl r]
      exact wid1_eq hb n (i + 1) _ _ _ _ (by omega)
    · have e : S76_L_1 b ns (v15, v16, k, lo, hi, k, (i : Int)) = .inr (inrB b (bif (decide (((W (hi - lo)) : Int) > v16)) then .inl (k, (W (hi - lo)), k + 1) else .inl (v15, v16, k + 1))) := by
        simp only [S76_L_1]
        rw [decide_eq_false (by omega), cond_false]
        cases decide (((W (hi - lo)) : Int) > v16) <;> rfl
      have r : S84_L_L_1 l ns (v15, v16, k, lo, hi, (i : Int)) = .inr (bif (decide (((W (hi - lo)) : Int) > v16)) then .inl (k, (W (hi - lo)), k + 1) else .inl (v15, v16, k + 1)) := by
        simp only [S84_L_L_1]
        rw [decide_eq_false (by omega), cond_false]
        cases decide (((W (hi - lo)) : Int) > v16) <;> rfl
      rw [loopF_inr e, loopF_inr r]
theorem wid0_eq {b : BU} (hb : b.1 = l) (h1 : 1 ≤ ns.length) : ∀ (n : Nat) (v12 v13 k : Int), Int.toNat (3 - k) < n →
    loopF (S76_L_0 b ns) n (v12, v13, k) = (b, loopF (S84_L_L_0 l ns) n (v12, v13, k))
  | 0, _, _, _, h => absurd h (Nat.not_lt_zero _)
  | n + 1, v12, v13, k, h => by
    have hk : ∀ x : Int, F95 (b.1, b.2.1, (b.2.2.1, b.2.2.2)) x k = F104 (l.getD (Int.toNat x) default) k := fun x => by
      rw [key_eq, ← hb]; rfl
    by_cases h3 : k < 3
    · generalize hK : F104 (l.getD (Int.toNat (ns.getD (Int.toNat 0) default)) default) k = K
      have e0 : S76_L_0 b ns (v12, v13, k) = loopF (S76_L_1 b ns) (Int.toNat (((ns.length : Nat) : Int) - 0) + 1) (v12, v13, k, K, K, k, ((0 : Nat) : Int)) := by
        simp only [S76_L_0, hk, hK]
        rw [decide_eq_true h3, cond_true]; rfl
      have r0 : S84_L_L_0 l ns (v12, v13, k) = loopF (S84_L_L_1 l ns) (Int.toNat (((ns.length : Nat) : Int) - 1) + 1) (v12, v13, k, K, K, ((1 : Nat) : Int)) := by
        simp only [S84_L_L_0, hK]
        rw [decide_eq_true h3, cond_true]; rfl
      have f0 : Int.toNat (((ns.length : Nat) : Int) - 0) + 1 = (Int.toNat (((ns.length : Nat) : Int) - 1) + 1) + 1 := by omega
      have e1 : S76_L_1 b ns (v12, v13, k, K, K, k, ((0 : Nat) : Int)) = .inl (v12, v13, k, K, K, k, ((1 : Nat) : Int)) := by
        simp only [S76_L_1, hk, Int.toNat_natCast]
        rw [show (Int.toNat 0) = 0 from rfl] at hK
        rw [decide_eq_true (by omega), cond_true, hK, if_neg (by omega)]; rfl
      rw [f0, loopF_inl e1, wid1_eq hb _ 1 _ _ _ _ (by omega), ← r0] at e0
      -- what a round brings
      have hr : ∃ x y, S84_L_L_0 l ns (v12, v13, k) = .inl (x, y, k + 1) := by
        rw [r0]
        have gen : ∀ (m i : Nat) (lo hi : Int), ns.length - i < m → ∃ x y, loopF (S84_L_L_1 l ns) m (v12, v13, k, lo, hi, (i : Int)) = .inl (x, y, k + 1) := by
          intro m
          induction m with
          | zero => intro _ _ _ h; exact absurd h (Nat.not_lt_zero _)
          | succ m ih =>
            intro i lo hi hm
            by_cases hi1 : i < ns.length
            · have r : S84_L_L_1 l ns (v12, v13, k, lo, hi, (i : Int)) = .inl (v12, v13, k, imn lo (F104 (l.getD (Int.toNat (ns.getD i default)) default) k), imx hi (F104 (l.getD (Int.toNat (ns.getD i default)) default) k), ((i + 1 : Nat) : Int)) := by
                simp only [S84_L_L_1, Int.toNat_natCast]
                rw [decide_eq_true (by omega), cond_true]; rfl
              rw [loopF_inl r]
              exact ih (i + 1) _ _ (by omega)
            · have r : S84_L_L_1 l ns (v12, v13, k, lo, hi, (i : Int)) = .inr (bif (decide (((W (hi - lo)) : Int) > v13)) then .inl (k, (W (hi - lo)), k + 1) else .inl (v12, v13, k + 1)) := by
                simp only [S84_L_L_1]
                rw [decide_eq_false (by omega), cond_false]
                cases decide (((W (hi - lo)) : Int) > v13) <;> rfl
              rw [loopF_inr r]
              cases decide (((W (hi - lo)) : Int) > v13)
              · exact ⟨_, _, rfl⟩
              · exact ⟨_, _, rfl⟩
        exact gen _ 1 K K (by omega)
      obtain ⟨x, y, hr⟩ := hr
      rw [hr] at e0
      rw [loopF_inl (show _ = Sum.inl (x, y, k + 1) from e0), loopF_inl hr]
      exact wid0_eq hb h1 n _ _ (k + 1) (by omega)
    · have e : S76_L_0 b ns (v12, v13, k) = .inr (b, v12) := by
        simp only [S76_L_0]
        rw [decide_eq_false h3, cond_false]
      have r : S84_L_L_0 l ns (v12, v13, k) = .inr v12 := by
        simp only [S84_L_L_0]
        rw [decide_eq_false h3, cond_false]
      rw [loopF_inr e, loopF_inr r]
theorem wid_eq {b : BU} (hb : b.1 = l) (h1 : 1 ≤ ns.length) : F76_L b ns = (b, F84_L_L l ns) :=
  wid0_eq hb h1 _ _ _ _ (by omega)
end

end Go.Proofs.Ytnbpiejjeeomkaa

namespace Go.Proofs.Ytnbpiejjeeomkaa
open Go.Proofs Go.Aw Go.RowKit
set_option maxRecDepth 100000
set_option linter.unusedVariables false
set_option linter.unusedSimpArgs false

/-! ### The tree in plain words -/
abbrev NDE := Int × Int × Int × Int × (Int × Int × Int) × Int
def cenR (l : LCH) (ns : List Int) : Int × Int × Int := (F80_L_L l ns 0, F80_L_L l ns 1, F80_L_L l ns 2)
def ndR (l : LCH) (ns : List Int) (fr lt rt : Int) : NDE := (fr, fr + ns.length, lt, rt, cenR l ns, (F81_L (F82_L_L l ns) (cenR l ns)).1)
def GT (l : LCH) (leaf : Int) : Nat → List Int → Int → Int → List Int × List NDE
  | 0, _, _, _ => ([], [])
  | n + 1, ns, fr, at_ =>
    if (ns.length : Int) ≤ leaf then (ns, [ndR l ns fr (-1) (-1)]) else
      let s := srt l (F84_L_L l ns) ns
      let h := (ns.length + 1) / 2
      let a := GT l leaf n (s.take h) fr (at_ + 1)
      let b := GT l leaf n (s.drop h) (fr + h) (at_ + 1 + a.2.length)
      (a.1 ++ b.1, ndR l ns fr (at_ + 1) (at_ + 1 + a.2.length) :: (a.2 ++ b.2))
theorem GT_leaf {l : LCH} {leaf : Int} {n : Nat} {ns : List Int} {fr a : Int} (h : (ns.length : Int) ≤ leaf) : GT l leaf (n + 1) ns fr a = (ns, [ndR l ns fr (-1) (-1)]) := by
  rw [GT, if_pos h]
theorem GT_node {l : LCH} {leaf : Int} {n : Nat} {ns : List Int} {fr a : Int} (h : ¬ (ns.length : Int) ≤ leaf) : GT l leaf (n + 1) ns fr a =
    ((GT l leaf n ((srt l (F84_L_L l ns) ns).take ((ns.length + 1) / 2)) fr (a + 1)).1 ++ (GT l leaf n ((srt l (F84_L_L l ns) ns).drop ((ns.length + 1) / 2)) (fr + ((ns.length + 1) / 2 : Nat)) (a + 1 + (GT l leaf n ((srt l (F84_L_L l ns) ns).take ((ns.length + 1) / 2)) fr (a + 1)).2.length)).1,
      ndR l ns fr (a + 1) (a + 1 + (GT l leaf n ((srt l (F84_L_L l ns) ns).take ((ns.length + 1) / 2)) fr (a + 1)).2.length) :: ((GT l leaf n ((srt l (F84_L_L l ns) ns).take ((ns.length + 1) / 2)) fr (a + 1)).2 ++ (GT l leaf n ((srt l (F84_L_L l ns) ns).drop ((ns.length + 1) / 2)) (fr + ((ns.length + 1) / 2 : Nat)) (a + 1 + (GT l leaf n ((srt l (F84_L_L l ns) ns).take ((ns.length + 1) / 2)) fr (a + 1)).2.length)).2)) := by
  rw [GT, if_neg h]
theorem set_md {α : Type} (pre post : List α) (x y : α) : (pre ++ x :: post).set pre.length y = pre ++ y :: post := by
  rw [List.set_append_right _ _ (Nat.le_refl _), Nat.sub_self]; rfl
theorem getD_md {α : Type} [Inhabited α] (pre post : List α) (x : α) : (pre ++ x :: post).getD pre.length default = x := by
  rw [List.getD_eq_getElem?_getD, List.getElem?_append_right (Nat.le_refl _), Nat.sub_self]; rfl
theorem part0 {s : List Int} {h : Nat} : Aw.part s 0 (h : Int) = s.take h := by unfold Aw.part; simp
theorem part1 {s : List Int} {h : Nat} : Aw.part s (h : Int) ((s.length : Nat) : Int) = s.drop h := by
  unfold Aw.part
  rw [Int.toNat_natCast, Int.toNat_natCast]
  exact List.take_of_length_le (by rw [List.length_drop]; exact Nat.le_refl _)
theorem grow_GT : ∀ (nr : Nat) (l : LCH) (t : TR) (ns : List Int) (leaf : Int), PGRW l t ns leaf → ns.length < nr →
    R60_L_z00_L nr l t ns leaf = (t.1 ++ (GT l leaf nr ns t.1.length t.2.length).1, t.2 ++ (GT l leaf nr ns t.1.length t.2.length).2)
  | 0, _, _, _, _, _, h => absurd h (Nat.not_lt_zero _)
  | nr + 1, l, t, ns, leaf, hp, hn => by
    have h := hp.rng; have hl := hp.lf; have hnd := hp.nds
    simp only [R60_L_z00_L]
    have hW : W (((t.1.length : Nat) : Int) + ((ns.length : Nat) : Int)) = (t.1.length : Int) + ns.length := W_eq (by omega) (by omega)
    by_cases h0 : ((ns.length : Nat) : Int) ≤ leaf
    · rw [decide_eq_true h0, cond_true, GT_leaf h0, hW]
      rfl
    · rw [decide_eq_false h0, cond_false, GT_node h0]
      have g2 : 2 ≤ ns.length := by omega
      have hs := grw_s hp (F84_L_L l ns)
      have hf := hf_eq (n := ns.length) (by omega)
      have hso := rso_eq (l := l) (k := F84_L_L l ns) (ns := ns) (by omega)
      have hsl := srt_len l (F84_L_L l ns) ns
      have hpt1 := part_len (l := F83_L_L l ns (F84_L_L l ns)) (a := 0) (b := (((ns.length + 1) / 2 : Nat) : Int)) (by omega)
      have hpt2 := part_len (l := F83_L_L l ns (F84_L_L l ns)) (a := (((ns.length + 1) / 2 : Nat) : Int)) (b := ((ns.length : Nat) : Int)) (by omega)
      have h5 : GRR _ (A60_L_z00_L_2 (R60_L_z00_L nr) l t ns leaf) _ := grw_inv nr _ _ _ _ (pgrw1 hp _ g2) (by rw [hs.1, hf, hpt1]; omega)
      have h5o := h5.ol
      rw [hs.1, hf, hpt1] at h5o
      dsimp only at h5o
      have e2 : A60_L_z00_L_2 (R60_L_z00_L nr) l t ns leaf = _ := grow_GT nr _ _ _ _ (pgrw1 hp _ g2) (by rw [hs.1, hf, hpt1]; omega)
      have e3 : A60_L_z00_L_3 (R60_L_z00_L nr) l t ns leaf = _ := grow_GT nr _ _ _ _ (pgrw2 hp _ g2 h5) (by rw [hs.1, hf, hpt2]; omega)
      have hf' : W (Int.tdiv (W ((((srt l (F84_L_L l ns) ns).length : Nat) : Int) + 1)) 2) = (((ns.length + 1) / 2 : Nat) : Int) := by rw [hsl]; exact hf
      rw [hso, hf', part0] at e2
      rw [hso, hf', part1] at e3
      rw [e2] at h5o e3
      simp only [List.length_append, List.length_cons, List.length_nil, Nat.zero_add, Int.natCast_add, Int.natCast_one] at e2 e3 h5o
      have ho1 : (GT l leaf nr ((srt l (F84_L_L l ns) ns).take ((ns.length + 1) / 2)) t.1.length (t.2.length + 1)).1.length = (ns.length + 1) / 2 := by omega
      rw [ho1] at e3
      rw [e3, e2]
      simp only [Int.toNat_natCast, List.append_assoc, List.cons_append, List.nil_append, set_md, getD_md, hW, List.length_append, List.length_cons, Int.natCast_add, Int.natCast_one]
      rw [show (t.2.length : Int) + ((GT l leaf nr ((srt l (F84_L_L l ns) ns).take ((ns.length + 1) / 2)) t.1.length (t.2.length + 1)).2.length + 1) = t.2.length + 1 + (GT l leaf nr ((srt l (F84_L_L l ns) ns).take ((ns.length + 1) / 2)) t.1.length (t.2.length + 1)).2.length by omega]
      rfl

end Go.Proofs.Ytnbpiejjeeomkaa

namespace Go.Proofs.Ytnbpiejjeeomkaa
open Go.Proofs Go.Aw Go.RowKit
set_option maxRecDepth 100000
set_option linter.unusedVariables false
set_option linter.unusedSimpArgs false

theorem GT_len (l : LCH) {leaf : Int} (hl : 1 ≤ leaf) : ∀ (n : Nat) (ns : List Int) (fr a : Int), ns.length < n → (GT l leaf n ns fr a).1.length = ns.length
  | 0, _, _, _, h => absurd h (Nat.not_lt_zero _)
  | n + 1, ns, fr, a, h => by
    by_cases h0 : (ns.length : Int) ≤ leaf
    · rw [GT_leaf h0]
    · rw [GT_node h0]
      have hsl := srt_len l (F84_L_L l ns) ns
      simp only [List.length_append]
      rw [GT_len l hl n _ _ _ (by rw [List.length_take, hsl]; omega), GT_len l hl n _ _ _ (by rw [List.length_drop, hsl]; omega), List.length_take, List.length_drop, hsl]
      omega
theorem part_at (pre s post : List Int) {i k : Int} (h : Nat) (hi : i = pre.length) (hk : k = i + h) (hh : h ≤ s.length) : Aw.part (pre ++ (s ++ post)) i k = s.take h := by
  unfold Aw.part
  rw [hk, hi, show ((pre.length : Int) + (h : Int)).toNat = pre.length + h by omega, Int.toNat_natCast, List.drop_append_of_le_length (Nat.le_refl _), List.drop_length, List.nil_append, show pre.length + h - pre.length = h by omega, List.take_append_of_le_length hh]
theorem add_GT : ∀ (nr : Nat) (b : BU) (i k : Int), PADD b i k → VCH b.1 → Int.toNat (k - i) < nr →
    R57 nr b i k = ((b.2.2.2.length : Int), b.1, b.2.1, b.2.2.1.take i.toNat ++ ((GT b.1 b.2.1 nr (Aw.part b.2.2.1 i k) i b.2.2.2.length).1 ++ b.2.2.1.drop k.toNat), b.2.2.2 ++ (GT b.1 b.2.1 nr (Aw.part b.2.2.1 i k) i b.2.2.2.length).2)
  | 0, _, _, _, _, _, h => absurd h (Nat.not_lt_zero _)
  | nr + 1, b, i, k, hp, hv, hn => by
    have h := hp.rng; have hn2 := hp.nds; have hl := hp.lf
    have hW : W (k - i) = k - i := W_eq (by omega) (by omega)
    have hpl := part_len (l := b.2.2.1) (a := i) (b := k) (by omega)
    have hir := hp.inr.part i k
    have hcen : F73_L (A57_1 b i k) = cenR b.1 (Aw.part b.2.2.1 i k) := cen_eq hv hir (by rw [hpl]; omega) (by rw [hpl]; omega)
    have hrad : (A57_2 b i k).1 = (F81_L (F82_L_L b.1 (Aw.part b.2.2.1 i k)) (cenR b.1 (Aw.part b.2.2.1 i k))).1 := by
      unfold A57_2
      rw [hcen, rad_eq _ ⟨cen_bd hv hir 0, cen_bd hv hir 1, cen_bd hv hir 2⟩]
      rfl
    have hnd : ∀ x y, ((i, k, x, y, F73_L (A57_1 b i k), (A57_2 b i k).1) : NDE) = ndR b.1 (Aw.part b.2.2.1 i k) i x y := fun x y => by
      unfold ndR
      rw [hcen, hrad, hpl, show i + ((Int.toNat k - Int.toNat i : Nat) : Int) = k by omega]
    simp only [R57]
    by_cases h0 : W (k - i) > b.2.1
    · rw [decide_eq_true h0, cond_true, GT_node (by rw [hpl]; omega)]
      have h2 : 2 ≤ k - i := by omega
      have hm := mid_eq ⟨h.1, h.2.1, by omega⟩
      have hax : (A57_3 b i k).2 = F84_L_L b.1 (Aw.part b.2.2.1 i k) := by
        unfold A57_3
        exact congrArg Prod.snd (wid_eq (l := b.1) (b := (b.1, b.2.1, b.2.2.1, b.2.2.2 ++ [(i, k, (-1), (-1), (F73_L (A57_1 b i k)), (A57_2 b i k).1)])) rfl (by rw [hpl]; omega))
      have hor : A57_4 b i k = b.2.2.1.take i.toNat ++ (srt b.1 (F84_L_L b.1 (Aw.part b.2.2.1 i k)) (Aw.part b.2.2.1 i k) ++ b.2.2.1.drop k.toNat) := by
        unfold A57_4
        rw [sf_srt (by omega), hax, List.append_assoc, show i.toNat + (k.toNat - i.toNat) = k.toNat by omega]
        rfl
      have h5 : ADDR _ (A57_5 (R57 nr) b i k).2 i _ := add_inv nr _ _ _ (pad1 hp h2) (by rw [hm]; omega)
      have e5 : A57_5 (R57 nr) b i k = _ := add_GT nr _ _ _ (pad1 hp h2) hv (by rw [hm]; omega)
      have e6 : A57_6 (R57 nr) b i k = _ := add_GT nr _ _ _ (pad2 hp (add_4 hp).1 h2 h5) hv (by rw [hm]; omega)
      have hsl := srt_len b.1 (F84_L_L b.1 (Aw.part b.2.2.1 i k)) (Aw.part b.2.2.1 i k)
      rw [hm, hnd] at e5
      generalize hs : srt b.1 (F84_L_L b.1 (Aw.part b.2.2.1 i k)) (Aw.part b.2.2.1 i k) = s at hor hsl e5 e6 ⊢
      generalize hh : ((Aw.part b.2.2.1 i k).length + 1) / 2 = hf at e5 e6 ⊢
      have hfe : (i + (k - i + 1) / 2) = i + (hf : Int) := by rw [← hh, hpl]; omega
      have hsn : s.length = (k - i).toNat := by rw [hsl, hpl]; omega
      have hfs : hf ≤ s.length := by rw [← hh, hpl, hsn]; omega
      have htk : (b.2.2.1.take i.toNat).length = i.toNat := by rw [List.length_take]; omega
      dsimp only at e5
      have d1 : (b.2.2.1.take i.toNat ++ (s ++ b.2.2.1.drop k.toNat)).take i.toNat = b.2.2.1.take i.toNat := by
        rw [List.take_append_of_le_length (by rw [htk]; exact Nat.le_refl _), List.take_of_length_le (by rw [htk]; exact Nat.le_refl _)]
      have d2 : (b.2.2.1.take i.toNat ++ (s ++ b.2.2.1.drop k.toNat)).drop (i + (hf : Int)).toNat = s.drop hf ++ b.2.2.1.drop k.toNat := by
        rw [List.drop_append, List.drop_of_length_le (by rw [htk]; omega), List.nil_append, htk, show (i + (hf : Int)).toNat - i.toNat = hf by omega, List.drop_append_of_le_length hfs]
      have g1 := GT_len b.1 hl nr (s.take hf) i (((b.2.2.2 ++ [ndR b.1 (Aw.part b.2.2.1 i k) i (-1) (-1)]).length : Nat) : Int) (by rw [List.length_take, hsn]; have := hn; rw [← hh, hpl]; omega)
      have g2 := GT_len b.1 hl nr (s.drop hf) (i + (hf : Int)) ((((b.2.2.2 ++ [ndR b.1 (Aw.part b.2.2.1 i k) i (-1) (-1)]) ++ (GT b.1 b.2.1 nr (s.take hf) i (((b.2.2.2 ++ [ndR b.1 (Aw.part b.2.2.1 i k) i (-1) (-1)]).length : Nat) : Int)).2).length : Nat) : Int) (by rw [List.length_drop, hsn]; have := hn; rw [← hh, hpl]; omega)
      rw [hor, hfe, part_at (b.2.2.1.take i.toNat) s (b.2.2.1.drop k.toNat) hf (by rw [htk]; omega) rfl hfs, d1, d2] at e5
      rw [e5, hm, hfe] at e6
      dsimp only at e6
      rw [← List.append_assoc (List.take i.toNat b.2.2.1)] at e6
      have hl1 : (b.2.2.1.take i.toNat ++ (GT b.1 b.2.1 nr (s.take hf) i (((b.2.2.2 ++ [ndR b.1 (Aw.part b.2.2.1 i k) i (-1) (-1)]).length : Nat) : Int)).1).length = i.toNat + hf := by
        rw [List.length_append, htk, g1, List.length_take]; omega
      rw [part_at _ (s.drop hf) (b.2.2.1.drop k.toNat) (s.drop hf).length (by rw [hl1]; omega) (by rw [List.length_drop, hsn]; omega) (Nat.le_refl _), List.take_length] at e6
      have d3 : ∀ x y z : List Int, x.length = i.toNat + hf → (x ++ (y ++ z)).take (i + (hf : Int)).toNat = x := fun x y z hx => by
        rw [show (i + (hf : Int)).toNat = x.length by omega, List.take_append_of_le_length (Nat.le_refl _), List.take_length]
      have d4 : ∀ x y z : List Int, x.length = i.toNat + hf → y.length = s.length - hf → (x ++ (y ++ z)).drop k.toNat = z := fun x y z hx hy => by
        rw [← List.append_assoc, show k.toNat = (x ++ y).length by rw [List.length_append, hx, hy, hsn]; omega, List.drop_append_of_le_length (Nat.le_refl _), List.drop_length, List.nil_append]
      rw [d3 _ _ _ hl1, d4 _ _ _ hl1 (by rw [List.length_drop])] at e6
      rw [e6, e5]
      simp only [Int.toNat_natCast, List.append_assoc, List.cons_append, List.nil_append, set_md, getD_md, List.length_append, List.length_cons, List.length_nil, Nat.zero_add, Int.natCast_add, Int.natCast_one]
      rw [show (b.2.2.2.length : Int) + ((GT b.1 b.2.1 nr (s.take hf) i ((b.2.2.2.length : Int) + 1)).2.length + 1) = b.2.2.2.length + 1 + (GT b.1 b.2.1 nr (s.take hf) i ((b.2.2.2.length : Int) + 1)).2.length by omega]
      rfl
    · rw [decide_eq_false h0, cond_false, GT_leaf (by rw [hpl]; omega), hnd]
      dsimp only
      rw [← List.append_assoc, List.append_assoc]
      have : b.2.2.1.take i.toNat ++ (Aw.part b.2.2.1 i k ++ b.2.2.1.drop k.toNat) = b.2.2.1 := by
        unfold Aw.part
        have e : b.2.2.1.drop k.toNat = (b.2.2.1.drop i.toNat).drop (k.toNat - i.toNat) := by rw [List.drop_drop, show i.toNat + (k.toNat - i.toNat) = k.toNat by omega]
        rw [e, List.take_append_drop, List.take_append_drop]
      rw [this]

end Go.Proofs.Ytnbpiejjeeomkaa

namespace Go.Proofs.Ytnbpiejjeeomkaa
open Go.Proofs Go.Aw Go.RowKit
set_option maxRecDepth 100000
set_option linter.unusedVariables false
set_option linter.unusedSimpArgs false

theorem grw11 (l : LCH) (t : TR) (ns : List Int) (leaf : Int) (hp : PGRW l ([], []) ns leaf) : F60_L_z11_L l t ns leaf = F60_L_z00_L l ([], []) ns leaf := by
  have h := hp.rng; have hl := hp.lf
  unfold F60_L_z11_L F60_L_z00_L
  simp only [R60_L_z11_L, R60_L_z00_L]
  by_cases h0 : ((ns.length : Nat) : Int) ≤ leaf
  · rw [decide_eq_true h0, cond_true, cond_true]
    rfl
  · rw [decide_eq_false h0, cond_false, cond_false]
    have g2 : 2 ≤ ns.length := by omega
    have hs := grw_s hp (F84_L_L l ns)
    have hf := hf_eq (n := ns.length) (by omega)
    have hpt1 := part_len (l := F83_L_L l ns (F84_L_L l ns)) (a := 0) (b := (((ns.length + 1) / 2 : Nat) : Int)) (by omega)
    have hpt2 := part_len (l := F83_L_L l ns (F84_L_L l ns)) (a := (((ns.length + 1) / 2 : Nat) : Int)) (b := ((ns.length : Nat) : Int)) (by omega)
    have e2 : A60_L_z11_L_2 l t ns leaf = A60_L_z00_L_2 (R60_L_z00_L ns.length) l ([], []) ns leaf := by
      unfold A60_L_z11_L_2 A60_L_z00_L_2 F60_L_z10_L
      refine (grw10 _ l ([], _) _ leaf (pgrw1 (t := ([], [])) hp _ g2) (Nat.lt_succ_self _)).trans ?_
      exact grw_fuel _ _ _ _ _ _ (pgrw1 hp _ g2) (Nat.lt_succ_self _) (by rw [hs.1, hf, hpt1]; omega)
    have h5 : GRR _ (A60_L_z00_L_2 (R60_L_z00_L ns.length) l ([], []) ns leaf) _ := grw_inv _ _ _ _ _ (pgrw1 hp _ g2) (by rw [hs.1, hf, hpt1]; omega)
    have e3 : A60_L_z11_L_3 l t ns leaf = A60_L_z00_L_3 (R60_L_z00_L ns.length) l ([], []) ns leaf := by
      unfold A60_L_z11_L_3 A60_L_z00_L_3 F60_L_z00_L
      rw [e2]
      exact grw_fuel _ _ _ _ _ _ (pgrw2 hp _ g2 h5) (Nat.lt_succ_self _) (by rw [hs.1, hf, hpt2]; omega)
    rw [e3, e2]
    rfl
def nums (n : Nat) : List Int := (List.range n).map (fun i : Nat => (i : Int))
theorem nums_len (n : Nat) : (nums n).length = n := by simp [nums]
theorem nums_succ (n : Nat) : nums (n + 1) = nums n ++ [(n : Int)] := by simp [nums, List.range_succ]
theorem nums_inr (n : Nat) : InR n (nums n) := fun x hx => by
  simp only [nums, List.mem_map, List.mem_range] at hx
  obtain ⟨i, hi, rfl⟩ := hx
  omega
def BT (l : LCH) (leaf : Int) : List Int × List NDE := if l.length = 0 then ([], []) else GT l leaf (l.length + 1) (nums l.length) 0 0
theorem nums_padd {l : LCH} (h : 1 ≤ l.length) (hl : l.length ≤ 96) {leaf : Int} (hf : 1 ≤ leaf) : PGRW l ([], []) (nums l.length) leaf :=
  ⟨nums_inr _, by rw [nums_len]; simp only [List.length_nil]; omega, by rw [nums_len]; simp only [List.length_nil]; omega, hf⟩
theorem rbl_eq (l : LCH) (hl : l.length ≤ 96) {leaf : Int} (hf : 1 ≤ leaf) : F36_L l leaf = BT l leaf := by
  have lp : ∀ (n i : Nat), l.length - i < n → i ≤ l.length → loopF (S36_L_0 l leaf) n (nums i, (i : Int)) = BT l leaf := by
    intro n
    induction n with
    | zero => intro i h; exact absurd h (Nat.not_lt_zero _)
    | succ n ih =>
      intro i h hi
      by_cases h1 : i < l.length
      · have e : S36_L_0 l leaf (nums i, (i : Int)) = .inl (nums (i + 1), ((i + 1 : Nat) : Int)) := by
          simp only [S36_L_0]
          rw [decide_eq_true (by omega), cond_true, nums_succ]; rfl
        rw [loopF_inl e]
        exact ih (i + 1) (by omega) (by omega)
      · obtain rfl : i = l.length := by omega
        refine loopF_inr ?_
        simp only [S36_L_0]
        rw [decide_eq_false (by omega), cond_false]
        unfold BT
        by_cases h0 : l.length = 0
        · rw [if_pos h0, show ((((l.length : Nat) : Int) : Int) == 0) = true by simp [h0], cond_true]
        · have hp := nums_padd (l := l) (by omega) hl hf
          rw [if_neg h0, show ((((l.length : Nat) : Int) : Int) == 0) = false by rw [beq_eq_false_iff_ne]; omega, cond_false, grw11 _ _ _ _ hp]
          unfold F60_L_z00_L
          rw [grow_GT _ _ _ _ _ hp (Nat.lt_succ_self _), nums_len]
          rfl
  exact lp (Int.toNat (((l.length : Nat) : Int) - 0) + 1) 0 (by omega) (Nat.zero_le _)
theorem bld_eq (l : LCH) (hv : VCH l) {leaf : Int} (hf : 1 ≤ leaf) : F34_L l leaf = BT l leaf := by
  have hl := hv.1
  have lp : ∀ (n i : Nat), l.length - i < n → i ≤ l.length → loopF (S34_L_0 l leaf) n (nums i, ([] : List NDE), (i : Int)) = BT l leaf := by
    intro n
    induction n with
    | zero => intro i h; exact absurd h (Nat.not_lt_zero _)
    | succ n ih =>
      intro i h hi
      by_cases h1 : i < l.length
      · have e : S34_L_0 l leaf (nums i, ([] : List NDE), (i : Int)) = .inl (nums (i + 1), ([] : List NDE), ((i + 1 : Nat) : Int)) := by
          simp only [S34_L_0]
          rw [decide_eq_true (by omega), cond_true, nums_succ]; rfl
        rw [loopF_inl e]
        exact ih (i + 1) (by omega) (by omega)
      · obtain rfl : i = l.length := by omega
        refine loopF_inr ?_
        simp only [S34_L_0]
        rw [decide_eq_false (by omega), cond_false]
        unfold BT
        by_cases h0 : l.length = 0
        · rw [if_pos h0, decide_eq_false (by omega), cond_false]
          have : nums l.length = [] := by rw [h0]; simp [nums]
          rw [this]
        · have hp : PADD (l, leaf, (nums l.length, ([] : List NDE))) 0 ((l.length : Nat) : Int) := ⟨nums_inr _, by dsimp only; rw [nums_len]; omega, by dsimp only; simp only [List.length_nil]; omega, hf⟩
          rw [if_neg h0, decide_eq_true (by omega), cond_true]
          unfold F57
          rw [add_GT _ _ _ _ hp hv (Nat.lt_succ_self _)]
          dsimp only
          have hpt : Aw.part (nums l.length) 0 ((l.length : Nat) : Int) = nums l.length := by rw [part0, List.take_of_length_le (by rw [nums_len]; exact Nat.le_refl _)]
          have hsub : Int.toNat (((l.length : Nat) : Int) - 0) = l.length := by omega
          rw [hpt, hsub, Int.toNat_natCast, List.drop_of_length_le (by rw [nums_len]; exact Nat.le_refl _), List.append_nil]
          rfl
  exact lp (Int.toNat (((l.length : Nat) : Int) - 0) + 1) 0 (by omega) (Nat.zero_le _)
theorem Build_eq (l : LCH) (leaf : Int) : F11_L l leaf = F12_L l leaf := by
  unfold F11_L F12_L
  rw [vch_eq]
  cases h : ((F35_L l : Int) != 0) with
  | true => rfl
  | false =>
    have h0 : F32_L l = 0 := by rw [vch_eq]; exact bne_eq_false_iff_eq.1 h
    have hv := vch_ok h0
    rw [cond_false, cond_false]
    by_cases h1 : leaf < 1
    · rw [decide_eq_true h1, cond_true, show F33 leaf 1 16 = false by unfold F33; rw [decide_eq_false (show ¬ leaf ≥ 1 by omega)]; rfl]; rfl
    · rw [decide_eq_false h1, cond_false]
      by_cases h2 : leaf > 16
      · rw [decide_eq_true h2, cond_true, show F33 leaf 1 16 = false by unfold F33; rw [decide_eq_true (show leaf ≥ 1 by omega), decide_eq_false (show ¬ leaf ≤ 16 by omega)]; rfl]; rfl
      · rw [decide_eq_false h2, cond_false, show F33 leaf 1 16 = true by unfold F33; rw [decide_eq_true (show leaf ≥ 1 by omega), decide_eq_true (show leaf ≤ 16 by omega)]; rfl]
        rw [bld_eq l hv (by omega), rbl_eq l hv.1 (by omega)]
        rfl

end Go.Proofs.Ytnbpiejjeeomkaa

namespace Go.Proofs.Ytnbpiejjeeomkaa
open Go.Proofs Go.Aw Go.RowKit
set_option maxRecDepth 100000
set_option linter.unusedVariables false
set_option linter.unusedSimpArgs false

theorem GT_nds (l : LCH) {leaf : Int} (hl : 1 ≤ leaf) : ∀ (n : Nat) (ns : List Int) (fr a : Int), ns.length < n → 1 ≤ ns.length → (GT l leaf n ns fr a).2.length + 1 ≤ 2 * ns.length
  | 0, _, _, _, h, _ => absurd h (Nat.not_lt_zero _)
  | n + 1, ns, fr, a, h, h1 => by
    by_cases h0 : (ns.length : Int) ≤ leaf
    · rw [GT_leaf h0]; simp only [List.length_cons, List.length_nil]; omega
    · rw [GT_node h0]
      have hsl := srt_len l (F84_L_L l ns) ns
      have g1 := GT_nds l hl n ((srt l (F84_L_L l ns) ns).take ((ns.length + 1) / 2)) fr (a + 1) (by rw [List.length_take, hsl]; omega) (by rw [List.length_take, hsl]; omega)
      have g2 := GT_nds l hl n ((srt l (F84_L_L l ns) ns).drop ((ns.length + 1) / 2)) (fr + ((ns.length + 1) / 2 : Nat)) (a + 1 + (GT l leaf n ((srt l (F84_L_L l ns) ns).take ((ns.length + 1) / 2)) fr (a + 1)).2.length) (by rw [List.length_drop, hsl]; omega) (by rw [List.length_drop, hsl]; omega)
      rw [List.length_take, hsl] at g1
      rw [List.length_drop, hsl] at g2
      simp only [List.length_cons, List.length_append]
      omega
theorem BT_len (l : LCH) (hl : l.length ≤ 96) {leaf : Int} (hf : 1 ≤ leaf) : (BT l leaf).1.length = l.length ∧ (BT l leaf).2.length ≤ 192 := by
  unfold BT
  by_cases h0 : l.length = 0
  · rw [if_pos h0, h0]; exact ⟨rfl, Nat.zero_le _⟩
  · rw [if_neg h0]
    have g1 := GT_len l hf (l.length + 1) (nums l.length) 0 0 (by rw [nums_len]; omega)
    have g2 := GT_nds l hf (l.length + 1) (nums l.length) 0 0 (by rw [nums_len]; omega) (by rw [nums_len]; omega)
    rw [nums_len] at g1 g2
    exact ⟨g1, by omega⟩
theorem rBuild_len (l : LCH) (leaf : Int) : (F12_L l leaf).1.1.length ≤ 96 ∧ (F12_L l leaf).1.2.length ≤ 192 := by
  unfold F12_L
  cases h : ((F35_L l : Int) != 0) with
  | true => exact ⟨Nat.zero_le _, Nat.zero_le _⟩
  | false =>
    have hl := vch_lenr (l := l) (bne_eq_false_iff_eq.1 h)
    rw [cond_false]
    by_cases h1 : leaf < 1
    · rw [decide_eq_true h1]; exact ⟨Nat.zero_le _, Nat.zero_le _⟩
    · rw [decide_eq_false h1, cond_false]
      by_cases h2 : leaf > 16
      · rw [decide_eq_true h2]; exact ⟨Nat.zero_le _, Nat.zero_le _⟩
      · rw [decide_eq_false h2, cond_false, rbl_eq l hl (by omega)]
        have := BT_len l hl (leaf := leaf) (by omega)
        exact ⟨by dsimp only; omega, this.2⟩
theorem Build_len (l : LCH) (leaf : Int) : (F11_L l leaf).1.1.length ≤ 96 ∧ (F11_L l leaf).1.2.length ≤ 192 := by rw [Build_eq]; exact rBuild_len l leaf
theorem all_lp {S : Int → Int ⊕ Bool} {N : Nat} (h1 : ∀ i : Nat, i < N → S (i : Int) = .inl ((i + 1 : Nat) : Int)) (h2 : S (N : Int) = .inr true) : ∀ (d i n : Nat), d = N - i → i ≤ N → d < n → loopF S n (i : Int) = true
  | 0, i, n, hd, hi, hn => by
    obtain ⟨n, rfl⟩ : ∃ m, n = m + 1 := ⟨n - 1, by omega⟩
    have : i = N := by omega
    subst this
    exact loopF_inr h2
  | d + 1, i, n, hd, hi, hn => by
    obtain ⟨n, rfl⟩ : ∃ m, n = m + 1 := ⟨n - 1, by omega⟩
    rw [loopF_inl (h1 i (by omega))]
    exact all_lp h1 h2 d (i + 1) n (by omega) (by omega) (by omega)
theorem ints_refl (l : List Int) : F27_L_L l l = true := by
  unfold F27_L_L
  rw [show ((((l.length : Nat) : Int) : Int) != ((l.length : Nat) : Int)) = false by simp, cond_false]
  refine all_lp (N := l.length) (fun i hi => ?_) ?_ l.length 0 _ (by omega) (by omega) (by omega)
  · simp only [S27_L_L_0]
    rw [decide_eq_true (show ((i : Nat) : Int) < (l.length : Nat) by omega), cond_true]
    simp
  · simp only [S27_L_L_0]
    rw [decide_eq_false (Int.lt_irrefl _), cond_false]
theorem trees_refl (t : TR) : F13 t t = true := by
  unfold F13
  simp only [ints_refl]
  rw [show ((((t.2.length : Nat) : Int) : Int) != ((t.2.length : Nat) : Int)) = false by simp]
  refine all_lp (N := t.2.length) (fun i hi => ?_) ?_ t.2.length 0 _ (by omega) (by omega) (by omega)
  · simp only [S13_0]
    rw [decide_eq_true (show ((i : Nat) : Int) < (t.2.length : Nat) by omega), cond_true]
    simp
  · simp only [S13_0]
    rw [decide_eq_false (Int.lt_irrefl _), cond_false]

def F3_L (a0 : TyL) (a1 : Int) : Bool :=
  (bif (decide ((((a0.length : Nat) : Int) : Int) > 200)) then
   F10
  else
   (bif (((F11_L a0 a1).2 : Int) == (F12_L a0 a1).2) then
    (bif (F13 ((F11_L a0 a1).1.1, (F11_L a0 a1).1.2) ((F12_L a0 a1).1.1, (F12_L a0 a1).1.2)) then
     F10
    else
     false)
   else
    false))

theorem C3_L (a0 : TyL) (a1 : Int) (l0 : a0.length ≤ 9223372036854775807) : Con Try.prog 3 [(.s 0 0 a0.length 10), (iv a1)] [(.live false true (flat c81 a0))] (.v (.bool (F3_L a0 a1))) [] := by
  refine con_s Try.func3 (by kernel_rfl) fun cx hcx => ?_
  have hb1 := Build_len a0 a1
  have hb2 := rBuild_len a0 a1
  cases h0 : (decide ((((a0.length : Nat) : Int) : Int) > 200)) with
  | true =>
   have q0 := of_decide_eq_true h0
   have e := Eq.refl (F3_L a0 a1); conv at e => rhs; simp only [F3_L, h0, cond_true, cond_false]
   rw [e]
   exact rt [.d h0, .c [] (C10)] [] [] hcx (by kernel_rfl)
  | false =>
   have q0 := of_decide_eq_false h0
   let t1 : List (St Try.prog) := [.d h0, .c [0] (C11_L a0 a1 (by (try simp only [List.length_append, List.length_cons, List.length_nil, Int.toNat_zero, List.length_set]); omega)), .c [0] (C12_L a0 a1 (by (try simp only [List.length_append, List.length_cons, List.length_nil, Int.toNat_zero, List.length_set]); omega))]
   cases h1 : (((F11_L a0 a1).2 : Int) == (F12_L a0 a1).2) with
   | true =>
    have q1 := eq_of_beq h1
    let t2 : List (St Try.prog) := (t1 ++ [.d h1, .c [1, 2, 4, 5] (C13 ((F11_L a0 a1).1.1, (F11_L a0 a1).1.2) ((F12_L a0 a1).1.1, (F12_L a0 a1).1.2) (by (try simp only [List.length_append, List.length_cons, List.length_nil, Int.toNat_zero, List.length_set]); omega) (by (try simp only [List.length_append, List.length_cons, List.length_nil, Int.toNat_zero, List.length_set]); omega) (by (try simp only [List.length_append, List.length_cons, List.length_nil, Int.toNat_zero, List.length_set]); omega) (by (try simp only [List.length_append, List.length_cons, List.length_nil, Int.toNat_zero, List.length_set]); omega))])
    cases h2 : (F13 ((F11_L a0 a1).1.1, (F11_L a0 a1).1.2) ((F12_L a0 a1).1.1, (F12_L a0 a1).1.2)) with
    | true =>
     have e := Eq.refl (F3_L a0 a1); conv at e => rhs; simp only [F3_L, h0, h1, h2, cond_true, cond_false]
     rw [e]
     exact rt (t2 ++ [.d h2, .c [] (C10)]) [] [] hcx (by kernel_rfl)
    | false =>
     have e := Eq.refl (F3_L a0 a1); conv at e => rhs; simp only [F3_L, h0, h1, h2, cond_true, cond_false]
     rw [e]
     exact rt (t2 ++ [.d h2]) [] [] hcx (by kernel_rfl)
   | false =>
    have q1 := ne_of_beq_false h1
    have e := Eq.refl (F3_L a0 a1); conv at e => rhs; simp only [F3_L, h0, h1, cond_true, cond_false]
    rw [e]
    exact rt (t1 ++ [.d h1]) [] [] hcx (by kernel_rfl)

end Go.Proofs.Ytnbpiejjeeomkaa
