/-
  Parts of the proofs of the laws: the executor, what functions of the program compute, and that it is what the statements ask. No premise.
-/
import Derived.Test.YtnbpiejjeeomkaaVPbk5
set_option linter.unusedVariables false
set_option linter.unusedSimpArgs false
set_option maxHeartbeats 4000000
open Int (toNat)
namespace Go.Proofs.Ytnbpiejjeeomkaa
open Go.Proofs Go.Aw Go.RowKit
set_option maxRecDepth 100000

def A60_L_z11_L_1 (a0 : TyL) (a1 : List (Int) × TyN) (a2 : List (Int)) (a3 : Int) := (F81_L (F82_L_L a0 a2) ((F80_L_L a0 a2 0), (F80_L_L a0 a2 1), (F80_L_L a0 a2 2)))

def A60_L_z11_L_2 (a0 : TyL) (a1 : List (Int) × TyN) (a2 : List (Int)) (a3 : Int) := (F60_L_z10_L a0 (([] : List (Int)), ([(0, (W (0 + (a2.length : Int))), (-1), (-1), ((F80_L_L a0 a2 0), (F80_L_L a0 a2 1), (F80_L_L a0 a2 2)), (A60_L_z11_L_1 a0 a1 a2 a3).1)] : TyN)) (Aw.part (F83_L_L a0 a2 (F84_L_L a0 a2)) 0 (W (Int.tdiv (W ((((F83_L_L a0 a2 (F84_L_L a0 a2)).length : Nat) : Int) + 1)) 2))) a3)

def A60_L_z11_L_3 (a0 : TyL) (a1 : List (Int) × TyN) (a2 : List (Int)) (a3 : Int) := (F60_L_z00_L a0 ((A60_L_z11_L_2 a0 a1 a2 a3).1, (A60_L_z11_L_2 a0 a1 a2 a3).2) (Aw.part (F83_L_L a0 a2 (F84_L_L a0 a2)) (W (Int.tdiv (W ((((F83_L_L a0 a2 (F84_L_L a0 a2)).length : Nat) : Int) + 1)) 2)) (((F83_L_L a0 a2 (F84_L_L a0 a2)).length : Nat) : Int)) a3)

def R60_L_z11_L : Nat → TyL → (List (Int) × TyN) → (List (Int)) → (Int) → List (Int) × TyN
 | 0, _, _, _, _ => default
 | nr + 1, a0, a1, a2, a3 =>
 (bif (decide (((a2.length : Int) : Int) ≤ a3)) then
  (a2, ([(0, (W (0 + (a2.length : Int))), (-1), (-1), ((F80_L_L a0 a2 0), (F80_L_L a0 a2 1), (F80_L_L a0 a2 2)), (A60_L_z11_L_1 a0 a1 a2 a3).1)] : TyN))
 else
  ((A60_L_z11_L_3 a0 a1 a2 a3).1, (((A60_L_z11_L_3 a0 a1 a2 a3).2.set (toNat 0) (((A60_L_z11_L_3 a0 a1 a2 a3).2.getD (toNat 0) default).1, ((A60_L_z11_L_3 a0 a1 a2 a3).2.getD (toNat 0) default).2.1, 1, ((A60_L_z11_L_3 a0 a1 a2 a3).2.getD (toNat 0) default).2.2.2.1, ((A60_L_z11_L_3 a0 a1 a2 a3).2.getD (toNat 0) default).2.2.2.2.1, ((A60_L_z11_L_3 a0 a1 a2 a3).2.getD (toNat 0) default).2.2.2.2.2)).set (toNat 0) ((((A60_L_z11_L_3 a0 a1 a2 a3).2.set (toNat 0) (((A60_L_z11_L_3 a0 a1 a2 a3).2.getD (toNat 0) default).1, ((A60_L_z11_L_3 a0 a1 a2 a3).2.getD (toNat 0) default).2.1, 1, ((A60_L_z11_L_3 a0 a1 a2 a3).2.getD (toNat 0) default).2.2.2.1, ((A60_L_z11_L_3 a0 a1 a2 a3).2.getD (toNat 0) default).2.2.2.2.1, ((A60_L_z11_L_3 a0 a1 a2 a3).2.getD (toNat 0) default).2.2.2.2.2)).getD (toNat 0) default).1, (((A60_L_z11_L_3 a0 a1 a2 a3).2.set (toNat 0) (((A60_L_z11_L_3 a0 a1 a2 a3).2.getD (toNat 0) default).1, ((A60_L_z11_L_3 a0 a1 a2 a3).2.getD (toNat 0) default).2.1, 1, ((A60_L_z11_L_3 a0 a1 a2 a3).2.getD (toNat 0) default).2.2.2.1, ((A60_L_z11_L_3 a0 a1 a2 a3).2.getD (toNat 0) default).2.2.2.2.1, ((A60_L_z11_L_3 a0 a1 a2 a3).2.getD (toNat 0) default).2.2.2.2.2)).getD (toNat 0) default).2.1, (((A60_L_z11_L_3 a0 a1 a2 a3).2.set (toNat 0) (((A60_L_z11_L_3 a0 a1 a2 a3).2.getD (toNat 0) default).1, ((A60_L_z11_L_3 a0 a1 a2 a3).2.getD (toNat 0) default).2.1, 1, ((A60_L_z11_L_3 a0 a1 a2 a3).2.getD (toNat 0) default).2.2.2.1, ((A60_L_z11_L_3 a0 a1 a2 a3).2.getD (toNat 0) default).2.2.2.2.1, ((A60_L_z11_L_3 a0 a1 a2 a3).2.getD (toNat 0) default).2.2.2.2.2)).getD (toNat 0) default).2.2.1, (((A60_L_z11_L_2 a0 a1 a2 a3).2.length : Nat) : Int), (((A60_L_z11_L_3 a0 a1 a2 a3).2.set (toNat 0) (((A60_L_z11_L_3 a0 a1 a2 a3).2.getD (toNat 0) default).1, ((A60_L_z11_L_3 a0 a1 a2 a3).2.getD (toNat 0) default).2.1, 1, ((A60_L_z11_L_3 a0 a1 a2 a3).2.getD (toNat 0) default).2.2.2.1, ((A60_L_z11_L_3 a0 a1 a2 a3).2.getD (toNat 0) default).2.2.2.2.1, ((A60_L_z11_L_3 a0 a1 a2 a3).2.getD (toNat 0) default).2.2.2.2.2)).getD (toNat 0) default).2.2.2.2.1, (((A60_L_z11_L_3 a0 a1 a2 a3).2.set (toNat 0) (((A60_L_z11_L_3 a0 a1 a2 a3).2.getD (toNat 0) default).1, ((A60_L_z11_L_3 a0 a1 a2 a3).2.getD (toNat 0) default).2.1, 1, ((A60_L_z11_L_3 a0 a1 a2 a3).2.getD (toNat 0) default).2.2.2.1, ((A60_L_z11_L_3 a0 a1 a2 a3).2.getD (toNat 0) default).2.2.2.2.1, ((A60_L_z11_L_3 a0 a1 a2 a3).2.getD (toNat 0) default).2.2.2.2.2)).getD (toNat 0) default).2.2.2.2.2))))

def F60_L_z11_L (a0 : TyL) (a1 : List (Int) × TyN) (a2 : List (Int)) (a3 : Int) : List (Int) × TyN := R60_L_z11_L (a2.length + 1) a0 a1 a2 a3

theorem Cr60_L_z11_L : ∀ (nr : Nat) (a0 : TyL) (a1 : List (Int) × TyN) (a2 : List (Int)) (a3 : Int) (l0 : a0.length ≤ 9223372036854775807) (l1_1 : a1.1.length ≤ 9223372036854775807) (l1_2 : a1.2.length ≤ 9223372036854775807) (l2 : a2.length ≤ 9223372036854775807) (hp : PGRW a0 ([], []) a2 a3), a2.length < nr → Con Try.prog 60 [(.s 0 0 a0.length 10), (.a [(.v (.slice none 0 0)), (.v (.slice none 0 0))]), (.s 1 0 a2.length 1), (iv a3)] [(.live false true (flat c81 a0)), (.live false true (flat c3 a2))] (.a [(.s 2 0 (R60_L_z11_L nr a0 a1 a2 a3).1.length 1), (.s 3 0 (R60_L_z11_L nr a0 a1 a2 a3).2.length 8)]) [(.live true true (flat c3 (R60_L_z11_L nr a0 a1 a2 a3).1)), (.live true true (flat c40 (R60_L_z11_L nr a0 a1 a2 a3).2))] := by
 intro nr
 induction nr with
 | zero => intro a0 a1 a2 a3 l0 l1_1 l1_2 l2 hp hlt; exact absurd hlt (nlz _)
 | succ nr ihr =>
 intro a0 a1 a2 a3 l0 l1_1 l1_2 l2 hp hlt
 refine con_s Try.func60 (by kernel_rfl) fun cx hcx => ?_
 have hpr := hp.rng
 have hpn := hp.nds
 try dsimp only at hpr hpn
 try simp only [List.length_nil, Nat.zero_add] at hpr hpn
 have hpl := hp.lf
 have hpk := rpi_len a0 a2
 have hso := grw_s hp (F84_L_L a0 a2)
 obtain ⟨hso1, hso2⟩ := hso
 have hhf : (W (Int.tdiv (W ((((F83_L_L a0 a2 (F84_L_L a0 a2)).length : Nat) : Int) + 1)) 2)) = (((a2.length + 1) / 2 : Nat) : Int) := by rw [hso1]; exact hf_eq (by omega)
 have hpt1 : (Aw.part (F83_L_L a0 a2 (F84_L_L a0 a2)) 0 (W (Int.tdiv (W ((((F83_L_L a0 a2 (F84_L_L a0 a2)).length : Nat) : Int) + 1)) 2))).length = (a2.length + 1) / 2 := by rw [part_len (by omega)]; omega
 have hpt2 : (Aw.part (F83_L_L a0 a2 (F84_L_L a0 a2)) (W (Int.tdiv (W ((((F83_L_L a0 a2 (F84_L_L a0 a2)).length : Nat) : Int) + 1)) 2)) (((F83_L_L a0 a2 (F84_L_L a0 a2)).length : Nat) : Int)).length = a2.length - (a2.length + 1) / 2 := by rw [part_len (by omega)]; omega
 try have h2 : 2 ≤ a2.length := (fun _ => by omega) h0
 try have h5 : GRR _ (A60_L_z10_L_2 (R60_L_z10_L nr) a0 a1 a2 a3) _ := (fun _ => grw_inv10 nr a0 ([], _) _ a3 (pgrw1 hp _ h2) (by omega)) h0
 try have h6 : GRR _ (A60_L_z10_L_3 (R60_L_z10_L nr) a0 a1 a2 a3) _ := (fun _ => grw_inv _ _ _ _ _ (pgrw2 hp _ h2 h5) (lss _)) h0
 try have h5 : GRR _ (A60_L_z00_L_2 (R60_L_z00_L nr) a0 a1 a2 a3) _ := (fun _ => grw_inv nr _ _ _ _ (pgrw1 hp _ h2) (by omega)) h0
 try have h6 : GRR _ (A60_L_z00_L_3 (R60_L_z00_L nr) a0 a1 a2 a3) _ := (fun _ => grw_inv nr _ _ _ _ (pgrw2 hp _ h2 h5) (by omega)) h0
 try have h5 : GRR _ (A60_L_z11_L_2 a0 a1 a2 a3) _ := (fun _ => grw_inv10 _ a0 ([], _) _ a3 (pgrw1 (t := ([], [])) hp _ h2) (lss _)) h0
 try have h6 : GRR _ (A60_L_z11_L_3 a0 a1 a2 a3) _ := (fun _ => grw_inv _ _ _ _ _ (pgrw2 (t := ([], [])) hp _ h2 h5) (lss _)) h0
 try have g1 := (fun _ => h5.ol) h0
 try have g2 := (fun _ => h5.lo) h0
 try have g3 := (fun _ => h5.hi) h0
 try have f1 := (fun _ => h6.ol) h0
 try have f2 := (fun _ => h6.lo) h0
 try have f3 := (fun _ => h6.hi) h0
 try (have _ := h0; simp only [List.length_append, List.length_cons, List.length_nil] at g1 g2 g3 f1 f2 f3)
 let t0 : List (St Try.prog) := [.c [0, 1] (C80_L_L a0 a2 0 (by omega) (by omega) hp.inr (by omega)), .c [0, 1] (C80_L_L a0 a2 1 (by omega) (by omega) hp.inr (by omega)), .c [0, 1] (C80_L_L a0 a2 2 (by omega) (by omega) hp.inr (by omega)), .c [0, 1] (C82_L_L a0 a2 (by omega) (by omega) hp.inr (by omega)), .c [5] (C81_L (F82_L_L a0 a2) ((F80_L_L a0 a2 0), (F80_L_L a0 a2 1), (F80_L_L a0 a2 2)) (by (try simp only [Lt]); omega))]
 cases h0 : (decide (((a2.length : Int) : Int) ≤ a3)) with
 | true =>
  have q0 := odt h0
  try have h2 : 2 ≤ a2.length := (fun _ => by omega) h0
  try have h5 : GRR _ (A60_L_z10_L_2 (R60_L_z10_L nr) a0 a1 a2 a3) _ := (fun _ => grw_inv10 nr a0 ([], _) _ a3 (pgrw1 hp _ h2) (by omega)) h0
  try have h6 : GRR _ (A60_L_z10_L_3 (R60_L_z10_L nr) a0 a1 a2 a3) _ := (fun _ => grw_inv _ _ _ _ _ (pgrw2 hp _ h2 h5) (lss _)) h0
  try have h5 : GRR _ (A60_L_z00_L_2 (R60_L_z00_L nr) a0 a1 a2 a3) _ := (fun _ => grw_inv nr _ _ _ _ (pgrw1 hp _ h2) (by omega)) h0
  try have h6 : GRR _ (A60_L_z00_L_3 (R60_L_z00_L nr) a0 a1 a2 a3) _ := (fun _ => grw_inv nr _ _ _ _ (pgrw2 hp _ h2 h5) (by omega)) h0
  try have h5 : GRR _ (A60_L_z11_L_2 a0 a1 a2 a3) _ := (fun _ => grw_inv10 _ a0 ([], _) _ a3 (pgrw1 (t := ([], [])) hp _ h2) (lss _)) h0
  try have h6 : GRR _ (A60_L_z11_L_3 a0 a1 a2 a3) _ := (fun _ => grw_inv _ _ _ _ _ (pgrw2 (t := ([], [])) hp _ h2 h5) (lss _)) h0
  try have g1 := (fun _ => h5.ol) h0
  try have g2 := (fun _ => h5.lo) h0
  try have g3 := (fun _ => h5.hi) h0
  try have f1 := (fun _ => h6.ol) h0
  try have f2 := (fun _ => h6.lo) h0
  try have f3 := (fun _ => h6.hi) h0
  try (have _ := h0; simp only [List.length_append, List.length_cons, List.length_nil] at g1 g2 g3 f1 f2 f3)
  have e := Eq.refl (R60_L_z11_L (nr + 1) a0 a1 a2 a3); conv at e => rhs; simp only [R60_L_z11_L, h0, cdb]
  rw [e]
  try dsimp only [thenF]
  try dsimp only
  exact rt (t0 ++ [.d h0, .p (show ((flat c3 a2).length = a2.length * 1 ∧ (flat c3 a2).all SV.one = true ∧ a2.length ≤ 2 ^ 40 ∧ a2.length * 8 ≤ 2 ^ 47) from by refine ⟨?_, ?_, ?_, ?_⟩ <;> first | omega | exact flat_one (fun _ => rfl) | (simp [flat_lenc c3_len]; done) | (simp [flat_lenc c3_len]; omega))]) [.sym 7 true]  [8, 7] hcx (by kernel_rfl)
 | false =>
  have q0 := odf h0
  try have h2 : 2 ≤ a2.length := (fun _ => by omega) h0
  try have h5 : GRR _ (A60_L_z10_L_2 (R60_L_z10_L nr) a0 a1 a2 a3) _ := (fun _ => grw_inv10 nr a0 ([], _) _ a3 (pgrw1 hp _ h2) (by omega)) h0
  try have h6 : GRR _ (A60_L_z10_L_3 (R60_L_z10_L nr) a0 a1 a2 a3) _ := (fun _ => grw_inv _ _ _ _ _ (pgrw2 hp _ h2 h5) (lss _)) h0
  try have h5 : GRR _ (A60_L_z00_L_2 (R60_L_z00_L nr) a0 a1 a2 a3) _ := (fun _ => grw_inv nr _ _ _ _ (pgrw1 hp _ h2) (by omega)) h0
  try have h6 : GRR _ (A60_L_z00_L_3 (R60_L_z00_L nr) a0 a1 a2 a3) _ := (fun _ => grw_inv nr _ _ _ _ (pgrw2 hp _ h2 h5) (by omega)) h0
  try have h5 : GRR _ (A60_L_z11_L_2 a0 a1 a2 a3) _ := (fun _ => grw_inv10 _ a0 ([], _) _ a3 (pgrw1 (t := ([], [])) hp _ h2) (lss _)) h0
  try have h6 : GRR _ (A60_L_z11_L_3 a0 a1 a2 a3) _ := (fun _ => grw_inv _ _ _ _ _ (pgrw2 (t := ([], [])) hp _ h2 h5) (lss _)) h0
  try have g1 := (fun _ => h5.ol) h0
  try have g2 := (fun _ => h5.lo) h0
  try have g3 := (fun _ => h5.hi) h0
  try have f1 := (fun _ => h6.ol) h0
  try have f2 := (fun _ => h6.lo) h0
  try have f3 := (fun _ => h6.hi) h0
  try (have _ := h0; simp only [List.length_append, List.length_cons, List.length_nil] at g1 g2 g3 f1 f2 f3)
  have e := Eq.refl (R60_L_z11_L (nr + 1) a0 a1 a2 a3); conv at e => rhs; simp only [R60_L_z11_L, h0, cdb]
  rw [e]
  try dsimp only [thenF]
  try dsimp only
  rw [show flat c40 (((A60_L_z11_L_3 a0 a1 a2 a3).2.set (toNat 0) (((A60_L_z11_L_3 a0 a1 a2 a3).2.getD (toNat 0) default).1, ((A60_L_z11_L_3 a0 a1 a2 a3).2.getD (toNat 0) default).2.1, 1, ((A60_L_z11_L_3 a0 a1 a2 a3).2.getD (toNat 0) default).2.2.2.1, ((A60_L_z11_L_3 a0 a1 a2 a3).2.getD (toNat 0) default).2.2.2.2.1, ((A60_L_z11_L_3 a0 a1 a2 a3).2.getD (toNat 0) default).2.2.2.2.2)).set (toNat 0) ((((A60_L_z11_L_3 a0 a1 a2 a3).2.set (toNat 0) (((A60_L_z11_L_3 a0 a1 a2 a3).2.getD (toNat 0) default).1, ((A60_L_z11_L_3 a0 a1 a2 a3).2.getD (toNat 0) default).2.1, 1, ((A60_L_z11_L_3 a0 a1 a2 a3).2.getD (toNat 0) default).2.2.2.1, ((A60_L_z11_L_3 a0 a1 a2 a3).2.getD (toNat 0) default).2.2.2.2.1, ((A60_L_z11_L_3 a0 a1 a2 a3).2.getD (toNat 0) default).2.2.2.2.2)).getD (toNat 0) default).1, (((A60_L_z11_L_3 a0 a1 a2 a3).2.set (toNat 0) (((A60_L_z11_L_3 a0 a1 a2 a3).2.getD (toNat 0) default).1, ((A60_L_z11_L_3 a0 a1 a2 a3).2.getD (toNat 0) default).2.1, 1, ((A60_L_z11_L_3 a0 a1 a2 a3).2.getD (toNat 0) default).2.2.2.1, ((A60_L_z11_L_3 a0 a1 a2 a3).2.getD (toNat 0) default).2.2.2.2.1, ((A60_L_z11_L_3 a0 a1 a2 a3).2.getD (toNat 0) default).2.2.2.2.2)).getD (toNat 0) default).2.1, (((A60_L_z11_L_3 a0 a1 a2 a3).2.set (toNat 0) (((A60_L_z11_L_3 a0 a1 a2 a3).2.getD (toNat 0) default).1, ((A60_L_z11_L_3 a0 a1 a2 a3).2.getD (toNat 0) default).2.1, 1, ((A60_L_z11_L_3 a0 a1 a2 a3).2.getD (toNat 0) default).2.2.2.1, ((A60_L_z11_L_3 a0 a1 a2 a3).2.getD (toNat 0) default).2.2.2.2.1, ((A60_L_z11_L_3 a0 a1 a2 a3).2.getD (toNat 0) default).2.2.2.2.2)).getD (toNat 0) default).2.2.1, (((A60_L_z11_L_2 a0 a1 a2 a3).2.length : Nat) : Int), (((A60_L_z11_L_3 a0 a1 a2 a3).2.set (toNat 0) (((A60_L_z11_L_3 a0 a1 a2 a3).2.getD (toNat 0) default).1, ((A60_L_z11_L_3 a0 a1 a2 a3).2.getD (toNat 0) default).2.1, 1, ((A60_L_z11_L_3 a0 a1 a2 a3).2.getD (toNat 0) default).2.2.2.1, ((A60_L_z11_L_3 a0 a1 a2 a3).2.getD (toNat 0) default).2.2.2.2.1, ((A60_L_z11_L_3 a0 a1 a2 a3).2.getD (toNat 0) default).2.2.2.2.2)).getD (toNat 0) default).2.2.2.2.1, (((A60_L_z11_L_3 a0 a1 a2 a3).2.set (toNat 0) (((A60_L_z11_L_3 a0 a1 a2 a3).2.getD (toNat 0) default).1, ((A60_L_z11_L_3 a0 a1 a2 a3).2.getD (toNat 0) default).2.1, 1, ((A60_L_z11_L_3 a0 a1 a2 a3).2.getD (toNat 0) default).2.2.2.1, ((A60_L_z11_L_3 a0 a1 a2 a3).2.getD (toNat 0) default).2.2.2.2.1, ((A60_L_z11_L_3 a0 a1 a2 a3).2.getD (toNat 0) default).2.2.2.2.2)).getD (toNat 0) default).2.2.2.2.2)) = (splice (splice (flat c40 (A60_L_z11_L_3 a0 a1 a2 a3).2) (0 + toNat 0 * 8 + 2) [(iv 1)]) (0 + toNat 0 * 8 + 3) [(iv (((A60_L_z11_L_2 a0 a1 a2 a3).2.length : Nat) : Int))]) from Eq.symm (by rw [show (splice (flat c40 (A60_L_z11_L_3 a0 a1 a2 a3).2) (0 + toNat 0 * 8 + 2) [(iv 1)]) = flat c40 ((A60_L_z11_L_3 a0 a1 a2 a3).2.set (toNat 0) (((A60_L_z11_L_3 a0 a1 a2 a3).2.getD (toNat 0) default).1, ((A60_L_z11_L_3 a0 a1 a2 a3).2.getD (toNat 0) default).2.1, 1, ((A60_L_z11_L_3 a0 a1 a2 a3).2.getD (toNat 0) default).2.2.2.1, ((A60_L_z11_L_3 a0 a1 a2 a3).2.getD (toNat 0) default).2.2.2.2.1, ((A60_L_z11_L_3 a0 a1 a2 a3).2.getD (toNat 0) default).2.2.2.2.2)) from (flat_set c40_len (by first | omega | (simp only [Lt]; omega)) (o := 2) (d := default) (Nb rfl) rfl)]; exact flat_set c40_len (by first | omega | (simp only [Lt]; omega)) (o := 3) (d := default) (Nb rfl) rfl)]
  try rw [show List.length (α := Int × Int × Int × Int × (Int × Int × Int) × Int) (((A60_L_z11_L_3 a0 a1 a2 a3).2.set (toNat 0) (((A60_L_z11_L_3 a0 a1 a2 a3).2.getD (toNat 0) default).1, ((A60_L_z11_L_3 a0 a1 a2 a3).2.getD (toNat 0) default).2.1, 1, ((A60_L_z11_L_3 a0 a1 a2 a3).2.getD (toNat 0) default).2.2.2.1, ((A60_L_z11_L_3 a0 a1 a2 a3).2.getD (toNat 0) default).2.2.2.2.1, ((A60_L_z11_L_3 a0 a1 a2 a3).2.getD (toNat 0) default).2.2.2.2.2)).set (toNat 0) ((((A60_L_z11_L_3 a0 a1 a2 a3).2.set (toNat 0) (((A60_L_z11_L_3 a0 a1 a2 a3).2.getD (toNat 0) default).1, ((A60_L_z11_L_3 a0 a1 a2 a3).2.getD (toNat 0) default).2.1, 1, ((A60_L_z11_L_3 a0 a1 a2 a3).2.getD (toNat 0) default).2.2.2.1, ((A60_L_z11_L_3 a0 a1 a2 a3).2.getD (toNat 0) default).2.2.2.2.1, ((A60_L_z11_L_3 a0 a1 a2 a3).2.getD (toNat 0) default).2.2.2.2.2)).getD (toNat 0) default).1, (((A60_L_z11_L_3 a0 a1 a2 a3).2.set (toNat 0) (((A60_L_z11_L_3 a0 a1 a2 a3).2.getD (toNat 0) default).1, ((A60_L_z11_L_3 a0 a1 a2 a3).2.getD (toNat 0) default).2.1, 1, ((A60_L_z11_L_3 a0 a1 a2 a3).2.getD (toNat 0) default).2.2.2.1, ((A60_L_z11_L_3 a0 a1 a2 a3).2.getD (toNat 0) default).2.2.2.2.1, ((A60_L_z11_L_3 a0 a1 a2 a3).2.getD (toNat 0) default).2.2.2.2.2)).getD (toNat 0) default).2.1, (((A60_L_z11_L_3 a0 a1 a2 a3).2.set (toNat 0) (((A60_L_z11_L_3 a0 a1 a2 a3).2.getD (toNat 0) default).1, ((A60_L_z11_L_3 a0 a1 a2 a3).2.getD (toNat 0) default).2.1, 1, ((A60_L_z11_L_3 a0 a1 a2 a3).2.getD (toNat 0) default).2.2.2.1, ((A60_L_z11_L_3 a0 a1 a2 a3).2.getD (toNat 0) default).2.2.2.2.1, ((A60_L_z11_L_3 a0 a1 a2 a3).2.getD (toNat 0) default).2.2.2.2.2)).getD (toNat 0) default).2.2.1, (((A60_L_z11_L_2 a0 a1 a2 a3).2.length : Nat) : Int), (((A60_L_z11_L_3 a0 a1 a2 a3).2.set (toNat 0) (((A60_L_z11_L_3 a0 a1 a2 a3).2.getD (toNat 0) default).1, ((A60_L_z11_L_3 a0 a1 a2 a3).2.getD (toNat 0) default).2.1, 1, ((A60_L_z11_L_3 a0 a1 a2 a3).2.getD (toNat 0) default).2.2.2.1, ((A60_L_z11_L_3 a0 a1 a2 a3).2.getD (toNat 0) default).2.2.2.2.1, ((A60_L_z11_L_3 a0 a1 a2 a3).2.getD (toNat 0) default).2.2.2.2.2)).getD (toNat 0) default).2.2.2.2.1, (((A60_L_z11_L_3 a0 a1 a2 a3).2.set (toNat 0) (((A60_L_z11_L_3 a0 a1 a2 a3).2.getD (toNat 0) default).1, ((A60_L_z11_L_3 a0 a1 a2 a3).2.getD (toNat 0) default).2.1, 1, ((A60_L_z11_L_3 a0 a1 a2 a3).2.getD (toNat 0) default).2.2.2.1, ((A60_L_z11_L_3 a0 a1 a2 a3).2.getD (toNat 0) default).2.2.2.2.1, ((A60_L_z11_L_3 a0 a1 a2 a3).2.getD (toNat 0) default).2.2.2.2.2)).getD (toNat 0) default).2.2.2.2.2)) = (A60_L_z11_L_3 a0 a1 a2 a3).2.length from by first | simp; done | omega]
  exact rt (t0 ++ [.d h0, .c [0, 1] (C84_L_L a0 a2 (by omega) (by omega) hp.inr (by omega)), .c [0, 1] (C83_L_L a0 a2 (F84_L_L a0 a2) (by omega) (by omega) hp.inr (by omega)), .p (show (2 : Int) ≠ 0 from by decide), .S c3_len (F83_L_L a0 a2 (F84_L_L a0 a2)) 0 (W (Int.tdiv (W ((((F83_L_L a0 a2 (F84_L_L a0 a2)).length : Nat) : Int) + 1)) 2)) ((F83_L_L a0 a2 (F84_L_L a0 a2)).length), .c [0, 7, 9] (by have q := (Con.flags (bs' := [(.live false true (flat c81 a0)), (.live true false [(iv 0), (iv (W (0 + (a2.length : Int)))), (iv (-1)), (iv (-1)), (iv (F80_L_L a0 a2 0)), (iv (F80_L_L a0 a2 1)), (iv (F80_L_L a0 a2 2)), (iv (A60_L_z11_L_1 a0 a1 a2 a3).1)]), (.live false true (flat c3 (Aw.part (F83_L_L a0 a2 (F84_L_L a0 a2)) 0 (W (Int.tdiv (W ((((F83_L_L a0 a2 (F84_L_L a0 a2)).length : Nat) : Int) + 1)) 2)))))]) (C60_L_z10_L a0 (([] : List (Int)), ([(0, (W (0 + (a2.length : Int))), (-1), (-1), ((F80_L_L a0 a2 0), (F80_L_L a0 a2 1), (F80_L_L a0 a2 2)), (A60_L_z11_L_1 a0 a1 a2 a3).1)] : TyN)) (Aw.part (F83_L_L a0 a2 (F84_L_L a0 a2)) 0 (W (Int.tdiv (W ((((F83_L_L a0 a2 (F84_L_L a0 a2)).length : Nat) : Int) + 1)) 2))) a3 (by (try simp only [Lt]); omega) (by (try simp only [Lt]); omega) (by (try simp only [Lt]); omega) (by (try simp only [Lt]); omega) (by first | exact pgrw1 hp _ h2 | exact pgrw2 hp _ h2 h5)) rfl ⟨flat_plain (fun _ => rfl), flat_plain (fun _ => rfl), flat_plain (fun _ => rfl), trivial⟩); (try dsimp only at q); (try rw [show List.length (α := Int) (Aw.part (F83_L_L a0 a2 (F84_L_L a0 a2)) 0 (W (Int.tdiv (W ((((F83_L_L a0 a2 (F84_L_L a0 a2)).length : Nat) : Int) + 1)) 2))) = (toNat (W (Int.tdiv (W ((((F83_L_L a0 a2 (F84_L_L a0 a2)).length : Nat) : Int) + 1)) 2)) - toNat 0) from by first | simp; done | omega] at q); exact q), .S c3_len (F83_L_L a0 a2 (F84_L_L a0 a2)) (W (Int.tdiv (W ((((F83_L_L a0 a2 (F84_L_L a0 a2)).length : Nat) : Int) + 1)) 2)) (((F83_L_L a0 a2 (F84_L_L a0 a2)).length : Nat) : Int) ((F83_L_L a0 a2 (F84_L_L a0 a2)).length), .c [0, 10, 11, 12] (by have q := (C60_L_z00_L a0 ((A60_L_z11_L_2 a0 a1 a2 a3).1, (A60_L_z11_L_2 a0 a1 a2 a3).2) (Aw.part (F83_L_L a0 a2 (F84_L_L a0 a2)) (W (Int.tdiv (W ((((F83_L_L a0 a2 (F84_L_L a0 a2)).length : Nat) : Int) + 1)) 2)) (((F83_L_L a0 a2 (F84_L_L a0 a2)).length : Nat) : Int)) a3 (by (try simp only [Lt]); omega) (by (try simp only [Lt]); omega) (by (try simp only [Lt]); omega) (by (try simp only [Lt]); omega) (by first | exact pgrw1 hp _ h2 | exact pgrw2 hp _ h2 h5)); (try dsimp only at q); (try rw [show List.length (α := Int) (Aw.part (F83_L_L a0 a2 (F84_L_L a0 a2)) (W (Int.tdiv (W ((((F83_L_L a0 a2 (F84_L_L a0 a2)).length : Nat) : Int) + 1)) 2)) (((F83_L_L a0 a2 (F84_L_L a0 a2)).length : Nat) : Int)) = (toNat (((F83_L_L a0 a2 (F84_L_L a0 a2)).length : Nat) : Int) - toNat (W (Int.tdiv (W ((((F83_L_L a0 a2 (F84_L_L a0 a2)).length : Nat) : Int) + 1)) 2))) from by first | simp; done | omega] at q); exact q), .i 0 ((A60_L_z11_L_3 a0 a1 a2 a3).2.length), .p (show ((0 + toNat 0 * 8 + 2) + 1 ≤ (flat c40 (A60_L_z11_L_3 a0 a1 a2 a3).2).length) from (flat_setl c40_len (by first | omega | (simp only [Lt]; omega)) (o := 2) (Nb rfl))), .i 0 ((A60_L_z11_L_3 a0 a1 a2 a3).2.length), .p (show ((0 + toNat 0 * 8 + 3) + 1 ≤ (splice (flat c40 (A60_L_z11_L_3 a0 a1 a2 a3).2) (0 + toNat 0 * 8 + 2) [(iv 1)]).length) from (by rw [show (splice (flat c40 (A60_L_z11_L_3 a0 a1 a2 a3).2) (0 + toNat 0 * 8 + 2) [(iv 1)]) = flat c40 ((A60_L_z11_L_3 a0 a1 a2 a3).2.set (toNat 0) (((A60_L_z11_L_3 a0 a1 a2 a3).2.getD (toNat 0) default).1, ((A60_L_z11_L_3 a0 a1 a2 a3).2.getD (toNat 0) default).2.1, 1, ((A60_L_z11_L_3 a0 a1 a2 a3).2.getD (toNat 0) default).2.2.2.1, ((A60_L_z11_L_3 a0 a1 a2 a3).2.getD (toNat 0) default).2.2.2.2.1, ((A60_L_z11_L_3 a0 a1 a2 a3).2.getD (toNat 0) default).2.2.2.2.2)) from (flat_set c40_len (by first | omega | (simp only [Lt]; omega)) (o := 2) (d := default) (Nb rfl) rfl)]; exact flat_setl c40_len (by first | omega | (simp only [Lt]; omega)) (o := 3) (Nb rfl)))]) []  [13, 14] hcx (by kernel_rfl)

theorem C60_L_z11_L (a0 : TyL) (a1 : List (Int) × TyN) (a2 : List (Int)) (a3 : Int) (l0 : a0.length ≤ 9223372036854775807) (l1_1 : a1.1.length ≤ 9223372036854775807) (l1_2 : a1.2.length ≤ 9223372036854775807) (l2 : a2.length ≤ 9223372036854775807) (hp : PGRW a0 ([], []) a2 a3) : Con Try.prog 60 [(.s 0 0 a0.length 10), (.a [(.v (.slice none 0 0)), (.v (.slice none 0 0))]), (.s 1 0 a2.length 1), (iv a3)] [(.live false true (flat c81 a0)), (.live false true (flat c3 a2))] (.a [(.s 2 0 (F60_L_z11_L a0 a1 a2 a3).1.length 1), (.s 3 0 (F60_L_z11_L a0 a1 a2 a3).2.length 8)]) [(.live true true (flat c3 (F60_L_z11_L a0 a1 a2 a3).1)), (.live true true (flat c40 (F60_L_z11_L a0 a1 a2 a3).2))] := Cr60_L_z11_L (a2.length + 1) a0 a1 a2 a3 l0 l1_1 l1_2 l2 hp (lss _)


noncomputable def B36_L_0 : Code := (loopAtD [1, 1, 0, 1] [] (bodyOf Try.f36) []).1
noncomputable def K36_L_0 : List K := (loopAtD [1, 1, 0, 1] [] (bodyOf Try.f36) []).2

def st36_L_0 (a0 : TyL) (a1 : Int) (v2c : List SV) (v2n : Nat) (v3 : Int) : LS := ⟨slN 26 [(0, (.s 0 0 a0.length 10)), (1, (iv a1)), (4, (.p 1 0)), (5, (.s 2 0 v2n 1)), (6, (iv v3))], [(.live false true (flat c81 a0)), (.live true false [(.v (.slice none 0 0)), (.v (.slice none 0 0))]), (.live true true v2c)]⟩

def S36_L_0 (a0 : TyL) (a1 : Int) : List (Int) × Int → (List (Int) × Int) ⊕ (List (Int) × TyN)
 | (v2, v3) =>
  (bif (decide ((v3 : Int) < (a0.length : Int))) then
   (.inl ((v2 ++ [v3]), (v3 + 1)))
  else
   (bif (((a0.length : Int) : Int) == 0) then
    (.inr (([] : List (Int)), ([] : TyN)))
   else
    (.inr ((F60_L_z11_L a0 (([] : List (Int)), ([] : TyN)) v2 a1).1, (F60_L_z11_L a0 (([] : List (Int)), ([] : TyN)) v2 a1).2))))

theorem L36_L_0 (a0 : TyL) (a1 : Int) (l0 : a0.length ≤ 9223372036854775807) (hl : a0.length ≤ 96) (hf : 1 ≤ a1) {cx : Cx} (hcx : cx.base = 1) : ∀ (n : Nat) (v2 : List (Int)) (v3 : Int), (0 ≤ v3) ∧ (v2.length = toNat v3) ∧ (InR a0.length v2) ∧ (v3 ≤ a0.length) ∧ (a0.length ≤ 96) → toNat ((a0.length : Int) - v3) < n → Aw.Good Try.prog none 9 (bodyPost Try.prog Try.f36 (RR cx (.a [(.s 1 0 (loopF (S36_L_0 a0 a1) n (v2, v3)).1.length 1), (.s 2 0 (loopF (S36_L_0 a0 a1) n (v2, v3)).2.length 8)]) [(.live true true (flat c3 (loopF (S36_L_0 a0 a1) n (v2, v3)).1)), (.live true true (flat c40 (loopF (S36_L_0 a0 a1) n (v2, v3)).2))] [])) cx [] (.l B36_L_0 n :: K36_L_0) (st36_L_0 a0 a1 (flat c3 v2) v2.length v3) := by
 intro n
 induction n with
 | zero => intro v2 v3 hi hn; exact absurd hn (nlz _)
 | succ n ih =>
   intro v2 v3 hi hn
   refine good_round ?_
   cases h0 : (decide ((v3 : Int) < (a0.length : Int))) with
   | true =>
    have q0 := odt h0
    have e := Eq.refl (S36_L_0 a0 a1 (v2, v3)); conv at e => rhs; simp only [S36_L_0, h0, cdb]
    rw [loopF_inl e]
    refine ba [.d h0, .p (show ((flat c3 v2).length = v2.length * 1 ∧ v2.length + 1 ≤ 2 ^ 40 ∧ (v2.length + 1) * 8 ≤ 2 ^ 47) from app_ok c3_len (by omega) (by omega))] [] [0, 1, 4, 5, 6] [1, 4] hcx (m := n) B36_L_0 (K36_L_0) (st36_L_0 a0 a1 (flat c3 v2 ++ [(iv v3)]) (v2.length + 1) (W (v3 + 1))) (by kernel_rfl) ?_
    have z0 : (W (v3 + 1)) = (v3 + 1) := W_eq (by omega) (by omega)
    have z1 : (flat c3 v2 ++ [(iv v3)]) = (flat c3 (v2 ++ [v3])) := (flat_append (c := c3) (l := v2) (m := [v3])).symm
    have z2 : (v2.length + 1) = (v2 ++ [v3]).length := len_app v2 [v3] rfl
    rw [z0, z1, z2]
    exact ih (v2 ++ [v3]) (v3 + 1) (by and_intros <;> (try simp only [Lt]) <;> first | omega | assumption | exact hi.2.1 | exact hi.2.2.1 | exact InR.swap hi.2.1 (by omega) (by omega) | exact InR.swap hr (by omega) (by omega) | exact InR.nil _ | exact hi.2.2.1.add (by omega)) (by (try simp only [Ls]); omega)
   | false =>
    have q0 := odf h0
    let t1 : List (St Try.prog) := [.d h0]
    cases h1 : (((a0.length : Int) : Int) == 0) with
    | true =>
     have q1 := eq_of_beq h1
     have e := Eq.refl (S36_L_0 a0 a1 (v2, v3)); conv at e => rhs; simp only [S36_L_0, h0, h1, cdb]
     rw [loopF_s, e]
     exact rt (t1 ++ [.d h1]) [.cell 1 0 1, .cell 1 1 8] [3, 4] hcx (by kernel_rfl)
    | false =>
     have q1 := ne_of_beq_false h1
     have e := Eq.refl (S36_L_0 a0 a1 (v2, v3)); conv at e => rhs; simp only [S36_L_0, h0, h1, cdb]
     rw [loopF_s, e]
     exact rt (t1 ++ [.d h1, .c [0, 2] (C60_L_z11_L a0 (([] : List (Int)), ([] : TyN)) v2 a1 (by (try simp only [Lt]); omega) (by (try simp only [Lt]); omega) (by (try simp only [Lt]); omega) (by (try simp only [Lt]); omega) ⟨hi.2.2.1, by simp only [List.length_nil]; omega, by simp only [List.length_nil]; omega, hf⟩)]) [] [3, 4] hcx (by kernel_rfl)

def F36_L (a0 : TyL) (a1 : Int) : List (Int) × TyN :=
 (loopF (S36_L_0 a0 a1) (toNat ((a0.length : Int) - 0) + 1) (([] : List (Int)), 0))

theorem C36_L (a0 : TyL) (a1 : Int) (l0 : a0.length ≤ 9223372036854775807) (hl : a0.length ≤ 96) (hf : 1 ≤ a1) : Con Try.prog 36 [(.s 0 0 a0.length 10), (iv a1)] [(.live false true (flat c81 a0))] (.a [(.s 1 0 (F36_L a0 a1).1.length 1), (.s 2 0 (F36_L a0 a1).2.length 8)]) [(.live true true (flat c3 (F36_L a0 a1).1)), (.live true true (flat c40 (F36_L a0 a1).2))] := by
 refine con_s Try.func36 (by kernel_rfl) fun cx hcx => ?_
 have e := Eq.refl (F36_L a0 a1); conv at e => rhs; simp only [F36_L]
 rw [e]
 refine en [] [.slot 5 1] [0, 1, 4, 5, 6] [1, 2] hcx B36_L_0 (K36_L_0) (st36_L_0 a0 a1 (flat c3 ([] : List (Int))) 0 0) (toNat ((a0.length : Int) - 0) + 1) (by kernel_rfl) ?_
 exact L36_L_0 a0 a1 l0 hl hf hcx (toNat ((a0.length : Int) - 0) + 1) ([] : List (Int)) 0 (by and_intros <;> (try simp only [Lt]) <;> first | omega | assumption | exact hi.2.1 | exact hi.2.2.1 | exact InR.swap hi.2.1 (by omega) (by omega) | exact InR.swap hr (by omega) (by omega) | exact InR.nil _ | exact hi.2.2.1.add (by omega)) (by (try simp only [Ls]); omega)

def F12_L (a0 : TyL) (a1 : Int) : (List (Int) × TyN) × Int :=
 (bif (((F35_L a0) : Int) != 0) then
  ((([] : List (Int)), ([] : TyN)), (F35_L a0))
 else
  (bif (decide ((a1 : Int) < 1)) then
   ((([] : List (Int)), ([] : TyN)), 1)
  else
   (bif (decide ((a1 : Int) > 16)) then
    ((([] : List (Int)), ([] : TyN)), 1)
   else
    (((F36_L a0 a1).1, (F36_L a0 a1).2), 0))))

theorem C12_L (a0 : TyL) (a1 : Int) (l0 : a0.length ≤ 9223372036854775807) : Con Try.prog 12 [(.s 0 0 a0.length 10), (iv a1)] [(.live false true (flat c81 a0))] (.t [(.a [(.s 1 0 (F12_L a0 a1).1.1.length 1), (.s 2 0 (F12_L a0 a1).1.2.length 8)]), (iv (F12_L a0 a1).2)]) [(.live true true (flat c3 (F12_L a0 a1).1.1)), (.live true true (flat c40 (F12_L a0 a1).1.2))] := by
 refine con_s Try.func12 (by kernel_rfl) fun cx hcx => ?_
 let t0 : List (St Try.prog) := [.c [0] (C35_L a0 (by omega))]
 cases h0 : (((F35_L a0) : Int) != 0) with
 | true =>
  have q0 := bne_iff_ne.1 h0
  have e := Eq.refl (F12_L a0 a1); conv at e => rhs; simp only [F12_L, h0, cdb]
  rw [e]
  exact rt (t0 ++ [.d h0]) [.cell 1 0 1, .cell 1 1 8] [2, 3] hcx (by kernel_rfl)
 | false =>
  have q0 := bne_eq_false_iff_eq.1 h0
  let t1 : List (St Try.prog) := (t0 ++ [.d h0])
  cases h1 : (decide ((a1 : Int) < 1)) with
  | true =>
   have q1 := odt h1
   have e := Eq.refl (F12_L a0 a1); conv at e => rhs; simp only [F12_L, h0, h1, cdb]
   rw [e]
   exact rt (t1 ++ [.d h1]) [.cell 1 0 1, .cell 1 1 8] [2, 3] hcx (by kernel_rfl)
  | false =>
   have q1 := odf h1
   let t2 : List (St Try.prog) := (t1 ++ [.d h1])
   cases h2 : (decide ((a1 : Int) > 16)) with
   | true =>
    have q2 := odt h2
    have e := Eq.refl (F12_L a0 a1); conv at e => rhs; simp only [F12_L, h0, h1, h2, cdb]
    rw [e]
    exact rt (t2 ++ [.d h2]) [.cell 1 0 1, .cell 1 1 8] [2, 3] hcx (by kernel_rfl)
   | false =>
    have q2 := odf h2
    have e := Eq.refl (F12_L a0 a1); conv at e => rhs; simp only [F12_L, h0, h1, h2, cdb]
    rw [e]
    exact rt (t2 ++ [.d h2, .c [0] (C36_L a0 a1 (by omega) (vch_lenr (l := a0) (bne_eq_false_iff_eq.1 h0)) (by omega))]) [] [2, 3] hcx (by kernel_rfl)

noncomputable def B27_L_L_0 : Code := (loopAtD [1, 1, 0, 1] [] (bodyOf Try.f27) []).1
noncomputable def K27_L_L_0 : List K := (loopAtD [1, 1, 0, 1] [] (bodyOf Try.f27) []).2

def st27_L_L_0 (a0 : List (Int)) (a1 : List (Int)) (v1 : Int) : LS := ⟨slN 26 [(0, (.s 0 0 a0.length 1)), (1, (.s 1 0 a1.length 1)), (5, (iv v1))], [(.live false true (flat c3 a0)), (.live false true (flat c3 a1))]⟩

def S27_L_L_0 (a0 : List (Int)) (a1 : List (Int)) : Int → (Int) ⊕ (Bool)
 | v1 =>
  (bif (decide ((v1 : Int) < (a0.length : Int))) then
   (bif (((a0.getD (toNat v1) default) : Int) != (a1.getD (toNat v1) default)) then
    (.inr false)
   else
    (.inl (v1 + 1)))
  else
   (.inr true))

theorem L27_L_L_0 (a0 : List (Int)) (a1 : List (Int)) (l0 : a0.length ≤ 9223372036854775807) (l1 : a1.length ≤ 9223372036854775807) {cx : Cx} (hcx : cx.base = 2) : ∀ (n : Nat) (v1 : Int), (0 ≤ v1) ∧ (a0.length = a1.length) → toNat ((a0.length : Int) - v1) < n → Aw.Good Try.prog none 9 (bodyPost Try.prog Try.f27 (RR cx (.v (.bool (loopF (S27_L_L_0 a0 a1) n v1))) [] [])) cx [] (.l B27_L_L_0 n :: K27_L_L_0) (st27_L_L_0 a0 a1 v1) := by
 intro n
 induction n with
 | zero => intro v1 hi hn; exact absurd hn (nlz _)
 | succ n ih =>
   intro v1 hi hn
   refine good_round ?_
   cases h0 : (decide ((v1 : Int) < (a0.length : Int))) with
   | true =>
    have q0 := odt h0
    let t1 : List (St Try.prog) := [.d h0, .i v1 (a0.length), .L c3_len a0 v1 0 1, .i v1 (a1.length), .L c3_len a1 v1 0 1]
    cases h1 : (((a0.getD (toNat v1) default) : Int) != (a1.getD (toNat v1) default)) with
    | true =>
     have q1 := bne_iff_ne.1 h1
     have e := Eq.refl (S27_L_L_0 a0 a1 v1); conv at e => rhs; simp only [S27_L_L_0, h0, h1, cdb]
     rw [loopF_s, e]
     exact rt (t1 ++ [.d h1]) [] [] hcx (by kernel_rfl)
    | false =>
     have q1 := bne_eq_false_iff_eq.1 h1
     have e := Eq.refl (S27_L_L_0 a0 a1 v1); conv at e => rhs; simp only [S27_L_L_0, h0, h1, cdb]
     rw [loopF_inl e]
     refine ba (t1 ++ [.d h1]) [] [0, 1, 5] [] hcx (m := n) B27_L_L_0 (K27_L_L_0) (st27_L_L_0 a0 a1 (W (v1 + 1))) (by kernel_rfl) ?_
     have z0 : (W (v1 + 1)) = (v1 + 1) := W_eq (by omega) (by omega)
     rw [z0]
     exact ih (v1 + 1) (by refine ⟨?_, ?_⟩ <;> (try simp only [Ls]) <;> first | omega | assumption | simp) (by (try simp only [Ls]); omega)
   | false =>
    have q0 := odf h0
    have e := Eq.refl (S27_L_L_0 a0 a1 v1); conv at e => rhs; simp only [S27_L_L_0, h0, cdb]
    rw [loopF_s, e]
    exact rt [.d h0] [] [] hcx (by kernel_rfl)

def F27_L_L (a0 : List (Int)) (a1 : List (Int)) : Bool :=
 (bif (((a0.length : Int) : Int) != (a1.length : Int)) then
  false
 else
  (loopF (S27_L_L_0 a0 a1) (toNat ((a0.length : Int) - 0) + 1) 0))

theorem C27_L_L (a0 : List (Int)) (a1 : List (Int)) (l0 : a0.length ≤ 9223372036854775807) (l1 : a1.length ≤ 9223372036854775807) : Con Try.prog 27 [(.s 0 0 a0.length 1), (.s 1 0 a1.length 1)] [(.live false true (flat c3 a0)), (.live false true (flat c3 a1))] (.v (.bool (F27_L_L a0 a1))) [] := by
 refine con_s Try.func27 (by kernel_rfl) fun cx hcx => ?_
 cases h0 : (((a0.length : Int) : Int) != (a1.length : Int)) with
 | true =>
  have q0 := bne_iff_ne.1 h0
  have e := Eq.refl (F27_L_L a0 a1); conv at e => rhs; simp only [F27_L_L, h0, cdb]
  rw [e]
  exact rt [.d h0] [] [] hcx (by kernel_rfl)
 | false =>
  have q0 := bne_eq_false_iff_eq.1 h0
  have e := Eq.refl (F27_L_L a0 a1); conv at e => rhs; simp only [F27_L_L, h0, cdb]
  rw [e]
  refine en [.d h0] [] [0, 1, 5] [] hcx B27_L_L_0 (K27_L_L_0) (st27_L_L_0 a0 a1 0) (toNat ((a0.length : Int) - 0) + 1) (by kernel_rfl) ?_
  exact L27_L_L_0 a0 a1 l0 l1 hcx (toNat ((a0.length : Int) - 0) + 1) 0 (by refine ⟨?_, ?_⟩ <;> (try simp only [Ls]) <;> first | omega | assumption | simp) (by (try simp only [Ls]); omega)

noncomputable def B13_0 : Code := (loopAtD [1, 1, 0, 1] [] (bodyOf Try.f13) []).1
noncomputable def K13_0 : List K := (loopAtD [1, 1, 0, 1] [] (bodyOf Try.f13) []).2

def st13_0 (a0 : List (Int) × TyN) (a1 : List (Int) × TyN) (v1 : Int) : LS := ⟨slN 39 [(2, (.p 4 0)), (3, (.p 5 0)), (5, (iv v1))], [(.live false true (flat c3 a0.1)), (.live false true (flat c40 a0.2)), (.live false true (flat c3 a1.1)), (.live false true (flat c40 a1.2)), (.live true false [(.s 0 0 a0.1.length 1), (.s 1 0 a0.2.length 8)]), (.live true false [(.s 2 0 a1.1.length 1), (.s 3 0 a1.2.length 8)])]⟩

def S13_0 (a0 : List (Int) × TyN) (a1 : List (Int) × TyN) : Int → (Int) ⊕ (Bool)
 | v1 =>
  (bif (decide ((v1 : Int) < (a0.2.length : Int))) then
   (bif (!((((a0.2.getD (toNat v1) default).1 : Int) == (a1.2.getD (toNat v1) default).1) && ((((a0.2.getD (toNat v1) default).2.1 : Int) == (a1.2.getD (toNat v1) default).2.1) && ((((a0.2.getD (toNat v1) default).2.2.1 : Int) == (a1.2.getD (toNat v1) default).2.2.1) && ((((a0.2.getD (toNat v1) default).2.2.2.1 : Int) == (a1.2.getD (toNat v1) default).2.2.2.1) && (((((a0.2.getD (toNat v1) default).2.2.2.2.1.1 : Int) == (a1.2.getD (toNat v1) default).2.2.2.2.1.1) && ((((a0.2.getD (toNat v1) default).2.2.2.2.1.2.1 : Int) == (a1.2.getD (toNat v1) default).2.2.2.2.1.2.1) && ((((a0.2.getD (toNat v1) default).2.2.2.2.1.2.2 : Int) == (a1.2.getD (toNat v1) default).2.2.2.2.1.2.2) && true))) && ((((a0.2.getD (toNat v1) default).2.2.2.2.2 : Int) == (a1.2.getD (toNat v1) default).2.2.2.2.2) && true))))))) then
    (.inr false)
   else
    (.inl (v1 + 1)))
  else
   (.inr true))

theorem L13_0 (a0 : List (Int) × TyN) (a1 : List (Int) × TyN) (l0_1 : a0.1.length ≤ 9223372036854775807) (l0_2 : a0.2.length ≤ 9223372036854775807) (l1_1 : a1.1.length ≤ 9223372036854775807) (l1_2 : a1.2.length ≤ 9223372036854775807) {cx : Cx} (hcx : cx.base = 4) : ∀ (n : Nat) (v1 : Int), (0 ≤ v1) ∧ (a0.2.length = a1.2.length) → toNat ((a0.2.length : Int) - v1) < n → Aw.Good Try.prog none 9 (bodyPost Try.prog Try.f13 (RR cx (.v (.bool (loopF (S13_0 a0 a1) n v1))) [] [])) cx [] (.l B13_0 n :: K13_0) (st13_0 a0 a1 v1) := by
 intro n
 induction n with
 | zero => intro v1 hi hn; exact absurd hn (nlz _)
 | succ n ih =>
   intro v1 hi hn
   refine good_round ?_
   cases h0 : (decide ((v1 : Int) < (a0.2.length : Int))) with
   | true =>
    have q0 := odt h0
    let t1 : List (St Try.prog) := [.d h0, .i v1 (a0.2.length), .L c40_len a0.2 v1 0 8, .i v1 (a1.2.length), .L c40_len a1.2 v1 0 8]
    cases h1 : (!((((a0.2.getD (toNat v1) default).1 : Int) == (a1.2.getD (toNat v1) default).1) && ((((a0.2.getD (toNat v1) default).2.1 : Int) == (a1.2.getD (toNat v1) default).2.1) && ((((a0.2.getD (toNat v1) default).2.2.1 : Int) == (a1.2.getD (toNat v1) default).2.2.1) && ((((a0.2.getD (toNat v1) default).2.2.2.1 : Int) == (a1.2.getD (toNat v1) default).2.2.2.1) && (((((a0.2.getD (toNat v1) default).2.2.2.2.1.1 : Int) == (a1.2.getD (toNat v1) default).2.2.2.2.1.1) && ((((a0.2.getD (toNat v1) default).2.2.2.2.1.2.1 : Int) == (a1.2.getD (toNat v1) default).2.2.2.2.1.2.1) && ((((a0.2.getD (toNat v1) default).2.2.2.2.1.2.2 : Int) == (a1.2.getD (toNat v1) default).2.2.2.2.1.2.2) && true))) && ((((a0.2.getD (toNat v1) default).2.2.2.2.2 : Int) == (a1.2.getD (toNat v1) default).2.2.2.2.2) && true))))))) with
    | true =>
     have e := Eq.refl (S13_0 a0 a1 v1); conv at e => rhs; simp only [S13_0, h0, h1, cdb]
     rw [loopF_s, e]
     exact rt (t1 ++ [.d h1]) [] [] hcx (by kernel_rfl)
    | false =>
     have e := Eq.refl (S13_0 a0 a1 v1); conv at e => rhs; simp only [S13_0, h0, h1, cdb]
     rw [loopF_inl e]
     refine ba (t1 ++ [.d h1]) [] [2, 3, 5] [4, 5] hcx (m := n) B13_0 (K13_0) (st13_0 a0 a1 (W (v1 + 1))) (by kernel_rfl) ?_
     have z0 : (W (v1 + 1)) = (v1 + 1) := W_eq (by omega) (by omega)
     rw [z0]
     exact ih (v1 + 1) (by refine ⟨?_, ?_⟩ <;> (try simp only [Ls]) <;> first | omega | assumption | simp) (by (try simp only [Ls]); omega)
   | false =>
    have q0 := odf h0
    have e := Eq.refl (S13_0 a0 a1 v1); conv at e => rhs; simp only [S13_0, h0, cdb]
    rw [loopF_s, e]
    exact rt [.d h0] [] [] hcx (by kernel_rfl)

def F13 (a0 : List (Int) × TyN) (a1 : List (Int) × TyN) : Bool :=
 (bif (!(F27_L_L a0.1 a1.1)) then
  false
 else
  (bif (((a0.2.length : Int) : Int) != (a1.2.length : Int)) then
   false
  else
   (loopF (S13_0 a0 a1) (toNat ((a0.2.length : Int) - 0) + 1) 0)))

theorem C13 (a0 : List (Int) × TyN) (a1 : List (Int) × TyN) (l0_1 : a0.1.length ≤ 9223372036854775807) (l0_2 : a0.2.length ≤ 9223372036854775807) (l1_1 : a1.1.length ≤ 9223372036854775807) (l1_2 : a1.2.length ≤ 9223372036854775807) : Con Try.prog 13 [(.a [(.s 0 0 a0.1.length 1), (.s 1 0 a0.2.length 8)]), (.a [(.s 2 0 a1.1.length 1), (.s 3 0 a1.2.length 8)])] [(.live false true (flat c3 a0.1)), (.live false true (flat c40 a0.2)), (.live false true (flat c3 a1.1)), (.live false true (flat c40 a1.2))] (.v (.bool (F13 a0 a1))) [] := by
 refine con_s Try.func13 (by kernel_rfl) fun cx hcx => ?_
 let t0 : List (St Try.prog) := [.c [0, 2] (C27_L_L a0.1 a1.1 (by omega) (by omega))]
 cases h0 : (!(F27_L_L a0.1 a1.1)) with
 | true =>
  have e := Eq.refl (F13 a0 a1); conv at e => rhs; simp only [F13, h0, cdb]
  rw [e]
  exact rt (t0 ++ [.d h0]) [] [] hcx (by kernel_rfl)
 | false =>
  let t1 : List (St Try.prog) := (t0 ++ [.d h0])
  cases h1 : (((a0.2.length : Int) : Int) != (a1.2.length : Int)) with
  | true =>
   have q1 := bne_iff_ne.1 h1
   have e := Eq.refl (F13 a0 a1); conv at e => rhs; simp only [F13, h0, h1, cdb]
   rw [e]
   exact rt (t1 ++ [.d h1]) [] [] hcx (by kernel_rfl)
  | false =>
   have q1 := bne_eq_false_iff_eq.1 h1
   have e := Eq.refl (F13 a0 a1); conv at e => rhs; simp only [F13, h0, h1, cdb]
   rw [e]
   refine en (t1 ++ [.d h1]) [] [2, 3, 5] [4, 5] hcx B13_0 (K13_0) (st13_0 a0 a1 0) (toNat ((a0.2.length : Int) - 0) + 1) (by kernel_rfl) ?_
   exact L13_0 a0 a1 l0_1 l0_2 l1_1 l1_2 hcx (toNat ((a0.2.length : Int) - 0) + 1) 0 (by refine ⟨?_, ?_⟩ <;> (try simp only [Ls]) <;> first | omega | assumption | simp) (by (try simp only [Ls]); omega)


def VCH (l : LCH) : Prop := l.length ≤ 96 ∧ ∀ i, i < l.length → vp (l.getD i default).1 = 0 ∧ (-100 ≤ (l.getD i default).2 ∧ (l.getD i default).2 ≤ 100)
theorem vch_loop {l : LCH} : ∀ (d i n : Nat), d = l.length - i → i ≤ l.length → d < n → loopF (S32_L_0 l) n (i : Int) = 0 → ∀ j, i ≤ j → j < l.length → vp (l.getD j default).1 = 0 ∧ (-100 ≤ (l.getD j default).2 ∧ (l.getD j default).2 ≤ 100)
 | 0, i, n, hd, hi, hn, _, j, h1, h2 => absurd h2 (by omega)
 | d + 1, i, n, hd, hi, hn, h, j, h1, h2 => by
   obtain ⟨n, rfl⟩ : ∃ m, n = m + 1 := ⟨n - 1, by omega⟩
   have e : S32_L_0 l (i : Int) = bif (((F55 (l.getD i default).1) : Int) != 0) then .inr (F55 (l.getD i default).1) else bif (!(F56 (l.getD i default).2 (-100) 100)) then .inr 1 else .inl ((i + 1 : Nat) : Int) := by
     simp only [S32_L_0, itn]
     rw [dqt (show ((i : Nat) : Int) < (l.length : Int) by omega), cond_true]; rfl
   cases hv : (((F55 (l.getD i default).1) : Int) != 0) with
   | true =>
     rw [hv, cond_true] at e
     rw [loopF_inr e] at h
     rw [h] at hv; exact absurd hv (by decide)
   | false =>
     rw [hv, cond_false] at e
     cases hw : (!(F56 (l.getD i default).2 (-100) 100)) with
     | true =>
       rw [hw, cond_true] at e
       rw [loopF_inr e] at h
       exact absurd h (by decide)
     | false =>
       rw [hw, cond_false] at e
       rw [loopF_inl e] at h
       by_cases hj : j = i
       · subst hj
         refine ⟨?_, ?_⟩
         · rw [← vp_s]; exact bne_eq_false_iff_eq.1 hv
         · simp only [F56, Bool.not_eq_false'] at hw
           by_cases h3 : (l.getD j default).2 ≥ -100
           · rw [dqt h3, cond_true] at hw; exact ⟨h3, odt hw⟩
           · rw [dqf h3, cond_false] at hw; cases hw
       · exact vch_loop d (i + 1) n (by omega) (by omega) (by omega) h j (by omega) h2
theorem vch_ok {l : LCH} (h : F32_L l = 0) : VCH l := by
 refine ⟨vch_len h, fun i hi => ?_⟩
 have hl := vch_len h
 unfold F32_L at h
 rw [dqf (show ¬ (l.length : Int) > 96 by omega), cond_false] at h
 exact vch_loop l.length 0 _ (by omega) (by omega) (by omega) h i (Nat.zero_le _) hi
theorem vch_bd {l : LCH} (h : VCH l) {i : Nat} (hi : i < l.length) : bdP 64 (l.getD i default).1 := (vp_ok (h.2 i hi).1).1
section
variable {l : LCH} {ns : List Int}
theorem mem_getD {i : Nat} (hi : i < ns.length) : (F72_L_L l ns).getD i default = l.getD (toNat (ns.getD i default)) default := by
 rw [mem_eq]; simp [gdq, hi]
theorem cen_loop (hl : ns.length ≤ 1048576) : ∀ (n i : Nat) (a1 a2 a3 b1 b2 b3 : Int), ns.length - i < n →
   loopF (S73_L_0 (F72_L_L l ns)) n ((i : Int), a1, a2, a3, b1, b2, b3) =
     (loopF (S80_L_L_0 l ns 0) n (a1, b1, (i : Int)), loopF (S80_L_L_0 l ns 1) n (a2, b2, (i : Int)), loopF (S80_L_L_0 l ns 2) n (a3, b3, (i : Int)))
 | 0, _, _, _, _, _, _, _, h => absurd h (nlz _)
 | n + 1, i, a1, a2, a3, b1, b2, b3, h => by
   have hm : (F72_L_L l ns).length = ns.length := mem_len l ns
   by_cases h1 : i < ns.length
   · have hg := mem_getD (l := l) h1
     have e : S73_L_0 (F72_L_L l ns) ((i : Int), a1, a2, a3, b1, b2, b3) = .inl (((i + 1 : Nat) : Int), imn (imn (imn a1 (l.getD (toNat (ns.getD i default)) default).1.1.1) (l.getD (toNat (ns.getD i default)) default).1.2.1.1) (l.getD (toNat (ns.getD i default)) default).1.2.2.1, imn (imn (imn a2 (l.getD (toNat (ns.getD i default)) default).1.1.2.1) (l.getD (toNat (ns.getD i default)) default).1.2.1.2.1) (l.getD (toNat (ns.getD i default)) default).1.2.2.2.1, imn (imn (imn a3 (l.getD (toNat (ns.getD i default)) default).1.1.2.2) (l.getD (toNat (ns.getD i default)) default).1.2.1.2.2) (l.getD (toNat (ns.getD i default)) default).1.2.2.2.2,
         imx (imx (imx b1 (l.getD (toNat (ns.getD i default)) default).1.1.1) (l.getD (toNat (ns.getD i default)) default).1.2.1.1) (l.getD (toNat (ns.getD i default)) default).1.2.2.1, imx (imx (imx b2 (l.getD (toNat (ns.getD i default)) default).1.1.2.1) (l.getD (toNat (ns.getD i default)) default).1.2.1.2.1) (l.getD (toNat (ns.getD i default)) default).1.2.2.2.1, imx (imx (imx b3 (l.getD (toNat (ns.getD i default)) default).1.1.2.2) (l.getD (toNat (ns.getD i default)) default).1.2.1.2.2) (l.getD (toNat (ns.getD i default)) default).1.2.2.2.2) := by
       simp only [S73_L_0, itn, hg, hm]
       rw [dqt (by omega), cond_true]; rfl
     have r : ∀ k a b, S80_L_L_0 l ns k (a, b, (i : Int)) = .inl (imn (imn (imn a (F101 (l.getD (toNat (ns.getD i default)) default).1.1 k)) (F101 (l.getD (toNat (ns.getD i default)) default).1.2.1 k)) (F101 (l.getD (toNat (ns.getD i default)) default).1.2.2 k),
         imx (imx (imx b (F101 (l.getD (toNat (ns.getD i default)) default).1.1 k)) (F101 (l.getD (toNat (ns.getD i default)) default).1.2.1 k)) (F101 (l.getD (toNat (ns.getD i default)) default).1.2.2 k), ((i + 1 : Nat) : Int)) := fun k a b => by
       simp only [S80_L_L_0, itn]
       rw [dqt (by omega), cond_true]; rfl
     rw [loopF_inl e, loopF_inl (r 0 a1 b1), loopF_inl (r 1 a2 b2), loopF_inl (r 2 a3 b3)]
     exact cen_loop hl n (i + 1) _ _ _ _ _ _ (by omega)
   · have e : S73_L_0 (F72_L_L l ns) ((i : Int), a1, a2, a3, b1, b2, b3) = .inr (F102 a1 b1, F102 a2 b2, F102 a3 b3) := by
       simp only [S73_L_0, hm]
       rw [dqf (by omega), cond_false]; rfl
     have r : ∀ k a b, S80_L_L_0 l ns k (a, b, (i : Int)) = .inr (F102 a b) := fun k a b => by
       simp only [S80_L_L_0]
       rw [dqf (by omega), cond_false]
     rw [loopF_inr e, loopF_inr (r 0 a1 b1), loopF_inr (r 1 a2 b2), loopF_inr (r 2 a3 b3)]
theorem cen_eq (hv : VCH l) (hi : InR l.length ns) (h1 : 1 ≤ ns.length) (hl : ns.length ≤ 1048576) : F73_L (F72_L_L l ns) = (F80_L_L l ns 0, F80_L_L l ns 1, F80_L_L l ns 2) := by
 have hm : (F72_L_L l ns).length = ns.length := mem_len l ns
 have hg := mem_getD (l := l) (ns := ns) (i := 0) (by omega)
 have h0 := hi.at (i := 0) (by omega)
 have hb := vch_bd hv (i := toNat (ns.getD 0 default)) (by omega)
 unfold F73_L F80_L_L
 rw [hm, show (toNat 0) = 0 from rfl, hg]
 obtain ⟨n, hn⟩ : ∃ n, toNat ((ns.length : Int) - 0) + 1 = n + 1 := ⟨_, rfl⟩
 rw [hn]
 have hnn : ns.length ≤ n := by omega
 generalize hp : l.getD (toNat (ns.getD 0 default)) default = p at hb hg ⊢
 -- the first round
 have e : S73_L_0 (F72_L_L l ns) (0, p.1.1.1, p.1.1.2.1, p.1.1.2.2, p.1.1.1, p.1.1.2.1, p.1.1.2.2) = .inl (((1 : Nat) : Int), imn (imn (imn p.1.1.1 p.1.1.1) p.1.2.1.1) p.1.2.2.1, imn (imn (imn p.1.1.2.1 p.1.1.2.1) p.1.2.1.2.1) p.1.2.2.2.1, imn (imn (imn p.1.1.2.2 p.1.1.2.2) p.1.2.1.2.2) p.1.2.2.2.2,
     imx (imx (imx p.1.1.1 p.1.1.1) p.1.2.1.1) p.1.2.2.1, imx (imx (imx p.1.1.2.1 p.1.1.2.1) p.1.2.1.2.1) p.1.2.2.2.1, imx (imx (imx p.1.1.2.2 p.1.1.2.2) p.1.2.1.2.2) p.1.2.2.2.2) := by
   simp only [S73_L_0, show (toNat 0) = 0 from rfl, hg, hm]
   rw [dqt (by omega), cond_true]; rfl
 have r : ∀ k, S80_L_L_0 l ns k (64, (-64), 0) = .inl (imn (imn (imn 64 (F101 p.1.1 k)) (F101 p.1.2.1 k)) (F101 p.1.2.2 k),
     imx (imx (imx (-64) (F101 p.1.1 k)) (F101 p.1.2.1 k)) (F101 p.1.2.2 k), ((1 : Nat) : Int)) := fun k => by
   simp only [S80_L_L_0, show (toNat 0) = 0 from rfl, hp]
   rw [dqt (by omega), cond_true]; rfl
 have m1 : ∀ x y z : Int, (-64 ≤ x ∧ x ≤ 64) → imn (imn (imn 64 x) y) z = imn (imn (imn x x) y) z := fun x y z hx => by
   congr 2; unfold imn; split <;> split <;> omega
 have m2 : ∀ x y z : Int, (-64 ≤ x ∧ x ≤ 64) → imx (imx (imx (-64) x) y) z = imx (imx (imx x x) y) z := fun x y z hx => by
   congr 2; unfold imx; split <;> split <;> omega
 obtain ⟨⟨hx, hy, hz⟩, _⟩ := hb
 rw [loopF_inl e, loopF_inl (r 0), loopF_inl (r 1), loopF_inl (r 2), cen_loop hl n 1 _ _ _ _ _ _ (by omega)]
 rw [m1 _ _ _ (show -64 ≤ F101 p.1.1 0 ∧ F101 p.1.1 0 ≤ 64 from hx), m2 _ _ _ (show -64 ≤ F101 p.1.1 0 ∧ F101 p.1.1 0 ≤ 64 from hx),
   m1 _ _ _ (show -64 ≤ F101 p.1.1 1 ∧ F101 p.1.1 1 ≤ 64 from hy), m2 _ _ _ (show -64 ≤ F101 p.1.1 1 ∧ F101 p.1.1 1 ≤ 64 from hy),
   m1 _ _ _ (show -64 ≤ F101 p.1.1 2 ∧ F101 p.1.1 2 ≤ 64 from hz), m2 _ _ _ (show -64 ≤ F101 p.1.1 2 ∧ F101 p.1.1 2 ≤ 64 from hz)]
 rfl
theorem cen_rng (hv : VCH l) (hi : InR l.length ns) (k : Int) : ∀ (n i : Nat) (a b : Int), ns.length - i < n → (-64 ≤ a ∧ a ≤ 64) → (-64 ≤ b ∧ b ≤ 64) → -64 ≤ loopF (S80_L_L_0 l ns k) n (a, b, (i : Int)) ∧ loopF (S80_L_L_0 l ns k) n (a, b, (i : Int)) ≤ 64
 | 0, _, _, _, h, _, _ => absurd h (nlz _)
 | n + 1, i, a, b, h, ha, hb => by
   by_cases h1 : i < ns.length
   · have h0 := hi.at h1
     have hp := vch_bd hv (i := toNat (ns.getD i default)) (by omega)
     have r : S80_L_L_0 l ns k (a, b, (i : Int)) = .inl (imn (imn (imn a (F101 (l.getD (toNat (ns.getD i default)) default).1.1 k)) (F101 (l.getD (toNat (ns.getD i default)) default).1.2.1 k)) (F101 (l.getD (toNat (ns.getD i default)) default).1.2.2 k),
         imx (imx (imx b (F101 (l.getD (toNat (ns.getD i default)) default).1.1 k)) (F101 (l.getD (toNat (ns.getD i default)) default).1.2.1 k)) (F101 (l.getD (toNat (ns.getD i default)) default).1.2.2 k), ((i + 1 : Nat) : Int)) := by
       simp only [S80_L_L_0, itn]
       rw [dqt (by omega), cond_true]; rfl
     rw [loopF_inl r]
     have ax : ∀ p : Int × Int × Int, bd 64 p → -64 ≤ F101 p k ∧ F101 p k ≤ 64 := fun p hp => by
       unfold F101
       rw [Bool.cond_eq_ite]
       split
       · exact hp.1
       · rw [Bool.cond_eq_ite]
         split
         · exact hp.2.1
         · exact hp.2.2
     have qa1 := ax _ hp.1; have qa2 := ax _ hp.2.1; have qa3 := ax _ hp.2.2
     have mn : ∀ x y : Int, (-64 ≤ x ∧ x ≤ 64) → (-64 ≤ y ∧ y ≤ 64) → -64 ≤ imn x y ∧ imn x y ≤ 64 := fun x y hx hy => by unfold imn; split <;> assumption
     have mx : ∀ x y : Int, (-64 ≤ x ∧ x ≤ 64) → (-64 ≤ y ∧ y ≤ 64) → -64 ≤ imx x y ∧ imx x y ≤ 64 := fun x y hx hy => by unfold imx; split <;> assumption
     exact cen_rng hv hi k n (i + 1) _ _ (by omega) (mn _ _ (mn _ _ (mn _ _ ha qa1) qa2) qa3) (mx _ _ (mx _ _ (mx _ _ hb qa1) qa2) qa3)
   · have r : S80_L_L_0 l ns k (a, b, (i : Int)) = .inr (F102 a b) := by
       simp only [S80_L_L_0]
       rw [dqf (by omega), cond_false]
     rw [loopF_inr r]
     unfold F102
     rw [W_eq (by omega) (by omega), show (2 : Int) ^ (min (toNat 1) 64) = 2 from by decide, Int.fdiv_eq_ediv_of_nonneg _ (by decide)]
     omega
theorem cen_bd (hv : VCH l) (hi : InR l.length ns) (k : Int) : -64 ≤ F80_L_L l ns k ∧ F80_L_L l ns k ≤ 64 :=
 cen_rng hv hi k _ 0 64 (-64) (by omega) (by omega) (by omega)
theorem rad_eq (m : LCH) {c : Int × Int × Int} (hc : bd 64 c) : F74_L m c = F81_L m c := by
 obtain ⟨h1, h2, h3⟩ := hc
 have hW : W (0 - 64) = -64 := by decide
 have e1 : F106 c 64 = true := by
   unfold F106 F118
   rw [hW, dqt h1.1, dqt h1.2, dqt h2.1, dqt h2.2, dqt h3.1, dqt h3.2]; rfl
 have sz : ∀ x : Int, (-64 ≤ x ∧ x ≤ 64) → F63 x ≤ 64 := fun x hx => by
   unfold F63
   rw [W_eq (n := 0 - x) (by omega) (by omega)]
   split <;> omega
 have e2 : F44 c 64 = true := by
   unfold F44
   rw [hW, dqt (sz _ h1), dqt (sz _ h2), dqt (sz _ h3), dqt (show c.1 ≥ -64 from h1.1), dqt (show c.2.1 ≥ -64 from h2.1), dqt (show c.2.2 ≥ -64 from h3.1)]; rfl
 have e3 : F90_L m c = F103_L m c := by
   unfold F90_L F103_L
   rw [vch_eq, e1, e2]
 have e4 : S74_L_0 m c = S81_L_0 m c := by
   funext ⟨v1, v2⟩
   rfl
 unfold F74_L F81_L
 rw [e3, e4]
def inrB (b : BU) : (Int × Int × Int) ⊕ Int → (Int × Int × Int) ⊕ (BU × Int)
 | .inl s => .inl s
 | .inr x => .inr (b, x)
theorem wid1_eq {b : BU} (hb : b.1 = l) {k : Int} : ∀ (n i : Nat) (v15 v16 lo hi : Int), ns.length - i < n →
   loopF (S76_L_1 b ns) n (v15, v16, k, lo, hi, k, (i : Int)) = inrB b (loopF (S84_L_L_1 l ns) n (v15, v16, k, lo, hi, (i : Int)))
 | 0, _, _, _, _, _, h => absurd h (nlz _)
 | n + 1, i, v15, v16, lo, hi, h => by
   have hk : ∀ x : Int, F95 (b.1, b.2.1, (b.2.2.1, b.2.2.2)) x k = F104 (l.getD (toNat x) default) k := fun x => by
     rw [key_eq, ← hb]; rfl
   by_cases h1 : i < ns.length
   · have e : S76_L_1 b ns (v15, v16, k, lo, hi, k, (i : Int)) = .inl (v15, v16, k, imn lo (F104 (l.getD (toNat (ns.getD i default)) default) k), imx hi (F104 (l.getD (toNat (ns.getD i default)) default) k), k, ((i + 1 : Nat) : Int)) := by
       simp only [S76_L_1, hk, itn]
       rw [dqt (by omega), cond_true]; rfl
     have r : S84_L_L_1 l ns (v15, v16, k, lo, hi, (i : Int)) = .inl (v15, v16, k, imn lo (F104 (l.getD (toNat (ns.getD i default)) default) k), imx hi (F104 (l.getD (toNat (ns.getD i default)) default) k), ((i + 1 : Nat) : Int)) := by
       simp only [S84_L_L_1, itn]
       rw [dqt (by omega), cond_true]; rfl
     rw [loopF_inl e, loopF_inl r]
     exact wid1_eq hb n (i + 1) _ _ _ _ (by omega)
   · have e : S76_L_1 b ns (v15, v16, k, lo, hi, k, (i : Int)) = .inr (inrB b (bif (decide (((W (hi - lo)) : Int) > v16)) then .inl (k, (W (hi - lo)), k + 1) else .inl (v15, v16, k + 1))) := by
       simp only [S76_L_1]
       rw [dqf (by omega), cond_false]
       cases decide (((W (hi - lo)) : Int) > v16) <;> rfl
     have r : S84_L_L_1 l ns (v15, v16, k, lo, hi, (i : Int)) = .inr (bif (decide (((W (hi - lo)) : Int) > v16)) then .inl (k, (W (hi - lo)), k + 1) else .inl (v15, v16, k + 1)) := by
       simp only [S84_L_L_1]
       rw [dqf (by omega), cond_false]
       cases decide (((W (hi - lo)) : Int) > v16) <;> rfl
     rw [loopF_inr e, loopF_inr r]
theorem wid0_eq {b : BU} (hb : b.1 = l) (h1 : 1 ≤ ns.length) : ∀ (n : Nat) (v12 v13 k : Int), toNat (3 - k) < n →
   loopF (S76_L_0 b ns) n (v12, v13, k) = (b, loopF (S84_L_L_0 l ns) n (v12, v13, k))
 | 0, _, _, _, h => absurd h (nlz _)
 | n + 1, v12, v13, k, h => by
   have hk : ∀ x : Int, F95 (b.1, b.2.1, (b.2.2.1, b.2.2.2)) x k = F104 (l.getD (toNat x) default) k := fun x => by
     rw [key_eq, ← hb]; rfl
   by_cases h3 : k < 3
   · generalize hK : F104 (l.getD (toNat (ns.getD (toNat 0) default)) default) k = K
     have e0 : S76_L_0 b ns (v12, v13, k) = loopF (S76_L_1 b ns) (toNat ((ns.length : Int) - 0) + 1) (v12, v13, k, K, K, k, ((0 : Nat) : Int)) := by
       simp only [S76_L_0, hk, hK]
       rw [dqt h3, cond_true]; rfl
     have r0 : S84_L_L_0 l ns (v12, v13, k) = loopF (S84_L_L_1 l ns) (toNat ((ns.length : Int) - 1) + 1) (v12, v13, k, K, K, ((1 : Nat) : Int)) := by
       simp only [S84_L_L_0, hK]
       rw [dqt h3, cond_true]; rfl
     have f0 : toNat ((ns.length : Int) - 0) + 1 = (toNat ((ns.length : Int) - 1) + 1) + 1 := by omega
     have e1 : S76_L_1 b ns (v12, v13, k, K, K, k, ((0 : Nat) : Int)) = .inl (v12, v13, k, K, K, k, ((1 : Nat) : Int)) := by
       simp only [S76_L_1, hk, itn]
       rw [show (toNat 0) = 0 from rfl] at hK
       rw [dqt (by omega), cond_true, hK, if_neg (by omega)]; rfl
     rw [f0, loopF_inl e1, wid1_eq hb _ 1 _ _ _ _ (by omega), ← r0] at e0
     -- what a round brings
     have hr : ∃ x y, S84_L_L_0 l ns (v12, v13, k) = .inl (x, y, k + 1) := by
       rw [r0]
       have gen : ∀ (m i : Nat) (lo hi : Int), ns.length - i < m → ∃ x y, loopF (S84_L_L_1 l ns) m (v12, v13, k, lo, hi, (i : Int)) = .inl (x, y, k + 1) := by
         intro m
         induction m with
         | zero => intro _ _ _ h; exact absurd h (nlz _)
         | succ m ih =>
           intro i lo hi hm
           by_cases hi1 : i < ns.length
           · have r : S84_L_L_1 l ns (v12, v13, k, lo, hi, (i : Int)) = .inl (v12, v13, k, imn lo (F104 (l.getD (toNat (ns.getD i default)) default) k), imx hi (F104 (l.getD (toNat (ns.getD i default)) default) k), ((i + 1 : Nat) : Int)) := by
               simp only [S84_L_L_1, itn]
               rw [dqt (by omega), cond_true]; rfl
             rw [loopF_inl r]
             exact ih (i + 1) _ _ (by omega)
           · have r : S84_L_L_1 l ns (v12, v13, k, lo, hi, (i : Int)) = .inr (bif (decide (((W (hi - lo)) : Int) > v13)) then .inl (k, (W (hi - lo)), k + 1) else .inl (v12, v13, k + 1)) := by
               simp only [S84_L_L_1]
               rw [dqf (by omega), cond_false]
               cases decide (((W (hi - lo)) : Int) > v13) <;> rfl
             rw [loopF_inr r]
             cases decide (((W (hi - lo)) : Int) > v13)
             · exact ⟨_, _, rfl⟩
             · exact ⟨_, _, rfl⟩
       exact gen _ 1 K K (by omega)
     obtain ⟨x, y, hr⟩ := hr
     rw [hr] at e0
     rw [loopF_inl (show _ = Sum.inl (x, y, k + 1) from e0), loopF_inl hr]
     exact wid0_eq hb h1 n _ _ (k + 1) (by omega)
   · have e : S76_L_0 b ns (v12, v13, k) = .inr (b, v12) := by
       simp only [S76_L_0]
       rw [dqf h3, cond_false]
     have r : S84_L_L_0 l ns (v12, v13, k) = .inr v12 := by
       simp only [S84_L_L_0]
       rw [dqf h3, cond_false]
     rw [loopF_inr e, loopF_inr r]
theorem wid_eq {b : BU} (hb : b.1 = l) (h1 : 1 ≤ ns.length) : F76_L b ns = (b, F84_L_L l ns) :=
 wid0_eq hb h1 _ _ _ _ (by omega)
end

end Go.Proofs.Ytnbpiejjeeomkaa

namespace Go.Proofs.Ytnbpiejjeeomkaa
open Go.Proofs Go.Aw Go.RowKit
set_option maxRecDepth 100000

abbrev NDE := Int × Int × Int × Int × (Int × Int × Int) × Int
def cenR (l : LCH) (ns : List Int) : Int × Int × Int := (F80_L_L l ns 0, F80_L_L l ns 1, F80_L_L l ns 2)
def ndR (l : LCH) (ns : List Int) (fr lt rt : Int) : NDE := (fr, fr + ns.length, lt, rt, cenR l ns, (F81_L (F82_L_L l ns) (cenR l ns)).1)
def GT (l : LCH) (leaf : Int) : Nat → List Int → Int → Int → List Int × List NDE
 | 0, _, _, _ => ([], [])
 | n + 1, ns, fr, at_ =>
   if (ns.length : Int) ≤ leaf then (ns, [ndR l ns fr (-1) (-1)]) else
     let s := srt l (F84_L_L l ns) ns
     let h := (ns.length + 1) / 2
     let a := GT l leaf n (s.take h) fr (at_ + 1)
     let b := GT l leaf n (s.drop h) (fr + h) (at_ + 1 + a.2.length)
     (a.1 ++ b.1, ndR l ns fr (at_ + 1) (at_ + 1 + a.2.length) :: (a.2 ++ b.2))
theorem GT_leaf {l : LCH} {leaf : Int} {n : Nat} {ns : List Int} {fr a : Int} (h : (ns.length : Int) ≤ leaf) : GT l leaf (n + 1) ns fr a = (ns, [ndR l ns fr (-1) (-1)]) := by
 rw [GT, if_pos h]
theorem GT_node {l : LCH} {leaf : Int} {n : Nat} {ns : List Int} {fr a : Int} (h : ¬ (ns.length : Int) ≤ leaf) : GT l leaf (n + 1) ns fr a =
   ((GT l leaf n ((srt l (F84_L_L l ns) ns).take ((ns.length + 1) / 2)) fr (a + 1)).1 ++ (GT l leaf n ((srt l (F84_L_L l ns) ns).drop ((ns.length + 1) / 2)) (fr + ((ns.length + 1) / 2 : Nat)) (a + 1 + (GT l leaf n ((srt l (F84_L_L l ns) ns).take ((ns.length + 1) / 2)) fr (a + 1)).2.length)).1,
     ndR l ns fr (a + 1) (a + 1 + (GT l leaf n ((srt l (F84_L_L l ns) ns).take ((ns.length + 1) / 2)) fr (a + 1)).2.length) :: ((GT l leaf n ((srt l (F84_L_L l ns) ns).take ((ns.length + 1) / 2)) fr (a + 1)).2 ++ (GT l leaf n ((srt l (F84_L_L l ns) ns).drop ((ns.length + 1) / 2)) (fr + ((ns.length + 1) / 2 : Nat)) (a + 1 + (GT l leaf n ((srt l (F84_L_L l ns) ns).take ((ns.length + 1) / 2)) fr (a + 1)).2.length)).2)) := by
 rw [GT, if_neg h]
theorem set_md {α : Type} (pre post : List α) (x y : α) : (pre ++ x :: post).set pre.length y = pre ++ y :: post := by
 rw [List.set_append_right _ _ (Nat.le_refl _), Nat.sub_self]; rfl
theorem getD_md {α : Type} [Inhabited α] (pre post : List α) (x : α) : (pre ++ x :: post).getD pre.length default = x := by
 rw [gdq, List.getElem?_append_right (Nat.le_refl _), Nat.sub_self]; rfl
theorem part0 {s : List Int} {h : Nat} : Aw.part s 0 (h : Int) = s.take h := by unfold Aw.part; simp
theorem part1 {s : List Int} {h : Nat} : Aw.part s (h : Int) (s.length : Int) = s.drop h := by
 unfold Aw.part
 rw [itn, itn]
 exact List.take_of_length_le (by rw [List.length_drop]; exact Nat.le_refl _)
theorem grow_GT : ∀ (nr : Nat) (l : LCH) (t : TR) (ns : List Int) (leaf : Int), PGRW l t ns leaf → ns.length < nr →
   R60_L_z00_L nr l t ns leaf = (t.1 ++ (GT l leaf nr ns t.1.length t.2.length).1, t.2 ++ (GT l leaf nr ns t.1.length t.2.length).2)
 | 0, _, _, _, _, _, h => absurd h (nlz _)
 | nr + 1, l, t, ns, leaf, hp, hn => by
   have h := hp.rng; have hl := hp.lf; have hnd := hp.nds
   simp only [R60_L_z00_L]
   have hW : W ((t.1.length : Int) + (ns.length : Int)) = (t.1.length : Int) + ns.length := W_eq (by omega) (by omega)
   by_cases h0 : (ns.length : Int) ≤ leaf
   · rw [dqt h0, cond_true, GT_leaf h0, hW]
     rfl
   · rw [dqf h0, cond_false, GT_node h0]
     have g2 : 2 ≤ ns.length := by omega
     have hs := grw_s hp (F84_L_L l ns)
     have hf := hf_eq (n := ns.length) (by omega)
     have hso := rso_eq (l := l) (k := F84_L_L l ns) (ns := ns) (by omega)
     have hsl := srt_len l (F84_L_L l ns) ns
     have hpt1 := part_len (l := F83_L_L l ns (F84_L_L l ns)) (a := 0) (b := (((ns.length + 1) / 2 : Nat) : Int)) (by omega)
     have hpt2 := part_len (l := F83_L_L l ns (F84_L_L l ns)) (a := (((ns.length + 1) / 2 : Nat) : Int)) (b := (ns.length : Int)) (by omega)
     have h5 : GRR _ (A60_L_z00_L_2 (R60_L_z00_L nr) l t ns leaf) _ := grw_inv nr _ _ _ _ (pgrw1 hp _ g2) (by rw [hs.1, hf, hpt1]; omega)
     have h5o := h5.ol
     rw [hs.1, hf, hpt1] at h5o
     dsimp only at h5o
     have e2 : A60_L_z00_L_2 (R60_L_z00_L nr) l t ns leaf = _ := grow_GT nr _ _ _ _ (pgrw1 hp _ g2) (by rw [hs.1, hf, hpt1]; omega)
     have e3 : A60_L_z00_L_3 (R60_L_z00_L nr) l t ns leaf = _ := grow_GT nr _ _ _ _ (pgrw2 hp _ g2 h5) (by rw [hs.1, hf, hpt2]; omega)
     have hf' : W (Int.tdiv (W ((((srt l (F84_L_L l ns) ns).length : Nat) : Int) + 1)) 2) = (((ns.length + 1) / 2 : Nat) : Int) := by rw [hsl]; exact hf
     rw [hso, hf', part0] at e2
     rw [hso, hf', part1] at e3
     rw [e2] at h5o e3
     simp only [List.length_append, List.length_cons, List.length_nil, Nat.zero_add, Int.natCast_add, Int.natCast_one] at e2 e3 h5o
     have ho1 : (GT l leaf nr ((srt l (F84_L_L l ns) ns).take ((ns.length + 1) / 2)) t.1.length (t.2.length + 1)).1.length = (ns.length + 1) / 2 := by omega
     rw [ho1] at e3
     rw [e3, e2]
     simp only [itn, List.append_assoc, List.cons_append, List.nil_append, set_md, getD_md, hW, List.length_append, List.length_cons, Int.natCast_add, Int.natCast_one]
     rw [show (t.2.length : Int) + ((GT l leaf nr ((srt l (F84_L_L l ns) ns).take ((ns.length + 1) / 2)) t.1.length (t.2.length + 1)).2.length + 1) = t.2.length + 1 + (GT l leaf nr ((srt l (F84_L_L l ns) ns).take ((ns.length + 1) / 2)) t.1.length (t.2.length + 1)).2.length by omega]
     rfl


theorem GT_len (l : LCH) {leaf : Int} (hl : 1 ≤ leaf) : ∀ (n : Nat) (ns : List Int) (fr a : Int), ns.length < n → (GT l leaf n ns fr a).1.length = ns.length
 | 0, _, _, _, h => absurd h (nlz _)
 | n + 1, ns, fr, a, h => by
   by_cases h0 : (ns.length : Int) ≤ leaf
   · rw [GT_leaf h0]
   · rw [GT_node h0]
     have hsl := srt_len l (F84_L_L l ns) ns
     simp only [List.length_append]
     rw [GT_len l hl n _ _ _ (by rw [List.length_take, hsl]; omega), GT_len l hl n _ _ _ (by rw [List.length_drop, hsl]; omega), List.length_take, List.length_drop, hsl]
     omega
theorem part_at (pre s post : List Int) {i k : Int} (h : Nat) (hi : i = pre.length) (hk : k = i + h) (hh : h ≤ s.length) : Aw.part (pre ++ (s ++ post)) i k = s.take h := by
 unfold Aw.part
 rw [hk, hi, show ((pre.length : Int) + (h : Int)).toNat = pre.length + h by omega, itn, List.drop_append_of_le_length (Nat.le_refl _), List.drop_length, List.nil_append, show pre.length + h - pre.length = h by omega, List.take_append_of_le_length hh]
theorem add_GT : ∀ (nr : Nat) (b : BU) (i k : Int), PADD b i k → VCH b.1 → toNat (k - i) < nr →
   R57 nr b i k = ((b.2.2.2.length : Int), b.1, b.2.1, b.2.2.1.take i.toNat ++ ((GT b.1 b.2.1 nr (Aw.part b.2.2.1 i k) i b.2.2.2.length).1 ++ b.2.2.1.drop k.toNat), b.2.2.2 ++ (GT b.1 b.2.1 nr (Aw.part b.2.2.1 i k) i b.2.2.2.length).2)
 | 0, _, _, _, _, _, h => absurd h (nlz _)
 | nr + 1, b, i, k, hp, hv, hn => by
   have h := hp.rng; have hn2 := hp.nds; have hl := hp.lf
   have hW : W (k - i) = k - i := W_eq (by omega) (by omega)
   have hpl := part_len (l := b.2.2.1) (a := i) (b := k) (by omega)
   have hir := hp.inr.part i k
   have hcen : F73_L (A57_1 b i k) = cenR b.1 (Aw.part b.2.2.1 i k) := cen_eq hv hir (by rw [hpl]; omega) (by rw [hpl]; omega)
   have hrad : (A57_2 b i k).1 = (F81_L (F82_L_L b.1 (Aw.part b.2.2.1 i k)) (cenR b.1 (Aw.part b.2.2.1 i k))).1 := by
     unfold A57_2
     rw [hcen, rad_eq _ ⟨cen_bd hv hir 0, cen_bd hv hir 1, cen_bd hv hir 2⟩]
     rfl
   have hnd : ∀ x y, ((i, k, x, y, F73_L (A57_1 b i k), (A57_2 b i k).1) : NDE) = ndR b.1 (Aw.part b.2.2.1 i k) i x y := fun x y => by
     unfold ndR
     rw [hcen, hrad, hpl, show i + ((toNat k - toNat i : Nat) : Int) = k by omega]
   simp only [R57]
   by_cases h0 : W (k - i) > b.2.1
   · rw [dqt h0, cond_true, GT_node (by rw [hpl]; omega)]
     have h2 : 2 ≤ k - i := by omega
     have hm := mid_eq ⟨h.1, h.2.1, by omega⟩
     have hax : (A57_3 b i k).2 = F84_L_L b.1 (Aw.part b.2.2.1 i k) := by
       unfold A57_3
       exact congrArg Prod.snd (wid_eq (l := b.1) (b := (b.1, b.2.1, b.2.2.1, b.2.2.2 ++ [(i, k, (-1), (-1), (F73_L (A57_1 b i k)), (A57_2 b i k).1)])) rfl (by rw [hpl]; omega))
     have hor : A57_4 b i k = b.2.2.1.take i.toNat ++ (srt b.1 (F84_L_L b.1 (Aw.part b.2.2.1 i k)) (Aw.part b.2.2.1 i k) ++ b.2.2.1.drop k.toNat) := by
       unfold A57_4
       rw [sf_srt (by omega), hax, List.append_assoc, show i.toNat + (k.toNat - i.toNat) = k.toNat by omega]
       rfl
     have h5 : ADDR _ (A57_5 (R57 nr) b i k).2 i _ := add_inv nr _ _ _ (pad1 hp h2) (by rw [hm]; omega)
     have e5 : A57_5 (R57 nr) b i k = _ := add_GT nr _ _ _ (pad1 hp h2) hv (by rw [hm]; omega)
     have e6 : A57_6 (R57 nr) b i k = _ := add_GT nr _ _ _ (pad2 hp (add_4 hp).1 h2 h5) hv (by rw [hm]; omega)
     have hsl := srt_len b.1 (F84_L_L b.1 (Aw.part b.2.2.1 i k)) (Aw.part b.2.2.1 i k)
     rw [hm, hnd] at e5
     generalize hs : srt b.1 (F84_L_L b.1 (Aw.part b.2.2.1 i k)) (Aw.part b.2.2.1 i k) = s at hor hsl e5 e6 ⊢
     generalize hh : ((Aw.part b.2.2.1 i k).length + 1) / 2 = hf at e5 e6 ⊢
     have hfe : (i + (k - i + 1) / 2) = i + (hf : Int) := by rw [← hh, hpl]; omega
     have hsn : s.length = (k - i).toNat := by rw [hsl, hpl]; omega
     have hfs : hf ≤ s.length := by rw [← hh, hpl, hsn]; omega
     have htk : (b.2.2.1.take i.toNat).length = i.toNat := by rw [List.length_take]; omega
     dsimp only at e5
     have d1 : (b.2.2.1.take i.toNat ++ (s ++ b.2.2.1.drop k.toNat)).take i.toNat = b.2.2.1.take i.toNat := by
       rw [List.take_append_of_le_length (by rw [htk]; exact Nat.le_refl _), List.take_of_length_le (by rw [htk]; exact Nat.le_refl _)]
     have d2 : (b.2.2.1.take i.toNat ++ (s ++ b.2.2.1.drop k.toNat)).drop (i + (hf : Int)).toNat = s.drop hf ++ b.2.2.1.drop k.toNat := by
       rw [List.drop_append, List.drop_of_length_le (by rw [htk]; omega), List.nil_append, htk, show (i + (hf : Int)).toNat - i.toNat = hf by omega, List.drop_append_of_le_length hfs]
     have g1 := GT_len b.1 hl nr (s.take hf) i (((b.2.2.2 ++ [ndR b.1 (Aw.part b.2.2.1 i k) i (-1) (-1)]).length : Nat) : Int) (by rw [List.length_take, hsn]; have := hn; rw [← hh, hpl]; omega)
     have g2 := GT_len b.1 hl nr (s.drop hf) (i + (hf : Int)) ((((b.2.2.2 ++ [ndR b.1 (Aw.part b.2.2.1 i k) i (-1) (-1)]) ++ (GT b.1 b.2.1 nr (s.take hf) i (((b.2.2.2 ++ [ndR b.1 (Aw.part b.2.2.1 i k) i (-1) (-1)]).length : Nat) : Int)).2).length : Nat) : Int) (by rw [List.length_drop, hsn]; have := hn; rw [← hh, hpl]; omega)
     rw [hor, hfe, part_at (b.2.2.1.take i.toNat) s (b.2.2.1.drop k.toNat) hf (by rw [htk]; omega) rfl hfs, d1, d2] at e5
     rw [e5, hm, hfe] at e6
     dsimp only at e6
     rw [← List.append_assoc (List.take i.toNat b.2.2.1)] at e6
     have hl1 : (b.2.2.1.take i.toNat ++ (GT b.1 b.2.1 nr (s.take hf) i (((b.2.2.2 ++ [ndR b.1 (Aw.part b.2.2.1 i k) i (-1) (-1)]).length : Nat) : Int)).1).length = i.toNat + hf := by
       rw [List.length_append, htk, g1, List.length_take]; omega
     rw [part_at _ (s.drop hf) (b.2.2.1.drop k.toNat) (s.drop hf).length (by rw [hl1]; omega) (by rw [List.length_drop, hsn]; omega) (Nat.le_refl _), List.take_length] at e6
     have d3 : ∀ x y z : List Int, x.length = i.toNat + hf → (x ++ (y ++ z)).take (i + (hf : Int)).toNat = x := fun x y z hx => by
       rw [show (i + (hf : Int)).toNat = x.length by omega, List.take_append_of_le_length (Nat.le_refl _), List.take_length]
     have d4 : ∀ x y z : List Int, x.length = i.toNat + hf → y.length = s.length - hf → (x ++ (y ++ z)).drop k.toNat = z := fun x y z hx hy => by
       rw [← List.append_assoc, show k.toNat = (x ++ y).length by rw [List.length_append, hx, hy, hsn]; omega, List.drop_append_of_le_length (Nat.le_refl _), List.drop_length, List.nil_append]
     rw [d3 _ _ _ hl1, d4 _ _ _ hl1 (by rw [List.length_drop])] at e6
     rw [e6, e5]
     simp only [itn, List.append_assoc, List.cons_append, List.nil_append, set_md, getD_md, List.length_append, List.length_cons, List.length_nil, Nat.zero_add, Int.natCast_add, Int.natCast_one]
     rw [show (b.2.2.2.length : Int) + ((GT b.1 b.2.1 nr (s.take hf) i ((b.2.2.2.length : Int) + 1)).2.length + 1) = b.2.2.2.length + 1 + (GT b.1 b.2.1 nr (s.take hf) i ((b.2.2.2.length : Int) + 1)).2.length by omega]
     rfl
   · rw [dqf h0, cond_false, GT_leaf (by rw [hpl]; omega), hnd]
     dsimp only
     rw [← List.append_assoc, List.append_assoc]
     have : b.2.2.1.take i.toNat ++ (Aw.part b.2.2.1 i k ++ b.2.2.1.drop k.toNat) = b.2.2.1 := by
       unfold Aw.part
       have e : b.2.2.1.drop k.toNat = (b.2.2.1.drop i.toNat).drop (k.toNat - i.toNat) := by rw [List.drop_drop, show i.toNat + (k.toNat - i.toNat) = k.toNat by omega]
       rw [e, List.take_append_drop, List.take_append_drop]
     rw [this]


theorem grw11 (l : LCH) (t : TR) (ns : List Int) (leaf : Int) (hp : PGRW l ([], []) ns leaf) : F60_L_z11_L l t ns leaf = F60_L_z00_L l ([], []) ns leaf := by
 have h := hp.rng; have hl := hp.lf
 unfold F60_L_z11_L F60_L_z00_L
 simp only [R60_L_z11_L, R60_L_z00_L]
 by_cases h0 : (ns.length : Int) ≤ leaf
 · rw [dqt h0, cond_true, cond_true]
   rfl
 · rw [dqf h0, cond_false, cond_false]
   have g2 : 2 ≤ ns.length := by omega
   have hs := grw_s hp (F84_L_L l ns)
   have hf := hf_eq (n := ns.length) (by omega)
   have hpt1 := part_len (l := F83_L_L l ns (F84_L_L l ns)) (a := 0) (b := (((ns.length + 1) / 2 : Nat) : Int)) (by omega)
   have hpt2 := part_len (l := F83_L_L l ns (F84_L_L l ns)) (a := (((ns.length + 1) / 2 : Nat) : Int)) (b := (ns.length : Int)) (by omega)
   have e2 : A60_L_z11_L_2 l t ns leaf = A60_L_z00_L_2 (R60_L_z00_L ns.length) l ([], []) ns leaf := by
     unfold A60_L_z11_L_2 A60_L_z00_L_2 F60_L_z10_L
     refine (grw10 _ l ([], _) _ leaf (pgrw1 (t := ([], [])) hp _ g2) (lss _)).trans ?_
     exact grw_fuel _ _ _ _ _ _ (pgrw1 hp _ g2) (lss _) (by rw [hs.1, hf, hpt1]; omega)
   have h5 : GRR _ (A60_L_z00_L_2 (R60_L_z00_L ns.length) l ([], []) ns leaf) _ := grw_inv _ _ _ _ _ (pgrw1 hp _ g2) (by rw [hs.1, hf, hpt1]; omega)
   have e3 : A60_L_z11_L_3 l t ns leaf = A60_L_z00_L_3 (R60_L_z00_L ns.length) l ([], []) ns leaf := by
     unfold A60_L_z11_L_3 A60_L_z00_L_3 F60_L_z00_L
     rw [e2]
     exact grw_fuel _ _ _ _ _ _ (pgrw2 hp _ g2 h5) (lss _) (by rw [hs.1, hf, hpt2]; omega)
   rw [e3, e2]
   rfl
def nums (n : Nat) : List Int := (List.range n).map (fun i : Nat => (i : Int))
theorem nums_len (n : Nat) : (nums n).length = n := by simp [nums]
theorem nums_succ (n : Nat) : nums (n + 1) = nums n ++ [(n : Int)] := by simp [nums, List.range_succ]
theorem nums_inr (n : Nat) : InR n (nums n) := fun x hx => by
 simp only [nums, List.mem_map, List.mem_range] at hx
 obtain ⟨i, hi, rfl⟩ := hx
 omega
def BT (l : LCH) (leaf : Int) : List Int × List NDE := if l.length = 0 then ([], []) else GT l leaf (l.length + 1) (nums l.length) 0 0
theorem nums_padd {l : LCH} (h : 1 ≤ l.length) (hl : l.length ≤ 96) {leaf : Int} (hf : 1 ≤ leaf) : PGRW l ([], []) (nums l.length) leaf :=
 ⟨nums_inr _, by rw [nums_len]; simp only [List.length_nil]; omega, by rw [nums_len]; simp only [List.length_nil]; omega, hf⟩
theorem rbl_eq (l : LCH) (hl : l.length ≤ 96) {leaf : Int} (hf : 1 ≤ leaf) : F36_L l leaf = BT l leaf := by
 have lp : ∀ (n i : Nat), l.length - i < n → i ≤ l.length → loopF (S36_L_0 l leaf) n (nums i, (i : Int)) = BT l leaf := by
   intro n
   induction n with
   | zero => intro i h; exact absurd h (nlz _)
   | succ n ih =>
     intro i h hi
     by_cases h1 : i < l.length
     · have e : S36_L_0 l leaf (nums i, (i : Int)) = .inl (nums (i + 1), ((i + 1 : Nat) : Int)) := by
         simp only [S36_L_0]
         rw [dqt (by omega), cond_true, nums_succ]; rfl
       rw [loopF_inl e]
       exact ih (i + 1) (by omega) (by omega)
     · obtain rfl : i = l.length := by omega
       refine loopF_inr ?_
       simp only [S36_L_0]
       rw [dqf (by omega), cond_false]
       unfold BT
       by_cases h0 : l.length = 0
       · rw [if_pos h0, show (((l.length : Int) : Int) == 0) = true by simp [h0], cond_true]
       · have hp := nums_padd (l := l) (by omega) hl hf
         rw [if_neg h0, show (((l.length : Int) : Int) == 0) = false by rw [beq_eq_false_iff_ne]; omega, cond_false, grw11 _ _ _ _ hp]
         unfold F60_L_z00_L
         rw [grow_GT _ _ _ _ _ hp (lss _), nums_len]
         rfl
 exact lp (toNat ((l.length : Int) - 0) + 1) 0 (by omega) (Nat.zero_le _)
theorem bld_eq (l : LCH) (hv : VCH l) {leaf : Int} (hf : 1 ≤ leaf) : F34_L l leaf = BT l leaf := by
 have hl := hv.1
 have lp : ∀ (n i : Nat), l.length - i < n → i ≤ l.length → loopF (S34_L_0 l leaf) n (nums i, ([] : List NDE), (i : Int)) = BT l leaf := by
   intro n
   induction n with
   | zero => intro i h; exact absurd h (nlz _)
   | succ n ih =>
     intro i h hi
     by_cases h1 : i < l.length
     · have e : S34_L_0 l leaf (nums i, ([] : List NDE), (i : Int)) = .inl (nums (i + 1), ([] : List NDE), ((i + 1 : Nat) : Int)) := by
         simp only [S34_L_0]
         rw [dqt (by omega), cond_true, nums_succ]; rfl
       rw [loopF_inl e]
       exact ih (i + 1) (by omega) (by omega)
     · obtain rfl : i = l.length := by omega
       refine loopF_inr ?_
       simp only [S34_L_0]
       rw [dqf (by omega), cond_false]
       unfold BT
       by_cases h0 : l.length = 0
       · rw [if_pos h0, dqf (by omega), cond_false]
         have : nums l.length = [] := by rw [h0]; simp [nums]
         rw [this]
       · have hp : PADD (l, leaf, (nums l.length, ([] : List NDE))) 0 (l.length : Int) := ⟨nums_inr _, by dsimp only; rw [nums_len]; omega, by dsimp only; simp only [List.length_nil]; omega, hf⟩
         rw [if_neg h0, dqt (by omega), cond_true]
         unfold F57
         rw [add_GT _ _ _ _ hp hv (lss _)]
         dsimp only
         have hpt : Aw.part (nums l.length) 0 (l.length : Int) = nums l.length := by rw [part0, List.take_of_length_le (by rw [nums_len]; exact Nat.le_refl _)]
         have hsub : toNat ((l.length : Int) - 0) = l.length := by omega
         rw [hpt, hsub, itn, List.drop_of_length_le (by rw [nums_len]; exact Nat.le_refl _), List.append_nil]
         rfl
 exact lp (toNat ((l.length : Int) - 0) + 1) 0 (by omega) (Nat.zero_le _)

theorem GT_nds (l : LCH) {leaf : Int} (hl : 1 ≤ leaf) : ∀ (n : Nat) (ns : List Int) (fr a : Int), ns.length < n → 1 ≤ ns.length → (GT l leaf n ns fr a).2.length + 1 ≤ 2 * ns.length
 | 0, _, _, _, h, _ => absurd h (nlz _)
 | n + 1, ns, fr, a, h, h1 => by
   by_cases h0 : (ns.length : Int) ≤ leaf
   · rw [GT_leaf h0]; simp only [List.length_cons, List.length_nil]; omega
   · rw [GT_node h0]
     have hsl := srt_len l (F84_L_L l ns) ns
     have g1 := GT_nds l hl n ((srt l (F84_L_L l ns) ns).take ((ns.length + 1) / 2)) fr (a + 1) (by rw [List.length_take, hsl]; omega) (by rw [List.length_take, hsl]; omega)
     have g2 := GT_nds l hl n ((srt l (F84_L_L l ns) ns).drop ((ns.length + 1) / 2)) (fr + ((ns.length + 1) / 2 : Nat)) (a + 1 + (GT l leaf n ((srt l (F84_L_L l ns) ns).take ((ns.length + 1) / 2)) fr (a + 1)).2.length) (by rw [List.length_drop, hsl]; omega) (by rw [List.length_drop, hsl]; omega)
     rw [List.length_take, hsl] at g1
     rw [List.length_drop, hsl] at g2
     simp only [List.length_cons, List.length_append]
     omega
theorem BT_len (l : LCH) (hl : l.length ≤ 96) {leaf : Int} (hf : 1 ≤ leaf) : (BT l leaf).1.length = l.length ∧ (BT l leaf).2.length ≤ 192 := by
 unfold BT
 by_cases h0 : l.length = 0
 · rw [if_pos h0, h0]; exact ⟨rfl, Nat.zero_le _⟩
 · rw [if_neg h0]
   have g1 := GT_len l hf (l.length + 1) (nums l.length) 0 0 (by rw [nums_len]; omega)
   have g2 := GT_nds l hf (l.length + 1) (nums l.length) 0 0 (by rw [nums_len]; omega) (by rw [nums_len]; omega)
   rw [nums_len] at g1 g2
   exact ⟨g1, by omega⟩
theorem rBuild_len (l : LCH) (leaf : Int) : (F12_L l leaf).1.1.length ≤ 96 ∧ (F12_L l leaf).1.2.length ≤ 192 := by
 unfold F12_L
 cases h : ((F35_L l : Int) != 0) with
 | true => exact ⟨Nat.zero_le _, Nat.zero_le _⟩
 | false =>
   have hl := vch_lenr (l := l) (bne_eq_false_iff_eq.1 h)
   rw [cond_false]
   by_cases h1 : leaf < 1
   · rw [dqt h1]; exact ⟨Nat.zero_le _, Nat.zero_le _⟩
   · rw [dqf h1, cond_false]
     by_cases h2 : leaf > 16
     · rw [dqt h2]; exact ⟨Nat.zero_le _, Nat.zero_le _⟩
     · rw [dqf h2, cond_false, rbl_eq l hl (by omega)]
       have := BT_len l hl (leaf := leaf) (by omega)
       exact ⟨by dsimp only; omega, this.2⟩

theorem bld_len {l : LCH} {leaf : Int} (h : F32_L l = 0) (hf : 1 ≤ leaf) : (F34_L l leaf).1.length ≤ 96 ∧ (F34_L l leaf).2.length ≤ 192 := by
 have hv := vch_ok h
 rw [bld_eq l hv hf]
 have := BT_len l hv.1 hf
 have := hv.1
 omega
theorem rbl_len {l : LCH} {leaf : Int} (h : F35_L l = 0) (hf : 1 ≤ leaf) : (F36_L l leaf).1.length ≤ 96 ∧ (F36_L l leaf).2.length ≤ 192 := by
 have hl := vch_lenr h
 rw [rbl_eq l hl hf]
 have := BT_len l hl hf
 omega

noncomputable def B61_L_L_0 : Code := (loopAtD [1, 1, 0, 1] [] (bodyOf Try.f61) []).1
noncomputable def K61_L_L_0 : List K := (loopAtD [1, 1, 0, 1] [] (bodyOf Try.f61) []).2

def st61_L_L_0 (a0 : List (Int)) (a1 : List (Int)) (v1 : Int) : LS := ⟨slN 26 [(0, (.s 0 0 a0.length 1)), (1, (.s 1 0 a1.length 1)), (12, (iv (a0.length : Int))), (13, (iv v1))], [(.live false true (flat c3 a0)), (.live false true (flat c3 a1))]⟩

def S61_L_L_0 (a0 : List (Int)) (a1 : List (Int)) : Int → (Int) ⊕ (Bool)
 | v1 =>
  (bif (decide ((v1 : Int) < (a0.length : Int))) then
   (bif (((a0.getD (toNat v1) default) : Int) != (a1.getD (toNat v1) default)) then
    (.inr false)
   else
    (.inl (v1 + 1)))
  else
   (.inr true))

theorem L61_L_L_0 (a0 : List (Int)) (a1 : List (Int)) (l0 : a0.length ≤ 9223372036854775807) (l1 : a1.length ≤ 9223372036854775807) {cx : Cx} (hcx : cx.base = 2) : ∀ (n : Nat) (v1 : Int), (0 ≤ v1) ∧ (a0.length = a1.length) → toNat ((a0.length : Int) - v1) < n → Aw.Good Try.prog none 9 (bodyPost Try.prog Try.f61 (RR cx (.v (.bool (loopF (S61_L_L_0 a0 a1) n v1))) [] [])) cx [] (.l B61_L_L_0 n :: K61_L_L_0) (st61_L_L_0 a0 a1 v1) := by
 intro n
 induction n with
 | zero => intro v1 hi hn; exact absurd hn (nlz _)
 | succ n ih =>
   intro v1 hi hn
   refine good_round ?_
   cases h0 : (decide ((v1 : Int) < (a0.length : Int))) with
   | true =>
    have q0 := odt h0
    let t1 : List (St Try.prog) := [.d h0, .i v1 (a0.length), .L c3_len a0 v1 0 1, .i v1 (a1.length), .L c3_len a1 v1 0 1]
    cases h1 : (((a0.getD (toNat v1) default) : Int) != (a1.getD (toNat v1) default)) with
    | true =>
     have q1 := bne_iff_ne.1 h1
     have e := Eq.refl (S61_L_L_0 a0 a1 v1); conv at e => rhs; simp only [S61_L_L_0, h0, h1, cdb]
     rw [loopF_s, e]
     exact rt (t1 ++ [.d h1]) [] [] hcx (by kernel_rfl)
    | false =>
     have q1 := bne_eq_false_iff_eq.1 h1
     have e := Eq.refl (S61_L_L_0 a0 a1 v1); conv at e => rhs; simp only [S61_L_L_0, h0, h1, cdb]
     rw [loopF_inl e]
     refine ba (t1 ++ [.d h1]) [] [0, 1, 12, 13] [] hcx (m := n) B61_L_L_0 (K61_L_L_0) (st61_L_L_0 a0 a1 (W (v1 + 1))) (by kernel_rfl) ?_
     have z0 : (W (v1 + 1)) = (v1 + 1) := W_eq (by omega) (by omega)
     rw [z0]
     exact ih (v1 + 1) (by refine ⟨?_, ?_⟩ <;> (try simp only [Ls]) <;> first | omega | assumption | simp) (by (try simp only [Ls]); omega)
   | false =>
    have q0 := odf h0
    have e := Eq.refl (S61_L_L_0 a0 a1 v1); conv at e => rhs; simp only [S61_L_L_0, h0, cdb]
    rw [loopF_s, e]
    exact rt [.d h0] [] [] hcx (by kernel_rfl)

def F61_L_L (a0 : List (Int)) (a1 : List (Int)) : Bool :=
 (bif (((a0.length : Int) : Int) != (a1.length : Int)) then
  false
 else
  (loopF (S61_L_L_0 a0 a1) (toNat ((a0.length : Int) - 0) + 1) 0))

theorem C61_L_L (a0 : List (Int)) (a1 : List (Int)) (l0 : a0.length ≤ 9223372036854775807) (l1 : a1.length ≤ 9223372036854775807) : Con Try.prog 61 [(.s 0 0 a0.length 1), (.s 1 0 a1.length 1)] [(.live false true (flat c3 a0)), (.live false true (flat c3 a1))] (.v (.bool (F61_L_L a0 a1))) [] := by
 refine con_s Try.func61 (by kernel_rfl) fun cx hcx => ?_
 cases h0 : (((a0.length : Int) : Int) != (a1.length : Int)) with
 | true =>
  have q0 := bne_iff_ne.1 h0
  have e := Eq.refl (F61_L_L a0 a1); conv at e => rhs; simp only [F61_L_L, h0, cdb]
  rw [e]
  exact rt [.d h0] [] [] hcx (by kernel_rfl)
 | false =>
  have q0 := bne_eq_false_iff_eq.1 h0
  have e := Eq.refl (F61_L_L a0 a1); conv at e => rhs; simp only [F61_L_L, h0, cdb]
  rw [e]
  refine en [.d h0] [] [0, 1, 12, 13] [] hcx B61_L_L_0 (K61_L_L_0) (st61_L_L_0 a0 a1 0) (toNat ((a0.length : Int) - 0) + 1) (by kernel_rfl) ?_
  exact L61_L_L_0 a0 a1 l0 l1 hcx (toNat ((a0.length : Int) - 0) + 1) 0 (by refine ⟨?_, ?_⟩ <;> (try simp only [Ls]) <;> first | omega | assumption | simp) (by (try simp only [Ls]); omega)

noncomputable def B62_L_L_0 : Code := (loopAtD [1, 1, 0, 1] [] (bodyOf Try.f62) []).1
noncomputable def K62_L_L_0 : List K := (loopAtD [1, 1, 0, 1] [] (bodyOf Try.f62) []).2

def st62_L_L_0 (a0 : TyN) (a1 : TyN) (v1 : Int) : LS := ⟨slN 26 [(0, (.s 0 0 a0.length 8)), (1, (.s 1 0 a1.length 8)), (12, (iv (a0.length : Int))), (13, (iv v1))], [(.live false true (flat c40 a0)), (.live false true (flat c40 a1))]⟩

def S62_L_L_0 (a0 : TyN) (a1 : TyN) : Int → (Int) ⊕ (Bool)
 | v1 =>
  (bif (decide ((v1 : Int) < (a0.length : Int))) then
   (bif (!((((a0.getD (toNat v1) default).1 : Int) == (a1.getD (toNat v1) default).1) && ((((a0.getD (toNat v1) default).2.1 : Int) == (a1.getD (toNat v1) default).2.1) && ((((a0.getD (toNat v1) default).2.2.1 : Int) == (a1.getD (toNat v1) default).2.2.1) && ((((a0.getD (toNat v1) default).2.2.2.1 : Int) == (a1.getD (toNat v1) default).2.2.2.1) && (((((a0.getD (toNat v1) default).2.2.2.2.1.1 : Int) == (a1.getD (toNat v1) default).2.2.2.2.1.1) && ((((a0.getD (toNat v1) default).2.2.2.2.1.2.1 : Int) == (a1.getD (toNat v1) default).2.2.2.2.1.2.1) && ((((a0.getD (toNat v1) default).2.2.2.2.1.2.2 : Int) == (a1.getD (toNat v1) default).2.2.2.2.1.2.2) && true))) && ((((a0.getD (toNat v1) default).2.2.2.2.2 : Int) == (a1.getD (toNat v1) default).2.2.2.2.2) && true))))))) then
    (.inr false)
   else
    (.inl (v1 + 1)))
  else
   (.inr true))

theorem L62_L_L_0 (a0 : TyN) (a1 : TyN) (l0 : a0.length ≤ 9223372036854775807) (l1 : a1.length ≤ 9223372036854775807) {cx : Cx} (hcx : cx.base = 2) : ∀ (n : Nat) (v1 : Int), (0 ≤ v1) ∧ (a0.length = a1.length) → toNat ((a0.length : Int) - v1) < n → Aw.Good Try.prog none 9 (bodyPost Try.prog Try.f62 (RR cx (.v (.bool (loopF (S62_L_L_0 a0 a1) n v1))) [] [])) cx [] (.l B62_L_L_0 n :: K62_L_L_0) (st62_L_L_0 a0 a1 v1) := by
 intro n
 induction n with
 | zero => intro v1 hi hn; exact absurd hn (nlz _)
 | succ n ih =>
   intro v1 hi hn
   refine good_round ?_
   cases h0 : (decide ((v1 : Int) < (a0.length : Int))) with
   | true =>
    have q0 := odt h0
    let t1 : List (St Try.prog) := [.d h0, .i v1 (a0.length), .L c40_len a0 v1 0 8, .i v1 (a1.length), .L c40_len a1 v1 0 8]
    cases h1 : (!((((a0.getD (toNat v1) default).1 : Int) == (a1.getD (toNat v1) default).1) && ((((a0.getD (toNat v1) default).2.1 : Int) == (a1.getD (toNat v1) default).2.1) && ((((a0.getD (toNat v1) default).2.2.1 : Int) == (a1.getD (toNat v1) default).2.2.1) && ((((a0.getD (toNat v1) default).2.2.2.1 : Int) == (a1.getD (toNat v1) default).2.2.2.1) && (((((a0.getD (toNat v1) default).2.2.2.2.1.1 : Int) == (a1.getD (toNat v1) default).2.2.2.2.1.1) && ((((a0.getD (toNat v1) default).2.2.2.2.1.2.1 : Int) == (a1.getD (toNat v1) default).2.2.2.2.1.2.1) && ((((a0.getD (toNat v1) default).2.2.2.2.1.2.2 : Int) == (a1.getD (toNat v1) default).2.2.2.2.1.2.2) && true))) && ((((a0.getD (toNat v1) default).2.2.2.2.2 : Int) == (a1.getD (toNat v1) default).2.2.2.2.2) && true))))))) with
    | true =>
     have e := Eq.refl (S62_L_L_0 a0 a1 v1); conv at e => rhs; simp only [S62_L_L_0, h0, h1, cdb]
     rw [loopF_s, e]
     exact rt (t1 ++ [.d h1]) [] [] hcx (by kernel_rfl)
    | false =>
     have e := Eq.refl (S62_L_L_0 a0 a1 v1); conv at e => rhs; simp only [S62_L_L_0, h0, h1, cdb]
     rw [loopF_inl e]
     refine ba (t1 ++ [.d h1]) [] [0, 1, 12, 13] [] hcx (m := n) B62_L_L_0 (K62_L_L_0) (st62_L_L_0 a0 a1 (W (v1 + 1))) (by kernel_rfl) ?_
     have z0 : (W (v1 + 1)) = (v1 + 1) := W_eq (by omega) (by omega)
     rw [z0]
     exact ih (v1 + 1) (by refine ⟨?_, ?_⟩ <;> (try simp only [Ls]) <;> first | omega | assumption | simp) (by (try simp only [Ls]); omega)
   | false =>
    have q0 := odf h0
    have e := Eq.refl (S62_L_L_0 a0 a1 v1); conv at e => rhs; simp only [S62_L_L_0, h0, cdb]
    rw [loopF_s, e]
    exact rt [.d h0] [] [] hcx (by kernel_rfl)

def F62_L_L (a0 : TyN) (a1 : TyN) : Bool :=
 (bif (((a0.length : Int) : Int) != (a1.length : Int)) then
  false
 else
  (loopF (S62_L_L_0 a0 a1) (toNat ((a0.length : Int) - 0) + 1) 0))

theorem C62_L_L (a0 : TyN) (a1 : TyN) (l0 : a0.length ≤ 9223372036854775807) (l1 : a1.length ≤ 9223372036854775807) : Con Try.prog 62 [(.s 0 0 a0.length 8), (.s 1 0 a1.length 8)] [(.live false true (flat c40 a0)), (.live false true (flat c40 a1))] (.v (.bool (F62_L_L a0 a1))) [] := by
 refine con_s Try.func62 (by kernel_rfl) fun cx hcx => ?_
 cases h0 : (((a0.length : Int) : Int) != (a1.length : Int)) with
 | true =>
  have q0 := bne_iff_ne.1 h0
  have e := Eq.refl (F62_L_L a0 a1); conv at e => rhs; simp only [F62_L_L, h0, cdb]
  rw [e]
  exact rt [.d h0] [] [] hcx (by kernel_rfl)
 | false =>
  have q0 := bne_eq_false_iff_eq.1 h0
  have e := Eq.refl (F62_L_L a0 a1); conv at e => rhs; simp only [F62_L_L, h0, cdb]
  rw [e]
  refine en [.d h0] [] [0, 1, 12, 13] [] hcx B62_L_L_0 (K62_L_L_0) (st62_L_L_0 a0 a1 0) (toNat ((a0.length : Int) - 0) + 1) (by kernel_rfl) ?_
  exact L62_L_L_0 a0 a1 l0 l1 hcx (toNat ((a0.length : Int) - 0) + 1) 0 (by refine ⟨?_, ?_⟩ <;> (try simp only [Ls]) <;> first | omega | assumption | simp) (by (try simp only [Ls]); omega)

def F37 (a0 : List (Int) × TyN) (a1 : List (Int) × TyN) : Bool :=
 (bif (F61_L_L a0.1 a1.1) then
  (F62_L_L a0.2 a1.2)
 else
  false)

theorem C37 (a0 : List (Int) × TyN) (a1 : List (Int) × TyN) (l0_1 : a0.1.length ≤ 9223372036854775807) (l0_2 : a0.2.length ≤ 9223372036854775807) (l1_1 : a1.1.length ≤ 9223372036854775807) (l1_2 : a1.2.length ≤ 9223372036854775807) : Con Try.prog 37 [(.a [(.s 0 0 a0.1.length 1), (.s 1 0 a0.2.length 8)]), (.a [(.s 2 0 a1.1.length 1), (.s 3 0 a1.2.length 8)])] [(.live false true (flat c3 a0.1)), (.live false true (flat c40 a0.2)), (.live false true (flat c3 a1.1)), (.live false true (flat c40 a1.2))] (.v (.bool (F37 a0 a1))) [] := by
 refine con_s Try.func37 (by kernel_rfl) fun cx hcx => ?_
 let t0 : List (St Try.prog) := [.c [0, 2] (C61_L_L a0.1 a1.1 (by omega) (by omega))]
 cases h0 : (F61_L_L a0.1 a1.1) with
 | true =>
  have e := Eq.refl (F37 a0 a1); conv at e => rhs; simp only [F37, h0, cdb]
  rw [e]
  exact rt (t0 ++ [.d h0, .c [1, 3] (C62_L_L a0.2 a1.2 (by omega) (by omega))]) [] [] hcx (by kernel_rfl)
 | false =>
  have e := Eq.refl (F37 a0 a1); conv at e => rhs; simp only [F37, h0, cdb]
  rw [e]
  exact rt (t0 ++ [.d h0]) [] [] hcx (by kernel_rfl)

noncomputable def B16_L_0 : Code := (loopAtD [1, 1, 0, 1] [] (bodyOf Try.f16) []).1
noncomputable def K16_L_0 : List K := (loopAtD [1, 1, 0, 1] [] (bodyOf Try.f16) []).2

def st16_L_0 (a0 : TyL) (a1 : List (Int) × TyN) (v1 : Int) : LS := ⟨slN 21 [(0, (.s 0 0 a0.length 10)), (3, (.p 3 0)), (6, (iv v1))], [(.live false true (flat c81 a0)), (.live false true (flat c3 a1.1)), (.live false true (flat c40 a1.2)), (.live true false [(.s 1 0 a1.1.length 1), (.s 2 0 a1.2.length 8)])]⟩

def S16_L_0 (a0 : TyL) (a1 : List (Int) × TyN) : Int → (Int) ⊕ (Int)
 | v1 =>
  (bif (decide ((v1 : Int) ≤ 16)) then
   (bif (F37 (a1.1, a1.2) ((F34_L a0 v1).1, (F34_L a0 v1).2)) then
    (.inr 0)
   else
    (.inl (v1 + 1)))
  else
   (.inr 1))

theorem L16_L_0 (a0 : TyL) (a1 : List (Int) × TyN) (l0 : a0.length ≤ 9223372036854775807) (l1_1 : a1.1.length ≤ 9223372036854775807) (l1_2 : a1.2.length ≤ 9223372036854775807) {cx : Cx} (hcx : cx.base = 3) : ∀ (n : Nat) (v1 : Int), (0 ≤ v1) ∧ (F32_L a0 = 0) ∧ (1 ≤ v1) → toNat (16 - v1 + 1) < n → Aw.Good Try.prog none 9 (bodyPost Try.prog Try.f16 (RR cx (iv (loopF (S16_L_0 a0 a1) n v1)) [] [])) cx [] (.l B16_L_0 n :: K16_L_0) (st16_L_0 a0 a1 v1) := by
 intro n
 induction n with
 | zero => intro v1 hi hn; exact absurd hn (nlz _)
 | succ n ih =>
   intro v1 hi hn
   refine good_round ?_
   have hbl := bld_len (l := a0) (leaf := v1) hi.2.1 (by omega)
   cases h0 : (decide ((v1 : Int) ≤ 16)) with
   | true =>
    have q0 := odt h0
    let t1 : List (St Try.prog) := [.d h0, .c [0] (C34_L a0 v1 (by omega) (vch_len (l := a0) hi.2.1) (by omega)), .c [1, 2, 4, 5] (C37 (a1.1, a1.2) ((F34_L a0 v1).1, (F34_L a0 v1).2) (by (try simp only [Lt]); omega) (by (try simp only [Lt]); omega) (by (try simp only [Lt]); omega) (by (try simp only [Lt]); omega))]
    cases h1 : (F37 (a1.1, a1.2) ((F34_L a0 v1).1, (F34_L a0 v1).2)) with
    | true =>
     have e := Eq.refl (S16_L_0 a0 a1 v1); conv at e => rhs; simp only [S16_L_0, h0, h1, cdb]
     rw [loopF_s, e]
     exact rt (t1 ++ [.d h1]) [] [] hcx (by kernel_rfl)
    | false =>
     have e := Eq.refl (S16_L_0 a0 a1 v1); conv at e => rhs; simp only [S16_L_0, h0, h1, cdb]
     rw [loopF_inl e]
     refine ba (t1 ++ [.d h1]) [] [0, 3, 6] [3] hcx (m := n) B16_L_0 (K16_L_0) (st16_L_0 a0 a1 (W (v1 + 1))) (by kernel_rfl) ?_
     have z0 : (W (v1 + 1)) = (v1 + 1) := W_eq (by omega) (by omega)
     rw [z0]
     exact ih (v1 + 1) (by refine ⟨?_, ?_, ?_⟩ <;> (try simp only [Ls]) <;> first | omega | assumption | simp) (by (try simp only [Ls]); omega)
   | false =>
    have q0 := odf h0
    have e := Eq.refl (S16_L_0 a0 a1 v1); conv at e => rhs; simp only [S16_L_0, h0, cdb]
    rw [loopF_s, e]
    exact rt [.d h0] [] [] hcx (by kernel_rfl)

def F16_L (a0 : TyL) (a1 : List (Int) × TyN) : Int :=
 (bif (((F32_L a0) : Int) != 0) then
  (F32_L a0)
 else
  (loopF (S16_L_0 a0 a1) (toNat (16 - 1 + 1) + 1) 1))

theorem C16_L (a0 : TyL) (a1 : List (Int) × TyN) (l0 : a0.length ≤ 9223372036854775807) (l1_1 : a1.1.length ≤ 9223372036854775807) (l1_2 : a1.2.length ≤ 9223372036854775807) : Con Try.prog 16 [(.s 0 0 a0.length 10), (.a [(.s 1 0 a1.1.length 1), (.s 2 0 a1.2.length 8)])] [(.live false true (flat c81 a0)), (.live false true (flat c3 a1.1)), (.live false true (flat c40 a1.2))] (iv (F16_L a0 a1)) [] := by
 refine con_s Try.func16 (by kernel_rfl) fun cx hcx => ?_
 let t0 : List (St Try.prog) := [.c [0] (C32_L a0 (by omega))]
 cases h0 : (((F32_L a0) : Int) != 0) with
 | true =>
  have q0 := bne_iff_ne.1 h0
  have e := Eq.refl (F16_L a0 a1); conv at e => rhs; simp only [F16_L, h0, cdb]
  rw [e]
  exact rt (t0 ++ [.d h0]) [] [] hcx (by kernel_rfl)
 | false =>
  have q0 := bne_eq_false_iff_eq.1 h0
  have e := Eq.refl (F16_L a0 a1); conv at e => rhs; simp only [F16_L, h0, cdb]
  rw [e]
  refine en (t0 ++ [.d h0]) [] [0, 3, 6] [3] hcx B16_L_0 (K16_L_0) (st16_L_0 a0 a1 1) (toNat (16 - 1 + 1) + 1) (by kernel_rfl) ?_
  exact L16_L_0 a0 a1 l0 l1_1 l1_2 hcx (toNat (16 - 1 + 1) + 1) 1 (by refine ⟨?_, ?_, ?_⟩ <;> (try simp only [Ls]) <;> first | omega | assumption | simp) (by (try simp only [Ls]); omega)

noncomputable def B15_L_0 : Code := (loopAtD [1, 1, 1, 0, 1] [] (bodyOf Try.f15) []).1
noncomputable def K15_L_0 : List K := (loopAtD [1, 1, 1, 0, 1] [] (bodyOf Try.f15) []).2

def st15_L_0 (a0 : TyL) (a1 : List (Int) × TyN) (v1 : Int) : LS := ⟨slN 21 [(0, (.s 0 0 a0.length 10)), (3, (.p 3 0)), (6, (iv v1))], [(.live false true (flat c81 a0)), (.live false true (flat c3 a1.1)), (.live false true (flat c40 a1.2)), (.live true false [(.s 1 0 a1.1.length 1), (.s 2 0 a1.2.length 8)])]⟩

def S15_L_0 (a0 : TyL) (a1 : List (Int) × TyN) : Int → (Int) ⊕ (Int)
 | v1 =>
  (bif (decide ((v1 : Int) ≤ 16)) then
   (bif (F13 (a1.1, a1.2) ((F36_L a0 v1).1, (F36_L a0 v1).2)) then
    (.inr 0)
   else
    (.inl (v1 + 1)))
  else
   (.inr 1))

theorem L15_L_0 (a0 : TyL) (a1 : List (Int) × TyN) (l0 : a0.length ≤ 9223372036854775807) (l1_1 : a1.1.length ≤ 9223372036854775807) (l1_2 : a1.2.length ≤ 9223372036854775807) {cx : Cx} (hcx : cx.base = 3) : ∀ (n : Nat) (v1 : Int), (0 ≤ v1) ∧ (F35_L a0 = 0) ∧ (1 ≤ v1) → toNat (16 - v1 + 1) < n → Aw.Good Try.prog none 9 (bodyPost Try.prog Try.f15 (RR cx (iv (loopF (S15_L_0 a0 a1) n v1)) [] [])) cx [] (.l B15_L_0 n :: K15_L_0) (st15_L_0 a0 a1 v1) := by
 intro n
 induction n with
 | zero => intro v1 hi hn; exact absurd hn (nlz _)
 | succ n ih =>
   intro v1 hi hn
   refine good_round ?_
   have hbl := rbl_len (l := a0) (leaf := v1) hi.2.1 (by omega)
   cases h0 : (decide ((v1 : Int) ≤ 16)) with
   | true =>
    have q0 := odt h0
    let t1 : List (St Try.prog) := [.d h0, .c [0] (C36_L a0 v1 (by omega) (vch_lenr (l := a0) hi.2.1) (by omega)), .c [1, 2, 4, 5] (C13 (a1.1, a1.2) ((F36_L a0 v1).1, (F36_L a0 v1).2) (by (try simp only [Lt]); omega) (by (try simp only [Lt]); omega) (by (try simp only [Lt]); omega) (by (try simp only [Lt]); omega))]
    cases h1 : (F13 (a1.1, a1.2) ((F36_L a0 v1).1, (F36_L a0 v1).2)) with
    | true =>
     have e := Eq.refl (S15_L_0 a0 a1 v1); conv at e => rhs; simp only [S15_L_0, h0, h1, cdb]
     rw [loopF_s, e]
     exact rt (t1 ++ [.d h1]) [] [] hcx (by kernel_rfl)
    | false =>
     have e := Eq.refl (S15_L_0 a0 a1 v1); conv at e => rhs; simp only [S15_L_0, h0, h1, cdb]
     rw [loopF_inl e]
     refine ba (t1 ++ [.d h1]) [] [0, 3, 6] [3] hcx (m := n) B15_L_0 (K15_L_0) (st15_L_0 a0 a1 (W (v1 + 1))) (by kernel_rfl) ?_
     have z0 : (W (v1 + 1)) = (v1 + 1) := W_eq (by omega) (by omega)
     rw [z0]
     exact ih (v1 + 1) (by refine ⟨?_, ?_, ?_⟩ <;> (try simp only [Ls]) <;> first | omega | assumption | simp) (by (try simp only [Ls]); omega)
   | false =>
    have q0 := odf h0
    have e := Eq.refl (S15_L_0 a0 a1 v1); conv at e => rhs; simp only [S15_L_0, h0, cdb]
    rw [loopF_s, e]
    exact rt [.d h0] [] [] hcx (by kernel_rfl)

def F15_L (a0 : TyL) (a1 : List (Int) × TyN) : Int :=
 (bif (((F35_L a0) : Int) != 0) then
  (F35_L a0)
 else
  (loopF (S15_L_0 a0 a1) (toNat (16 - 1 + 1) + 1) 1))

theorem C15_L (a0 : TyL) (a1 : List (Int) × TyN) (l0 : a0.length ≤ 9223372036854775807) (l1_1 : a1.1.length ≤ 9223372036854775807) (l1_2 : a1.2.length ≤ 9223372036854775807) : Con Try.prog 15 [(.s 0 0 a0.length 10), (.a [(.s 1 0 a1.1.length 1), (.s 2 0 a1.2.length 8)])] [(.live false true (flat c81 a0)), (.live false true (flat c3 a1.1)), (.live false true (flat c40 a1.2))] (iv (F15_L a0 a1)) [] := by
 refine con_s Try.func15 (by kernel_rfl) fun cx hcx => ?_
 let t0 : List (St Try.prog) := [.c [0] (C35_L a0 (by omega))]
 cases h0 : (((F35_L a0) : Int) != 0) with
 | true =>
  have q0 := bne_iff_ne.1 h0
  have e := Eq.refl (F15_L a0 a1); conv at e => rhs; simp only [F15_L, h0, cdb]
  rw [e]
  exact rt (t0 ++ [.d h0]) [] [] hcx (by kernel_rfl)
 | false =>
  have q0 := bne_eq_false_iff_eq.1 h0
  have e := Eq.refl (F15_L a0 a1); conv at e => rhs; simp only [F15_L, h0, cdb]
  rw [e]
  refine en (t0 ++ [.d h0]) [] [0, 3, 6] [3] hcx B15_L_0 (K15_L_0) (st15_L_0 a0 a1 1) (toNat (16 - 1 + 1) + 1) (by kernel_rfl) ?_
  exact L15_L_0 a0 a1 l0 l1_1 l1_2 hcx (toNat (16 - 1 + 1) + 1) 1 (by refine ⟨?_, ?_, ?_⟩ <;> (try simp only [Ls]) <;> first | omega | assumption | simp) (by (try simp only [Ls]); omega)


theorem same_eq (a b : TR) : F37 a b = F13 a b := by
 have e1 : F61_L_L a.1 b.1 = F27_L_L a.1 b.1 := rfl
 unfold F37 F13
 rw [e1]
 cases F27_L_L a.1 b.1 <;> rfl
theorem all_inv {S : Int → Int ⊕ Bool} {N : Nat} {p : Nat → Prop} (h1 : ∀ i : Nat, i < N → (S (i : Int) = .inl ((i + 1 : Nat) : Int) ∧ p i) ∨ S (i : Int) = .inr false) : ∀ (d i n : Nat), d = N - i → i ≤ N → d < n → loopF S n (i : Int) = true → ∀ j, i ≤ j → j < N → p j
 | 0, i, n, hd, hi, hn, _, j, h1, h2 => absurd h2 (by omega)
 | d + 1, i, n, hd, hi, hn, h, j, g1, g2 => by
   obtain ⟨n, rfl⟩ : ∃ m, n = m + 1 := ⟨n - 1, by omega⟩
   rcases h1 i (by omega) with ⟨e, hp⟩ | e
   · rw [loopF_inl e] at h
     by_cases hj : j = i
     · rw [hj]; exact hp
     · exact all_inv h1 d (i + 1) n (by omega) (by omega) (by omega) h j (by omega) g2
   · rw [loopF_inr e] at h; cases h
theorem getD_ext {α : Type} [Inhabited α] {a b : List α} (h : a.length = b.length) (h2 : ∀ j, j < a.length → a.getD j default = b.getD j default) : a = b := by
 refine List.ext_getElem h fun i h3 h4 => ?_
 have := h2 i h3
 rw [gdq, gdq, List.getElem?_eq_getElem h3, List.getElem?_eq_getElem h4] at this
 exact this
theorem ints_eq {a b : List Int} (h : F27_L_L a b = true) : a = b := by
 unfold F27_L_L at h
 by_cases hl : a.length = b.length
 · rw [show (((a.length : Int) : Int) != (b.length : Int)) = false by rw [hl]; simp, cond_false] at h
   refine getD_ext hl (all_inv (N := a.length) (p := fun j => a.getD j default = b.getD j default) (fun i hi => ?_) a.length 0 _ (by omega) (by omega) (by omega) h · (Nat.zero_le _) ·)
   simp only [S27_L_L_0, itn]
   rw [dqt (show ((i : Nat) : Int) < (a.length : Nat) by omega), cond_true]
   cases e : ((a.getD i default : Int) != b.getD i default) with
   | true => exact .inr rfl
   | false => exact .inl ⟨rfl, bne_eq_false_iff_eq.1 e⟩
 · rw [show (((a.length : Int) : Int) != (b.length : Int)) = true by rw [bne_iff_ne]; omega, cond_true] at h
   cases h
theorem trees_eq {a b : TR} (h : F13 a b = true) : a = b := by
 unfold F13 at h
 cases h1 : F27_L_L a.1 b.1 with
 | false => rw [h1] at h; cases h
 | true =>
   rw [h1, Bool.not_true, cond_false] at h
   by_cases hl : a.2.length = b.2.length
   · rw [show (((a.2.length : Int) : Int) != (b.2.length : Int)) = false by rw [hl]; simp, cond_false] at h
     refine Prod.ext (ints_eq h1) (getD_ext hl (all_inv (N := a.2.length) (p := fun j => a.2.getD j default = b.2.getD j default) (fun i hi => ?_) a.2.length 0 _ (by omega) (by omega) (by omega) h · (Nat.zero_le _) ·))
     simp only [S13_0, itn]
     rw [dqt (show ((i : Nat) : Int) < (a.2.length : Nat) by omega), cond_true]
     generalize a.2.getD i default = x
     generalize b.2.getD i default = y
     obtain ⟨x1, x2, x3, x4, ⟨x5, x6, x7⟩, x8⟩ := x
     obtain ⟨y1, y2, y3, y4, ⟨y5, y6, y7⟩, y8⟩ := y
     dsimp only
     rw [Bool.cond_eq_ite]
     split
     · exact .inr rfl
     · rename_i hq
       refine .inl ⟨rfl, ?_⟩
       simp at hq ⊢
       omega
   · rw [show (((a.2.length : Int) : Int) != (b.2.length : Int)) = true by rw [bne_iff_ne]; omega, cond_true] at h
     cases h
theorem rck_loop {l : LCH} {t : TR} (hv : VCH l) : ∀ (n : Nat) (v : Int), 1 ≤ v → loopF (S16_L_0 l t) n v = loopF (S15_L_0 l t) n v
 | 0, _, _ => rfl
 | n + 1, v, h => by
   have e : S16_L_0 l t v = S15_L_0 l t v := by
     simp only [S16_L_0, S15_L_0, same_eq, bld_eq l hv h, rbl_eq l hv.1 h]
   have h2 : (S15_L_0 l t v = .inl (v + 1)) ∨ (∃ r, S15_L_0 l t v = .inr r) := by
     simp only [S15_L_0]
     rw [Bool.cond_eq_ite]
     split
     · rw [Bool.cond_eq_ite]
       split
       · exact .inr ⟨_, rfl⟩
       · exact .inl rfl
     · exact .inr ⟨_, rfl⟩
   rcases h2 with h2 | ⟨r, h2⟩
   · rw [loopF_inl (e.trans h2), loopF_inl h2]; exact rck_loop hv n (v + 1) (by omega)
   · rw [loopF_inr (e.trans h2), loopF_inr h2]
theorem Check_eq (l : LCH) (t : TR) : F16_L l t = F15_L l t := by
 unfold F16_L F15_L
 rw [vch_eq]
 cases h : ((F35_L l : Int) != 0) with
 | true => rfl
 | false => exact rck_loop (vch_ok (by rw [vch_eq]; exact bne_eq_false_iff_eq.1 h)) _ 1 (Int.le_refl _)
theorem rck_ok {l : LCH} {t : TR} (h : F15_L l t = 0) : VCH l ∧ ∃ leaf : Int, 1 ≤ leaf ∧ leaf ≤ 16 ∧ t = BT l leaf := by
 unfold F15_L at h
 cases h0 : ((F35_L l : Int) != 0) with
 | true => rw [h0, cond_true] at h; rw [h] at h0; cases h0
 | false =>
   rw [h0, cond_false] at h
   have hv := vch_ok (l := l) (by rw [vch_eq]; exact bne_eq_false_iff_eq.1 h0)
   refine ⟨hv, ?_⟩
   have lp : ∀ (n : Nat) (v : Int), 1 ≤ v → toNat (17 - v) < n → loopF (S15_L_0 l t) n v = 0 → ∃ leaf : Int, 1 ≤ leaf ∧ leaf ≤ 16 ∧ t = BT l leaf := by
     intro n
     induction n with
     | zero => intro _ _ h; exact absurd h (nlz _)
     | succ n ih =>
       intro v h1 h2 h3
       by_cases hv16 : v ≤ 16
       · cases hs : F13 (t.1, t.2) ((F36_L l v).1, (F36_L l v).2) with
         | true =>
           have := trees_eq hs
           exact ⟨v, h1, hv16, by rw [← rbl_eq l hv.1 h1]; exact this⟩
         | false =>
           have e : S15_L_0 l t v = .inl (v + 1) := by
             simp only [S15_L_0]
             rw [dqt hv16, cond_true, hs, cond_false]
           rw [loopF_inl e] at h3
           exact ih (v + 1) (by omega) (by omega) h3
       · have e : S15_L_0 l t v = .inr 1 := by
           simp only [S15_L_0]
           rw [dqf hv16, cond_false]
         rw [loopF_inr e] at h3
         exact absurd h3 (by decide)
   exact lp _ 1 (Int.le_refl _) (by omega) h
structure NOK (fr m a k : Int) (x : NDE) : Prop where
 c1 : fr ≤ x.1
 c2 : x.1 < x.2.1
 c3 : x.2.1 ≤ fr + m
 c4 : (x.2.2.1 = -1 ∧ x.2.2.2.1 = -1) ∨ (a < x.2.2.1 ∧ x.2.2.1 < a + k ∧ a < x.2.2.2.1 ∧ x.2.2.2.1 < a + k)
theorem GT_ne (l : LCH) (leaf : Int) (n : Nat) (ns : List Int) (fr a : Int) : 1 ≤ (GT l leaf (n + 1) ns fr a).2.length := by
 by_cases h0 : (ns.length : Int) ≤ leaf
 · rw [GT_leaf h0]; simp
 · rw [GT_node h0]; simp
theorem GT_ok (l : LCH) {leaf : Int} (hl : 1 ≤ leaf) : ∀ (n : Nat) (ns : List Int) (fr a : Int), ns.length < n → 1 ≤ ns.length → ∀ x ∈ (GT l leaf n ns fr a).2, NOK fr ns.length a (GT l leaf n ns fr a).2.length x
 | 0, _, _, _, h, _ => absurd h (nlz _)
 | n + 1, ns, fr, a, h, h1 => by
   by_cases h0 : (ns.length : Int) ≤ leaf
   · rw [GT_leaf h0]
     intro x hx
     rw [List.mem_singleton.1 hx]
     exact ⟨Int.le_refl _, by unfold ndR; dsimp only; omega, by unfold ndR; exact Int.le_refl _, .inl ⟨rfl, rfl⟩⟩
   · rw [GT_node h0]
     have hsl := srt_len l (F84_L_L l ns) ns
     obtain ⟨n, rfl⟩ : ∃ k, n = k + 1 := ⟨n - 1, by omega⟩
     have g1 := GT_ok l hl (n + 1) ((srt l (F84_L_L l ns) ns).take ((ns.length + 1) / 2)) fr (a + 1) (by rw [List.length_take, hsl]; omega) (by rw [List.length_take, hsl]; omega)
     have g2 := GT_ok l hl (n + 1) ((srt l (F84_L_L l ns) ns).drop ((ns.length + 1) / 2)) (fr + ((ns.length + 1) / 2 : Nat)) (a + 1 + (GT l leaf (n + 1) ((srt l (F84_L_L l ns) ns).take ((ns.length + 1) / 2)) fr (a + 1)).2.length) (by rw [List.length_drop, hsl]; omega) (by rw [List.length_drop, hsl]; omega)
     have k1 := GT_ne l leaf n ((srt l (F84_L_L l ns) ns).take ((ns.length + 1) / 2)) fr (a + 1)
     have k2 := GT_ne l leaf n ((srt l (F84_L_L l ns) ns).drop ((ns.length + 1) / 2)) (fr + ((ns.length + 1) / 2 : Nat)) (a + 1 + (GT l leaf (n + 1) ((srt l (F84_L_L l ns) ns).take ((ns.length + 1) / 2)) fr (a + 1)).2.length)
     rw [List.length_take, hsl] at g1
     rw [List.length_drop, hsl] at g2
     generalize GT l leaf (n + 1) ((srt l (F84_L_L l ns) ns).take ((ns.length + 1) / 2)) fr (a + 1) = A at g1 g2 k1 k2 ⊢
     generalize GT l leaf (n + 1) ((srt l (F84_L_L l ns) ns).drop ((ns.length + 1) / 2)) (fr + ((ns.length + 1) / 2 : Nat)) (a + 1 + A.2.length) = B at g2 k2 ⊢
     intro x hx
     simp only [List.length_cons, List.length_append, Int.natCast_add, Int.natCast_one]
     rcases List.mem_cons.1 hx with rfl | hx
     · exact ⟨Int.le_refl _, by unfold ndR; dsimp only; omega, by unfold ndR; exact Int.le_refl _, .inr ⟨by unfold ndR; dsimp only; omega, by unfold ndR; dsimp only; omega, by unfold ndR; dsimp only; omega, by unfold ndR; dsimp only; omega⟩⟩
     · rcases List.mem_append.1 hx with hx | hx
       · obtain ⟨c1, c2, c3, c4⟩ := g1 x hx
         exact ⟨c1, c2, by omega, by rcases c4 with c4 | c4; exact .inl c4; exact .inr (by omega)⟩
       · obtain ⟨c1, c2, c3, c4⟩ := g2 x hx
         exact ⟨by omega, c2, by omega, by rcases c4 with c4 | c4; exact .inl c4; exact .inr (by omega)⟩
theorem BT_ok (l : LCH) {leaf : Int} (hl : 1 ≤ leaf) : ∀ x ∈ (BT l leaf).2, NOK 0 l.length 0 (BT l leaf).2.length x := by
 unfold BT
 by_cases h0 : l.length = 0
 · rw [if_pos h0]; intro x hx; cases hx
 · rw [if_neg h0]
   have := GT_ok l hl (l.length + 1) (nums l.length) 0 0 (by rw [nums_len]; omega) (by rw [nums_len]; omega)
   rw [nums_len] at this
   exact this



inductive TRE (N : List NDE) : Nat → Nat → Int → Int → Int → Prop where
 | leaf {a : Nat} {f t : Int} : a < N.length → f < t → (N.getD a default).1 = f → (N.getD a default).2.1 = t → (N.getD a default).2.2.1 = -1 → (N.getD a default).2.2.2.1 = -1 → TRE N a 1 f t 1
 | node {a m1 m2 : Nat} {f c t h1 h2 : Int} : a < N.length → (N.getD a default).1 = f → (N.getD a default).2.1 = t → (N.getD a default).2.2.1 = ((a + 1 : Nat) : Int) → (N.getD a default).2.2.2.1 = ((a + 1 + m1 : Nat) : Int) → TRE N (a + 1) m1 f c h1 → TRE N (a + 1 + m1) m2 c t h2 → TRE N a (m1 + m2 + 1) f t (1 + imx h1 h2)
theorem imxb (a b : Int) : a ≤ imx a b ∧ b ≤ imx a b ∧ (imx a b = a ∨ imx a b = b) := by unfold imx; split <;> omega
theorem tre_le {N : List NDE} {a m : Nat} {f t h : Int} (H : TRE N a m f t h) : a + m ≤ N.length ∧ 1 ≤ m ∧ f < t ∧ 1 ≤ h ∧ h ≤ m ∧ (N.getD a default).1 = f ∧ (N.getD a default).2.1 = t := by
 induction H with
 | leaf h1 h2 h3 h4 _ _ => exact ⟨by omega, Nat.le_refl _, h2, Int.le_refl _, Int.le_refl _, h3, h4⟩
 | node g1 g2 g3 g4 g5 _ _ i1 i2 =>
   rename_i h1 h2 _ _
   have := imxb h1 h2
   exact ⟨by omega, by omega, by omega, by omega, by omega, g2, g3⟩
theorem getD_app1 {α : Type} [Inhabited α] {x y : List α} {j : Nat} (h : j < x.length) : (x ++ y).getD j default = x.getD j default := by
 rw [gdq, gdq, List.getElem?_append_left h]
theorem getD_app2 {α : Type} [Inhabited α] {x y : List α} {j : Nat} : (x ++ y).getD (x.length + j) default = y.getD j default := by
 rw [gdq, gdq, List.getElem?_append_right (by omega), Nat.add_sub_cancel_left]
theorem GT_tre (l : LCH) {leaf : Int} (hl : 1 ≤ leaf) : ∀ (n : Nat) (ns : List Int) (fr : Int) (a : Nat) (N : List NDE), ns.length < n → 1 ≤ ns.length → a + (GT l leaf n ns fr a).2.length ≤ N.length →
   (∀ j, j < (GT l leaf n ns fr a).2.length → N.getD (a + j) default = (GT l leaf n ns fr a).2.getD j default) → ∃ h, TRE N a (GT l leaf n ns fr a).2.length fr (fr + ns.length) h
 | 0, _, _, _, _, h, _ => absurd h (nlz _)
 | n + 1, ns, fr, a, N, h, h1 => by
   by_cases h0 : (ns.length : Int) ≤ leaf
   · rw [GT_leaf h0]
     intro g1 g2
     have e := g2 0 (by simp)
     rw [Nat.add_zero] at e
     have e' : N.getD a default = ndR l ns fr (-1) (-1) := e
     exact ⟨1, TRE.leaf (by simp only [List.length_singleton] at g1; omega) (by omega) (by rw [e']; rfl) (by rw [e']; rfl) (by rw [e']; rfl) (by rw [e']; rfl)⟩
   · rw [GT_node h0]
     have hsl := srt_len l (F84_L_L l ns) ns
     have ea : ((a : Nat) : Int) + 1 = ((a + 1 : Nat) : Int) := by omega
     rw [ea]
     have c1 := GT_tre l hl n ((srt l (F84_L_L l ns) ns).take ((ns.length + 1) / 2)) fr (a + 1) N (by rw [List.length_take, hsl]; omega) (by rw [List.length_take, hsl]; omega)
     have c2 := GT_tre l hl n ((srt l (F84_L_L l ns) ns).drop ((ns.length + 1) / 2)) (fr + ((ns.length + 1) / 2 : Nat)) (a + 1 + (GT l leaf n ((srt l (F84_L_L l ns) ns).take ((ns.length + 1) / 2)) fr ((a + 1 : Nat) : Int)).2.length) N (by rw [List.length_drop, hsl]; omega) (by rw [List.length_drop, hsl]; omega)
     rw [List.length_take, hsl] at c1
     rw [List.length_drop, hsl] at c2
     rw [show (((a + 1 : Nat) : Int) + (((GT l leaf n ((srt l (F84_L_L l ns) ns).take ((ns.length + 1) / 2)) fr ((a + 1 : Nat) : Int)).2.length : Nat) : Int)) = ((a + 1 + (GT l leaf n ((srt l (F84_L_L l ns) ns).take ((ns.length + 1) / 2)) fr ((a + 1 : Nat) : Int)).2.length : Nat) : Int) by omega]
     generalize GT l leaf n ((srt l (F84_L_L l ns) ns).take ((ns.length + 1) / 2)) fr ((a + 1 : Nat) : Int) = A at c1 c2 ⊢
     generalize GT l leaf n ((srt l (F84_L_L l ns) ns).drop ((ns.length + 1) / 2)) (fr + ((ns.length + 1) / 2 : Nat)) ((a + 1 + A.2.length : Nat) : Int) = B at c2 ⊢
     intro g1 g2
     simp only [List.length_cons, List.length_append] at g1 g2 ⊢
     have e' : N.getD a default = ndR l ns fr ((a + 1 : Nat) : Int) ((a + 1 + A.2.length : Nat) : Int) := g2 0 (by omega)
     obtain ⟨x1, d1⟩ := c1 (by omega) (fun j hj => by
       have := g2 (j + 1) (by omega)
       rw [List.getD_cons_succ, getD_app1 hj] at this
       rw [← this]; congr 1; omega)
     obtain ⟨x2, d2⟩ := c2 (by omega) (fun j hj => by
       have := g2 (A.2.length + j + 1) (by omega)
       rw [List.getD_cons_succ, getD_app2] at this
       rw [← this]; congr 1; omega)
     rw [show fr + ((min ((ns.length + 1) / 2) ns.length : Nat) : Int) = fr + (((ns.length + 1) / 2 : Nat) : Int) by omega] at d1
     rw [show fr + (((ns.length + 1) / 2 : Nat) : Int) + ((ns.length - (ns.length + 1) / 2 : Nat) : Int) = fr + (ns.length : Int) by omega] at d2
     exact ⟨_, TRE.node (by omega) (by rw [e']; rfl) (by rw [e']; rfl) (by rw [e']; rfl) (by rw [e']; rfl) d1 d2⟩
theorem BT_tre (l : LCH) {leaf : Int} (hl : 1 ≤ leaf) : (l.length = 0 ∧ BT l leaf = ([], [])) ∨ ∃ h, TRE (BT l leaf).2 0 (BT l leaf).2.length 0 l.length h := by
 unfold BT
 by_cases h0 : l.length = 0
 · rw [if_pos h0]; exact .inl ⟨h0, rfl⟩
 · rw [if_neg h0]
   have := GT_tre l hl (l.length + 1) (nums l.length) 0 0 (GT l leaf (l.length + 1) (nums l.length) 0 ((0 : Nat) : Int)).2 (by rw [nums_len]; omega) (by rw [nums_len]; omega) (by omega) (fun j _ => by rw [Nat.zero_add])
   rw [nums_len, Int.zero_add] at this
   exact .inr this
theorem gset {α : Type} [Inhabited α] {D : List α} {i : Nat} {x : α} (h : i < D.length) : (D.set i x).getD i default = x := by
 rw [gdq, List.getElem?_set_self h]; rfl
theorem gsne {α : Type} [Inhabited α] {D : List α} {i j : Nat} {x : α} (h : i ≠ j) : (D.set i x).getD j default = D.getD j default := by
 rw [gdq, gdq, List.getElem?_set_ne h]

theorem tre_kids {N : List NDE} {a m : Nat} {f u h : Int} (H : TRE N a m f u h) : (m = 1 ∧ h = 1 ∧ (N.getD a default).2.2.1 = -1 ∧ (N.getD a default).2.2.2.1 = -1) ∨
   ∃ (m1 m2 : Nat) (c h1 h2 : Int), m = m1 + m2 + 1 ∧ (N.getD a default).2.2.1 = ((a + 1 : Nat) : Int) ∧ (N.getD a default).2.2.2.1 = ((a + 1 + m1 : Nat) : Int) ∧ TRE N (a + 1) m1 f c h1 ∧ TRE N (a + 1 + m1) m2 c u h2 ∧ h = 1 + imx h1 h2 := by
 cases H with
 | leaf h1 h2 h3 h4 h5 h6 => exact .inl ⟨rfl, rfl, h5, h6⟩
 | node g1 g2 g3 g4 g5 b1 b2 => exact .inr ⟨_, _, _, _, _, rfl, g4, g5, b1, b2, rfl⟩
def F40 (a0 : Int × Int × Int) (a1 : Int × Int × Int) : Int × Int × Int :=
 ((W (a0.1 - a1.1)), (W (a0.2.1 - a1.2.1)), (W (a0.2.2 - a1.2.2)))

theorem C40 (a0 : Int × Int × Int) (a1 : Int × Int × Int) : Con Try.prog 40 [(.a (k3 a0)), (.a (k3 a1))] [] (.a (k3 (F40 a0 a1))) [] := by
 refine con_s Try.func40 (by kernel_rfl) fun cx hcx => ?_
 have e := Eq.refl (F40 a0 a1); conv at e => rhs; simp only [F40]
 rw [e]
 exact rt [] [] [] hcx (by kernel_rfl)

def F39 (a0 : Int × Int × Int) : Int :=
 (W ((W ((W (a0.1 * a0.1)) + (W (a0.2.1 * a0.2.1)))) + (W (a0.2.2 * a0.2.2))))

theorem C39 (a0 : Int × Int × Int) : Con Try.prog 39 [(.a (k3 a0))] [] (iv (F39 a0)) [] := by
 refine con_s Try.func39 (by kernel_rfl) fun cx hcx => ?_
 have e := Eq.refl (F39 a0); conv at e => rhs; simp only [F39]
 rw [e]
 exact rt [] [] [] hcx (by kernel_rfl)


def F49_L (a0 : TyL) (a1 : List (Int) × TyN) (a2 : Int) : Int :=
 (bif (((F16_L a0 (a1.1, a1.2)) : Int) != 0) then
  (F16_L a0 (a1.1, a1.2))
 else
  (bif (!(F33 a2 1 16)) then
   1
  else
   0))

theorem C49_L (a0 : TyL) (a1 : List (Int) × TyN) (a2 : Int) (l0 : a0.length ≤ 9223372036854775807) (l1_1 : a1.1.length ≤ 9223372036854775807) (l1_2 : a1.2.length ≤ 9223372036854775807) : Con Try.prog 49 [(.s 0 0 a0.length 10), (.a [(.s 1 0 a1.1.length 1), (.s 2 0 a1.2.length 8)]), (iv a2)] [(.live false true (flat c81 a0)), (.live false true (flat c3 a1.1)), (.live false true (flat c40 a1.2))] (iv (F49_L a0 a1 a2)) [] := by
 refine con_s Try.func49 (by kernel_rfl) fun cx hcx => ?_
 let t0 : List (St Try.prog) := [.c [0, 1, 2] (C16_L a0 (a1.1, a1.2) (by omega) (by (try simp only [Lt]); omega) (by (try simp only [Lt]); omega))]
 cases h0 : (((F16_L a0 (a1.1, a1.2)) : Int) != 0) with
 | true =>
  have q0 := bne_iff_ne.1 h0
  have e := Eq.refl (F49_L a0 a1 a2); conv at e => rhs; simp only [F49_L, h0, cdb]
  rw [e]
  exact rt (t0 ++ [.d h0]) [] [] hcx (by kernel_rfl)
 | false =>
  have q0 := bne_eq_false_iff_eq.1 h0
  let t1 : List (St Try.prog) := (t0 ++ [.d h0, .c [] (C33 a2 1 16)])
  cases h1 : (!(F33 a2 1 16)) with
  | true =>
   have e := Eq.refl (F49_L a0 a1 a2); conv at e => rhs; simp only [F49_L, h0, h1, cdb]
   rw [e]
   exact rt (t1 ++ [.d h1]) [] [] hcx (by kernel_rfl)
  | false =>
   have e := Eq.refl (F49_L a0 a1 a2); conv at e => rhs; simp only [F49_L, h0, h1, cdb]
   rw [e]
   exact rt (t1 ++ [.d h1]) [] [] hcx (by kernel_rfl)


def NODS (t : TR) : Prop := t.1.length ≤ 1048576 ∧ t.2.length ≤ 1048576 ∧ ∀ i : Nat, i < t.2.length → 0 ≤ (t.2.getD i default).1 ∧ (t.2.getD i default).1 < (t.2.getD i default).2.1 ∧ (t.2.getD i default).2.1 ≤ t.1.length
theorem BT_nods (l : LCH) (hl : l.length ≤ 96) {leaf : Int} (h1 : 1 ≤ leaf) : NODS (BT l leaf) := by
 have hb := BT_len l hl h1
 refine ⟨by omega, by omega, fun i hi => ?_⟩
 have := BT_ok l h1 _ (List.getElem_mem hi)
 rw [gdq, List.getElem?_eq_getElem hi]
 simp only [Option.getD_some]
 obtain ⟨c1, c2, c3, _⟩ := this
 omega

def F43 (a0 : Int) (a1 : Int) (a2 : Int) : Bool :=
 (bif (decide ((a0 : Int) ≥ a1)) then
  (decide ((a0 : Int) ≤ a2))
 else
  false)

theorem C43 (a0 : Int) (a1 : Int) (a2 : Int) : Con Try.prog 43 [(iv a0), (iv a1), (iv a2)] [] (.v (.bool (F43 a0 a1 a2))) [] := by
 refine con_s Try.func43 (by kernel_rfl) fun cx hcx => ?_
 cases h0 : (decide ((a0 : Int) ≥ a1)) with
 | true =>
  have q0 := odt h0
  have e := Eq.refl (F43 a0 a1 a2); conv at e => rhs; simp only [F43, h0, cdb]
  rw [e]
  exact rt [.d h0] [] [] hcx (by kernel_rfl)
 | false =>
  have q0 := odf h0
  have e := Eq.refl (F43 a0 a1 a2); conv at e => rhs; simp only [F43, h0, cdb]
  rw [e]
  exact rt [.d h0] [] [] hcx (by kernel_rfl)


section
variable {t : TR} {x : Int × Int × Int} {sep : Int} {a : Nat} {far pan : List Int} {d : Int}
end
end Go.Proofs.Ytnbpiejjeeomkaa

namespace Go.Proofs.Ytnbpiejjeeomkaa
open Go.Proofs Go.Aw Go.RowKit
set_option maxRecDepth 100000

theorem tck_0 {l : LCH} {t : TR} {sep : Int} (h : ((F49_L l t sep : Int) != 0) = false) : F15_L l t = 0 := by
 have h := bne_eq_false_iff_eq.1 h
 unfold F49_L at h
 rw [← Check_eq]
 cases h0 : ((F16_L l (t.1, t.2) : Int) != 0) with
 | true => rw [h0, cond_true] at h; exact h
 | false => exact bne_eq_false_iff_eq.1 h0


def F14_L (a0 : TyL) : Bool :=
 (bif (decide (((a0.length : Int) : Int) > 40)) then
  (bif (decide (((a0.length : Int) : Int) ≤ 96)) then
   true
  else
   (decide (((a0.length : Int) : Int) > 200)))
 else
  (decide (((a0.length : Int) : Int) > 200)))

theorem C14_L (a0 : TyL) (l0 : a0.length ≤ 9223372036854775807) : Con Try.prog 14 [(.s 0 0 a0.length 10)] [(.live false true (flat c81 a0))] (.v (.bool (F14_L a0))) [] := by
 refine con_s Try.func14 (by kernel_rfl) fun cx hcx => ?_
 cases h0 : (decide (((a0.length : Int) : Int) > 40)) with
 | true =>
  have q0 := odt h0
  let t1 : List (St Try.prog) := [.d h0]
  cases h1 : (decide (((a0.length : Int) : Int) ≤ 96)) with
  | true =>
   have q1 := odt h1
   have e := Eq.refl (F14_L a0); conv at e => rhs; simp only [F14_L, h0, h1, cdb]
   rw [e]
   exact rt (t1 ++ [.d h1]) [] [] hcx (by kernel_rfl)
  | false =>
   have q1 := odf h1
   have e := Eq.refl (F14_L a0); conv at e => rhs; simp only [F14_L, h0, h1, cdb]
   rw [e]
   exact rt (t1 ++ [.d h1]) [] [] hcx (by kernel_rfl)
 | false =>
  have q0 := odf h0
  have e := Eq.refl (F14_L a0); conv at e => rhs; simp only [F14_L, h0, cdb]
  rw [e]
  exact rt [.d h0] [] [] hcx (by kernel_rfl)



def inc (D : List Int) (j : Int) : List Int := D.set (toNat j) (W (D.getD (toNat j) default + 1))
theorem inc_len (D : List Int) (j : Int) : (inc D j).length = D.length := List.length_set

abbrev BLK := Int × Int × Bool
structure PVB (i k : Int) (t : TR) (out : List BLK) : Prop where
 e0 : 0 ≤ i
 e1 : 0 ≤ k
 e2 : t.2.length ≤ 1048576
 e3 : ∃ (m : Nat) (f u h : Int) (m' : Nat) (f' u' h' : Int), TRE t.2 (toNat i) m f u h ∧ TRE t.2 (toNat k) m' f' u' h' ∧ out.length + (u - f) * (u' - f') ≤ 1048576
theorem mul_ge1 {a b : Int} (ha : 1 ≤ a) (hb : 1 ≤ b) : 1 ≤ a * b := by
 have := Int.mul_le_mul ha hb (by omega) (by omega)
 omega
theorem pvb_bd {i k : Int} {t : TR} {out : List BLK} (h : PVB i k t out) : i < t.2.length ∧ k < t.2.length ∧ out.length + 1 ≤ 1048576 := by
 obtain ⟨e0, e1, e2, m, f, u, hh, m', f', u', hh', e3, e4, e5⟩ := h
 have h1 := tre_le e3
 have h2 := tre_le e4
 have h3 := mul_ge1 (a := u - f) (b := u' - f') (by omega) (by omega)
 omega
theorem mul_cut (a b c w : Int) : (c - a) * w + (b - c) * w = (b - a) * w := by
 rw [← Int.add_mul, show c - a + (b - c) = b - a by omega]
theorem mul_cut' (a b c w : Int) : w * (c - a) + w * (b - c) = w * (b - a) := by
 rw [← Int.mul_add, show c - a + (b - c) = b - a by omega]

def c71 (x : Int × Int × Bool) : List SV := [(iv x.1), (iv x.2.1), (.v (.bool x.2.2))]
theorem c71_len (x : Int × Int × Bool) : (c71 x).length = 3 := rfl

def A68_1 (a0 : Int) (a1 : Int) (a2 : List (Int) × TyN) (a3 : Int) (a4 : List (Int × Int × Bool)) := (F40 (a2.2.getD (toNat a0) default).2.2.2.2.1 (a2.2.getD (toNat a1) default).2.2.2.2.1)

def A68_2 (rr : (Int) → (Int) → (List (Int) × TyN) → (Int) → (List (Int × Int × Bool)) → List (Int × Int × Bool)) (a0 : Int) (a1 : Int) (a2 : List (Int) × TyN) (a3 : Int) (a4 : List (Int × Int × Bool)) := (rr (a2.2.getD (toNat a0) default).2.2.1 a1 (a2.1, a2.2) a3 a4)

def A68_3 (rr : (Int) → (Int) → (List (Int) × TyN) → (Int) → (List (Int × Int × Bool)) → List (Int × Int × Bool)) (a0 : Int) (a1 : Int) (a2 : List (Int) × TyN) (a3 : Int) (a4 : List (Int × Int × Bool)) := (rr (a2.2.getD (toNat a0) default).2.2.2.1 a1 (a2.1, a2.2) a3 (A68_2 (rr) a0 a1 a2 a3 a4))

def A68_4 (rr : (Int) → (Int) → (List (Int) × TyN) → (Int) → (List (Int × Int × Bool)) → List (Int × Int × Bool)) (a0 : Int) (a1 : Int) (a2 : List (Int) × TyN) (a3 : Int) (a4 : List (Int × Int × Bool)) := (rr a0 (a2.2.getD (toNat a1) default).2.2.1 (a2.1, a2.2) a3 a4)

def A68_5 (rr : (Int) → (Int) → (List (Int) × TyN) → (Int) → (List (Int × Int × Bool)) → List (Int × Int × Bool)) (a0 : Int) (a1 : Int) (a2 : List (Int) × TyN) (a3 : Int) (a4 : List (Int × Int × Bool)) := (rr a0 (a2.2.getD (toNat a1) default).2.2.2.1 (a2.1, a2.2) a3 (A68_4 (rr) a0 a1 a2 a3 a4))

noncomputable def B68_j6 : Code := (codeAtD [1, 1, 1, 0, 1, 0] [] (bodyOf Try.f68)).1
noncomputable def K68_j6 : List K := (codeAtD [1, 1, 1, 0, 1, 0] [] (bodyOf Try.f68)).2

def st68_j6 (nr : Nat) (a0 : Int) (a1 : Int) (a2 : List (Int) × TyN) (a3 : Int) (a4 : List (Int × Int × Bool)) (v2 : Bool) : LS := ⟨slN 105 [(0, (iv a0)), (1, (iv a1)), (4, (.p 4 0)), (11, (.v (.bool v2)))], [(.live false false [(.s 1 0 a2.1.length 1), (.s 2 0 a2.2.length 8)]), (.live false true (flat c3 a2.1)), (.live false true (flat c40 a2.2)), (.live false false [(iv a3)]), (.live true false [(.s 5 0 a4.length 3)]), (.live true true (flat c71 a4)), (.live false false [(.f 68 [(.p 0 0), (.p 3 0), (.p 4 0), (.p 6 0)])])]⟩

def S68_j6 (rr : (Int) → (Int) → (List (Int) × TyN) → (Int) → (List (Int × Int × Bool)) → List (Int × Int × Bool)) (a0 : Int) (a1 : Int) (a2 : List (Int) × TyN) (a3 : Int) (a4 : List (Int × Int × Bool)) : Bool → List (Int × Int × Bool)
 | v2 =>
  (a4 ++ [(a0, a1, v2)])

noncomputable def B68_j7 : Code := (codeAtD [1, 1, 1, 0, 1, 1, 0] [] (bodyOf Try.f68)).1
noncomputable def K68_j7 : List K := (codeAtD [1, 1, 1, 0, 1, 1, 0] [] (bodyOf Try.f68)).2

def st68_j7 (nr : Nat) (a0 : Int) (a1 : Int) (a2 : List (Int) × TyN) (a3 : Int) (a4 : List (Int × Int × Bool)) : LS := ⟨slN 105 [(0, (iv a0)), (1, (iv a1)), (5, (.p 6 0)), (8, (.p 7 0)), (9, (.p 8 0))], [(.live false false [(.s 1 0 a2.1.length 1), (.s 2 0 a2.2.length 8)]), (.live false true (flat c3 a2.1)), (.live false true (flat c40 a2.2)), (.live false false [(iv a3)]), (.live true false [(.s 5 0 a4.length 3)]), (.live true true (flat c71 a4)), (.live false false [(.f 68 [(.p 0 0), (.p 3 0), (.p 4 0), (.p 6 0)])]), (.live true false [(iv (a2.2.getD (toNat a0) default).1), (iv (a2.2.getD (toNat a0) default).2.1), (iv (a2.2.getD (toNat a0) default).2.2.1), (iv (a2.2.getD (toNat a0) default).2.2.2.1), (iv (a2.2.getD (toNat a0) default).2.2.2.2.1.1), (iv (a2.2.getD (toNat a0) default).2.2.2.2.1.2.1), (iv (a2.2.getD (toNat a0) default).2.2.2.2.1.2.2), (iv (a2.2.getD (toNat a0) default).2.2.2.2.2)]), (.live true false [(iv (a2.2.getD (toNat a1) default).1), (iv (a2.2.getD (toNat a1) default).2.1), (iv (a2.2.getD (toNat a1) default).2.2.1), (iv (a2.2.getD (toNat a1) default).2.2.2.1), (iv (a2.2.getD (toNat a1) default).2.2.2.2.1.1), (iv (a2.2.getD (toNat a1) default).2.2.2.2.1.2.1), (iv (a2.2.getD (toNat a1) default).2.2.2.2.1.2.2), (iv (a2.2.getD (toNat a1) default).2.2.2.2.2)])]⟩

def S68_j7 (rr : (Int) → (Int) → (List (Int) × TyN) → (Int) → (List (Int × Int × Bool)) → List (Int × Int × Bool)) (a0 : Int) (a1 : Int) (a2 : List (Int) × TyN) (a3 : Int) (a4 : List (Int × Int × Bool)) : Unit → List (Int × Int × Bool)
 | () =>
  (bif (decide (((a2.2.getD (toNat a1) default).2.2.1 : Int) < 0)) then
   (A68_3 (rr) a0 a1 a2 a3 a4)
  else
   (bif (decide (((a2.2.getD (toNat a0) default).2.2.1 : Int) ≥ 0)) then
    (bif (decide (((W ((a2.2.getD (toNat a0) default).2.1 - (a2.2.getD (toNat a0) default).1)) : Int) ≥ (W ((a2.2.getD (toNat a1) default).2.1 - (a2.2.getD (toNat a1) default).1)))) then
     (A68_3 (rr) a0 a1 a2 a3 a4)
    else
     (A68_5 (rr) a0 a1 a2 a3 a4))
   else
    (A68_5 (rr) a0 a1 a2 a3 a4)))

noncomputable def B68_j5 : Code := (codeAtD [1, 1, 1, 0, 0] [] (bodyOf Try.f68)).1
noncomputable def K68_j5 : List K := (codeAtD [1, 1, 1, 0, 0] [] (bodyOf Try.f68)).2

def st68_j5 (nr : Nat) (a0 : Int) (a1 : Int) (a2 : List (Int) × TyN) (a3 : Int) (a4 : List (Int × Int × Bool)) (v1 : Bool) : LS := ⟨slN 105 [(0, (iv a0)), (1, (iv a1)), (4, (.p 4 0)), (5, (.p 6 0)), (8, (.p 7 0)), (9, (.p 8 0)), (11, (.v (.bool v1)))], [(.live false false [(.s 1 0 a2.1.length 1), (.s 2 0 a2.2.length 8)]), (.live false true (flat c3 a2.1)), (.live false true (flat c40 a2.2)), (.live false false [(iv a3)]), (.live true false [(.s 5 0 a4.length 3)]), (.live true true (flat c71 a4)), (.live false false [(.f 68 [(.p 0 0), (.p 3 0), (.p 4 0), (.p 6 0)])]), (.live true false [(iv (a2.2.getD (toNat a0) default).1), (iv (a2.2.getD (toNat a0) default).2.1), (iv (a2.2.getD (toNat a0) default).2.2.1), (iv (a2.2.getD (toNat a0) default).2.2.2.1), (iv (a2.2.getD (toNat a0) default).2.2.2.2.1.1), (iv (a2.2.getD (toNat a0) default).2.2.2.2.1.2.1), (iv (a2.2.getD (toNat a0) default).2.2.2.2.1.2.2), (iv (a2.2.getD (toNat a0) default).2.2.2.2.2)]), (.live true false [(iv (a2.2.getD (toNat a1) default).1), (iv (a2.2.getD (toNat a1) default).2.1), (iv (a2.2.getD (toNat a1) default).2.2.1), (iv (a2.2.getD (toNat a1) default).2.2.2.1), (iv (a2.2.getD (toNat a1) default).2.2.2.2.1.1), (iv (a2.2.getD (toNat a1) default).2.2.2.2.1.2.1), (iv (a2.2.getD (toNat a1) default).2.2.2.2.1.2.2), (iv (a2.2.getD (toNat a1) default).2.2.2.2.2)])]⟩

def S68_j5 (rr : (Int) → (Int) → (List (Int) × TyN) → (Int) → (List (Int × Int × Bool)) → List (Int × Int × Bool)) (a0 : Int) (a1 : Int) (a2 : List (Int) × TyN) (a3 : Int) (a4 : List (Int × Int × Bool)) : Bool → List (Int × Int × Bool)
 | v1 =>
  (bif v1 then
   (S68_j6 rr a0 a1 a2 a3 a4 v1)
  else
   (bif (decide (((a2.2.getD (toNat a0) default).2.2.1 : Int) < 0)) then
    (bif (decide (((a2.2.getD (toNat a1) default).2.2.1 : Int) < 0)) then
     (S68_j6 rr a0 a1 a2 a3 a4 v1)
    else
     (S68_j7 rr a0 a1 a2 a3 a4 ()))
   else
    (S68_j7 rr a0 a1 a2 a3 a4 ())))

def R68 : Nat → (Int) → (Int) → (List (Int) × TyN) → (Int) → (List (Int × Int × Bool)) → List (Int × Int × Bool)
 | 0, _, _, _, _, _ => default
 | nr + 1, a0, a1, a2, a3, a4 =>
 (bif (decide (((F39 (A68_1 a0 a1 a2 a3 a4)) : Int) > 0)) then
  (S68_j5 (R68 nr) a0 a1 a2 a3 a4 (decide (((W ((W ((W ((W ((a2.2.getD (toNat a0) default).2.2.2.2.2 + (a2.2.getD (toNat a1) default).2.2.2.2.2)) * 4)) * a3)) * a3)) : Int) ≤ (F39 (A68_1 a0 a1 a2 a3 a4)))))
 else
  (S68_j5 (R68 nr) a0 a1 a2 a3 a4 false))

def F68 (a0 : Int) (a1 : Int) (a2 : List (Int) × TyN) (a3 : Int) (a4 : List (Int × Int × Bool)) : List (Int × Int × Bool) := R68 (((a2.2.length - toNat a0) + (a2.2.length - toNat a1)) + 1) a0 a1 a2 a3 a4

theorem blk_len : ∀ (nr : Nat) (i k : Int) (t : TR) (sep : Int) (out : List BLK) (m : Nat) (f u h : Int) (m' : Nat) (f' u' h' : Int), TRE t.2 (toNat i) m f u h → TRE t.2 (toNat k) m' f' u' h' → 0 ≤ i → 0 ≤ k → (t.2.length - toNat i) + (t.2.length - toNat k) < nr →
   ((R68 nr i k t sep out).length : Int) ≤ out.length + (u - f) * (u' - f')
 | 0, _, _, _, _, _, _, _, _, _, _, _, _, _, _, _, _, _, h => absurd h (nlz _)
 | nr + 1, i, k, t, sep, out, m, f, u, h, m', f', u', h', H, K, hi, hk, hn => by
   have hb := tre_le H
   have kb := tre_le K
   have hm := mul_ge1 (a := u - f) (b := u' - f') (by omega) (by omega)
   have hs : ∀ b : Bool, ((out ++ [(i, k, b)]).length : Int) ≤ out.length + (u - f) * (u' - f') := fun b => by rw [List.length_append, List.length_singleton]; omega
   have hA : ¬ (t.2.getD (toNat i) default).2.2.1 < 0 → ((A68_3 (R68 nr) i k t sep out).length : Int) ≤ out.length + (u - f) * (u' - f') := by
     intro hq
     rcases tre_kids H with ⟨_, _, h5, _⟩ | ⟨m1, m2, c, h1, h2, e8, g4, g5, b1, b2, e9⟩
     · omega
     · have l1 := tre_le b1
       have l2 := tre_le b2
       have c1 := blk_len nr (t.2.getD (toNat i) default).2.2.1 k t sep out m1 f c h1 m' f' u' h' (by rw [g4, itn]; exact b1) K (by omega) hk (by omega)
       have c2 := blk_len nr (t.2.getD (toNat i) default).2.2.2.1 k t sep (A68_2 (R68 nr) i k t sep out) m2 c u h2 m' f' u' h' (by rw [g5, itn]; exact b2) K (by omega) hk (by omega)
       have c3 := mul_cut f u c (u' - f')
       refine Int.le_trans c2 ?_
       have c4 : ((A68_2 (R68 nr) i k t sep out).length : Int) ≤ out.length + (c - f) * (u' - f') := c1
       omega
   have hB : ¬ (t.2.getD (toNat k) default).2.2.1 < 0 → ((A68_5 (R68 nr) i k t sep out).length : Int) ≤ out.length + (u - f) * (u' - f') := by
     intro hq
     rcases tre_kids K with ⟨_, _, h5, _⟩ | ⟨m1, m2, c, h1, h2, e8, g4, g5, b1, b2, e9⟩
     · omega
     · have l1 := tre_le b1
       have l2 := tre_le b2
       have c1 := blk_len nr i (t.2.getD (toNat k) default).2.2.1 t sep out m f u h m1 f' c h1 H (by rw [g4, itn]; exact b1) hi (by omega) (by omega)
       have c2 := blk_len nr i (t.2.getD (toNat k) default).2.2.2.1 t sep (A68_4 (R68 nr) i k t sep out) m f u h m2 c u' h2 H (by rw [g5, itn]; exact b2) hi (by omega) (by omega)
       have c3 := mul_cut' f' u' c (u - f)
       refine Int.le_trans c2 ?_
       have c4 : ((A68_4 (R68 nr) i k t sep out).length : Int) ≤ out.length + (u - f) * (c - f') := c1
       omega
   have hJ : 0 ≤ (t.2.getD (toNat i) default).2.2.1 ∨ 0 ≤ (t.2.getD (toNat k) default).2.2.1 → ((S68_j7 (R68 nr) i k t sep out ()).length : Int) ≤ out.length + (u - f) * (u' - f') := by
     intro hq
     simp only [S68_j7]
     by_cases z1 : (t.2.getD (toNat k) default).2.2.1 < 0
     · rw [dqt z1, cond_true]; exact hA (by omega)
     · rw [dqf z1, cond_false]
       by_cases z2 : (t.2.getD (toNat i) default).2.2.1 ≥ 0
       · rw [dqt z2, cond_true, Bool.cond_eq_ite]
         split
         · exact hA (by omega)
         · exact hB z1
       · rw [dqf z2, cond_false]; exact hB z1
   have h5 : ∀ b : Bool, ((S68_j5 (R68 nr) i k t sep out b).length : Int) ≤ out.length + (u - f) * (u' - f') := by
     intro b
     cases b with
     | true => exact hs true
     | false =>
       simp only [S68_j5, cond_false, S68_j6]
       by_cases z1 : (t.2.getD (toNat i) default).2.2.1 < 0
       · rw [dqt z1, cond_true]
         by_cases z2 : (t.2.getD (toNat k) default).2.2.1 < 0
         · rw [dqt z2, cond_true]; exact hs false
         · rw [dqf z2, cond_false]; exact hJ (by omega)
       · rw [dqf z1, cond_false]; exact hJ (by omega)
   simp only [R68]
   rw [Bool.cond_eq_ite]
   split
   · exact h5 _
   · exact h5 _
theorem pvb_a {nr : Nat} {i k : Int} {t : TR} {out : List BLK} (sep : Int) (h : PVB i k t out) (hlt : (t.2.length - toNat i) + (t.2.length - toNat k) < nr + 1) (hq : ¬ (t.2.getD (toNat i) default).2.2.1 < 0) :
   PVB (t.2.getD (toNat i) default).2.2.1 k t out ∧ PVB (t.2.getD (toNat i) default).2.2.2.1 k t (A68_2 (R68 nr) i k t sep out) ∧
   ((t.2.length - toNat (t.2.getD (toNat i) default).2.2.1) + (t.2.length - toNat k) < nr ∧ (t.2.length - toNat (t.2.getD (toNat i) default).2.2.2.1) + (t.2.length - toNat k) < nr) ∧ (A68_2 (R68 nr) i k t sep out).length ≤ 1048576 := by
 obtain ⟨e0, e1, e2, m, f, u, hh, m', f', u', hh', H, K, e5⟩ := h
 have hb := tre_le H
 have kb := tre_le K
 rcases tre_kids H with ⟨_, _, h5, _⟩ | ⟨m1, m2, c, h1, h2, e8, g4, g5, b1, b2, e9⟩
 · omega
 · have l1 := tre_le b1
   have l2 := tre_le b2
   have p1 := mul_ge1 (a := c - f) (b := u' - f') (by omega) (by omega)
   have p2 := mul_ge1 (a := u - c) (b := u' - f') (by omega) (by omega)
   have c3 := mul_cut f u c (u' - f')
   have c1 := blk_len nr (t.2.getD (toNat i) default).2.2.1 k t sep out m1 f c h1 m' f' u' hh' (by rw [g4, itn]; exact b1) K (by omega) e1 (by omega)
   have c4 : ((A68_2 (R68 nr) i k t sep out).length : Int) ≤ out.length + (c - f) * (u' - f') := c1
   exact ⟨⟨by omega, e1, e2, m1, f, c, h1, m', f', u', hh', by rw [g4, itn]; exact b1, K, by omega⟩, ⟨by omega, e1, e2, m2, c, u, h2, m', f', u', hh', by rw [g5, itn]; exact b2, K, by omega⟩, ⟨by omega, by omega⟩, by omega⟩
theorem pvb_b {nr : Nat} {i k : Int} {t : TR} {out : List BLK} (sep : Int) (h : PVB i k t out) (hlt : (t.2.length - toNat i) + (t.2.length - toNat k) < nr + 1) (hq : ¬ (t.2.getD (toNat k) default).2.2.1 < 0) :
   PVB i (t.2.getD (toNat k) default).2.2.1 t out ∧ PVB i (t.2.getD (toNat k) default).2.2.2.1 t (A68_4 (R68 nr) i k t sep out) ∧
   ((t.2.length - toNat i) + (t.2.length - toNat (t.2.getD (toNat k) default).2.2.1) < nr ∧ (t.2.length - toNat i) + (t.2.length - toNat (t.2.getD (toNat k) default).2.2.2.1) < nr) ∧ (A68_4 (R68 nr) i k t sep out).length ≤ 1048576 := by
 obtain ⟨e0, e1, e2, m, f, u, hh, m', f', u', hh', H, K, e5⟩ := h
 have hb := tre_le H
 have kb := tre_le K
 rcases tre_kids K with ⟨_, _, h5, _⟩ | ⟨m1, m2, c, h1, h2, e8, g4, g5, b1, b2, e9⟩
 · omega
 · have l1 := tre_le b1
   have l2 := tre_le b2
   have p1 := mul_ge1 (a := u - f) (b := c - f') (by omega) (by omega)
   have p2 := mul_ge1 (a := u - f) (b := u' - c) (by omega) (by omega)
   have c3 := mul_cut' f' u' c (u - f)
   have c1 := blk_len nr i (t.2.getD (toNat k) default).2.2.1 t sep out m f u hh m1 f' c h1 H (by rw [g4, itn]; exact b1) e0 (by omega) (by omega)
   have c4 : ((A68_4 (R68 nr) i k t sep out).length : Int) ≤ out.length + (u - f) * (c - f') := c1
   exact ⟨⟨e0, by omega, e2, m, f, u, hh, m1, f', c, h1, H, by rw [g4, itn]; exact b1, by omega⟩, ⟨e0, by omega, e2, m, f, u, hh, m2, c, u', h2, H, by rw [g5, itn]; exact b2, by omega⟩, ⟨by omega, by omega⟩, by omega⟩

theorem L68_j6 (nr : Nat) (a0 : Int) (a1 : Int) (a2 : List (Int) × TyN) (a3 : Int) (a4 : List (Int × Int × Bool)) (l2_1 : a2.1.length ≤ 9223372036854775807) (l2_2 : a2.2.length ≤ 9223372036854775807) (l4 : a4.length ≤ 9223372036854775807) (hp : PVB a0 a1 a2 a4) (hlt : ((a2.2.length - toNat a0) + (a2.2.length - toNat a1)) < nr + 1) (ihr : ∀ (a0 : Int) (a1 : Int) (a2 : List (Int) × TyN) (a3 : Int) (a4 : List (Int × Int × Bool)) (l2_1 : a2.1.length ≤ 9223372036854775807) (l2_2 : a2.2.length ≤ 9223372036854775807) (l4 : a4.length ≤ 9223372036854775807) (hp : PVB a0 a1 a2 a4), ((a2.2.length - toNat a0) + (a2.2.length - toNat a1)) < nr → Con Try.prog 68 [(iv a0), (iv a1), (.p 0 0), (.p 3 0), (.p 4 0), (.p 6 0)] [(.live false false [(.s 1 0 a2.1.length 1), (.s 2 0 a2.2.length 8)]), (.live false true (flat c3 a2.1)), (.live false true (flat c40 a2.2)), (.live false false [(iv a3)]), (.live true false [(.s 5 0 a4.length 3)]), (.live true true (flat c71 a4)), (.live false false [(.f 68 [(.p 0 0), (.p 3 0), (.p 4 0), (.p 6 0)])])] (.t []) [(.live true true (flat c71 (R68 nr a0 a1 a2 a3 a4)))] [.un, .un, .un, .un, (.live true false [(.s 7 0 (R68 nr a0 a1 a2 a3 a4).length 3)]), .dead, .un]) {cx : Cx} (hcx : cx.base = 7) (v2 : Bool) : True → Aw.Good Try.prog none 9 (bodyPost Try.prog Try.f68 (RR cx (.t []) [(.live true true (flat c71 (S68_j6 (R68 nr) a0 a1 a2 a3 a4 v2)))] [.un, .un, .un, .un, (.live true false [(.s 7 0 (S68_j6 (R68 nr) a0 a1 a2 a3 a4 v2).length 3)]), .dead, .un])) cx [] (.c B68_j6 :: K68_j6) (st68_j6 nr a0 a1 a2 a3 a4 v2) := by
 intro hi
 have hpb := pvb_bd hp
 have hp1 := hp.e0
 have hp2 := hp.e1
 have hp3 := hp.e2
 have e := Eq.refl (S68_j6 (R68 nr) a0 a1 a2 a3 a4 v2); conv at e => rhs; simp only [S68_j6]
 rw [e]
 try dsimp only [thenF]
 try dsimp only
 rw [show flat c71 (a4 ++ [(a0, a1, v2)]) = (flat c71 a4 ++ [(iv a0), (iv a1), (.v (.bool v2))]) from flat_append]
 try rw [show List.length (α := Int × Int × Bool) (a4 ++ [(a0, a1, v2)]) = (a4.length + 1) from by first | simp; done | omega]
 exact rtn [.p (show ((flat c71 a4).length = a4.length * 3 ∧ a4.length + 1 ≤ 2 ^ 40 ∧ (a4.length + 1) * 24 ≤ 2 ^ 47) from app_ok c71_len (by omega) (by omega))] [] [4, 5] [8] hcx (by kernel_rfl)

theorem L68_j7 (nr : Nat) (a0 : Int) (a1 : Int) (a2 : List (Int) × TyN) (a3 : Int) (a4 : List (Int × Int × Bool)) (l2_1 : a2.1.length ≤ 9223372036854775807) (l2_2 : a2.2.length ≤ 9223372036854775807) (l4 : a4.length ≤ 9223372036854775807) (hp : PVB a0 a1 a2 a4) (hlt : ((a2.2.length - toNat a0) + (a2.2.length - toNat a1)) < nr + 1) (ihr : ∀ (a0 : Int) (a1 : Int) (a2 : List (Int) × TyN) (a3 : Int) (a4 : List (Int × Int × Bool)) (l2_1 : a2.1.length ≤ 9223372036854775807) (l2_2 : a2.2.length ≤ 9223372036854775807) (l4 : a4.length ≤ 9223372036854775807) (hp : PVB a0 a1 a2 a4), ((a2.2.length - toNat a0) + (a2.2.length - toNat a1)) < nr → Con Try.prog 68 [(iv a0), (iv a1), (.p 0 0), (.p 3 0), (.p 4 0), (.p 6 0)] [(.live false false [(.s 1 0 a2.1.length 1), (.s 2 0 a2.2.length 8)]), (.live false true (flat c3 a2.1)), (.live false true (flat c40 a2.2)), (.live false false [(iv a3)]), (.live true false [(.s 5 0 a4.length 3)]), (.live true true (flat c71 a4)), (.live false false [(.f 68 [(.p 0 0), (.p 3 0), (.p 4 0), (.p 6 0)])])] (.t []) [(.live true true (flat c71 (R68 nr a0 a1 a2 a3 a4)))] [.un, .un, .un, .un, (.live true false [(.s 7 0 (R68 nr a0 a1 a2 a3 a4).length 3)]), .dead, .un]) {cx : Cx} (hcx : cx.base = 7) : 0 ≤ (a2.2.getD (toNat a0) default).2.2.1 ∨ 0 ≤ (a2.2.getD (toNat a1) default).2.2.1 → Aw.Good Try.prog none 9 (bodyPost Try.prog Try.f68 (RR cx (.t []) [(.live true true (flat c71 (S68_j7 (R68 nr) a0 a1 a2 a3 a4 ())))] [.un, .un, .un, .un, (.live true false [(.s 7 0 (S68_j7 (R68 nr) a0 a1 a2 a3 a4 ()).length 3)]), .dead, .un])) cx [] (.c B68_j7 :: K68_j7) (st68_j7 nr a0 a1 a2 a3 a4) := by
 intro hi
 have hpb := pvb_bd hp
 have hp1 := hp.e0
 have hp2 := hp.e1
 have hp3 := hp.e2
 have hA := pvb_a a3 hp hlt
 have hB := pvb_b a3 hp hlt
 have hAl := fun q => (hA q).2.2.2
 have hBl := fun q => (hB q).2.2.2
 cases h0 : (decide (((a2.2.getD (toNat a1) default).2.2.1 : Int) < 0)) with
 | true =>
  have q0 := odt h0
  have e := Eq.refl (S68_j7 (R68 nr) a0 a1 a2 a3 a4 ()); conv at e => rhs; simp only [S68_j7, h0, cdb]
  rw [e]
  try dsimp only [thenF]
  try dsimp only
  exact rtn [.d h0, .c [0, 1, 2, 3, 4, 5, 6] (ihr (a2.2.getD (toNat a0) default).2.2.1 a1 (a2.1, a2.2) a3 a4 (by (try simp only [Lt]); omega) (by (try simp only [Lt]); omega) (by omega) (by first | exact (hA (by omega)).1 | exact (hA (by omega)).2.1 | exact (hB (by omega)).1 | exact (hB (by omega)).2.1) (by first | exact (hA (by omega)).2.2.1.1 | exact (hA (by omega)).2.2.1.2 | exact (hB (by omega)).2.2.1.1 | exact (hB (by omega)).2.2.1.2)), .c [0, 1, 2, 3, 4, 9, 6] (ihr (a2.2.getD (toNat a0) default).2.2.2.1 a1 (a2.1, a2.2) a3 (A68_2 (R68 nr) a0 a1 a2 a3 a4) (by (try simp only [Lt]); omega) (by (try simp only [Lt]); omega) (by (try simp only [Lt]); omega) (by first | exact (hA (by omega)).1 | exact (hA (by omega)).2.1 | exact (hB (by omega)).1 | exact (hB (by omega)).2.1) (by first | exact (hA (by omega)).2.2.1.1 | exact (hA (by omega)).2.2.1.2 | exact (hB (by omega)).2.2.1.1 | exact (hB (by omega)).2.2.1.2))] [] [4, 5] [10] hcx (by kernel_rfl)
 | false =>
  have q0 := odf h0
  let t1 : List (St Try.prog) := [.d h0]
  cases h1 : (decide (((a2.2.getD (toNat a0) default).2.2.1 : Int) ≥ 0)) with
  | true =>
   have q1 := odt h1
   let t2 : List (St Try.prog) := (t1 ++ [.d h1])
   cases h2 : (decide (((W ((a2.2.getD (toNat a0) default).2.1 - (a2.2.getD (toNat a0) default).1)) : Int) ≥ (W ((a2.2.getD (toNat a1) default).2.1 - (a2.2.getD (toNat a1) default).1)))) with
   | true =>
    have q2 := odt h2
    have e := Eq.refl (S68_j7 (R68 nr) a0 a1 a2 a3 a4 ()); conv at e => rhs; simp only [S68_j7, h0, h1, h2, cdb]
    rw [e]
    try dsimp only [thenF]
    try dsimp only
    exact rtn (t2 ++ [.d h2, .c [0, 1, 2, 3, 4, 5, 6] (ihr (a2.2.getD (toNat a0) default).2.2.1 a1 (a2.1, a2.2) a3 a4 (by (try simp only [Lt]); omega) (by (try simp only [Lt]); omega) (by omega) (by first | exact (hA (by omega)).1 | exact (hA (by omega)).2.1 | exact (hB (by omega)).1 | exact (hB (by omega)).2.1) (by first | exact (hA (by omega)).2.2.1.1 | exact (hA (by omega)).2.2.1.2 | exact (hB (by omega)).2.2.1.1 | exact (hB (by omega)).2.2.1.2)), .c [0, 1, 2, 3, 4, 9, 6] (ihr (a2.2.getD (toNat a0) default).2.2.2.1 a1 (a2.1, a2.2) a3 (A68_2 (R68 nr) a0 a1 a2 a3 a4) (by (try simp only [Lt]); omega) (by (try simp only [Lt]); omega) (by (try simp only [Lt]); omega) (by first | exact (hA (by omega)).1 | exact (hA (by omega)).2.1 | exact (hB (by omega)).1 | exact (hB (by omega)).2.1) (by first | exact (hA (by omega)).2.2.1.1 | exact (hA (by omega)).2.2.1.2 | exact (hB (by omega)).2.2.1.1 | exact (hB (by omega)).2.2.1.2))]) [] [4, 5] [10] hcx (by kernel_rfl)
   | false =>
    have q2 := odf h2
    have e := Eq.refl (S68_j7 (R68 nr) a0 a1 a2 a3 a4 ()); conv at e => rhs; simp only [S68_j7, h0, h1, h2, cdb]
    rw [e]
    try dsimp only [thenF]
    try dsimp only
    exact rtn (t2 ++ [.d h2, .c [0, 1, 2, 3, 4, 5, 6] (ihr a0 (a2.2.getD (toNat a1) default).2.2.1 (a2.1, a2.2) a3 a4 (by (try simp only [Lt]); omega) (by (try simp only [Lt]); omega) (by omega) (by first | exact (hA (by omega)).1 | exact (hA (by omega)).2.1 | exact (hB (by omega)).1 | exact (hB (by omega)).2.1) (by first | exact (hA (by omega)).2.2.1.1 | exact (hA (by omega)).2.2.1.2 | exact (hB (by omega)).2.2.1.1 | exact (hB (by omega)).2.2.1.2)), .c [0, 1, 2, 3, 4, 9, 6] (ihr a0 (a2.2.getD (toNat a1) default).2.2.2.1 (a2.1, a2.2) a3 (A68_4 (R68 nr) a0 a1 a2 a3 a4) (by (try simp only [Lt]); omega) (by (try simp only [Lt]); omega) (by (try simp only [Lt]); omega) (by first | exact (hA (by omega)).1 | exact (hA (by omega)).2.1 | exact (hB (by omega)).1 | exact (hB (by omega)).2.1) (by first | exact (hA (by omega)).2.2.1.1 | exact (hA (by omega)).2.2.1.2 | exact (hB (by omega)).2.2.1.1 | exact (hB (by omega)).2.2.1.2))]) [] [4, 5] [10] hcx (by kernel_rfl)
  | false =>
   have q1 := odf h1
   have e := Eq.refl (S68_j7 (R68 nr) a0 a1 a2 a3 a4 ()); conv at e => rhs; simp only [S68_j7, h0, h1, cdb]
   rw [e]
   try dsimp only [thenF]
   try dsimp only
   exact rtn (t1 ++ [.d h1, .c [0, 1, 2, 3, 4, 5, 6] (ihr a0 (a2.2.getD (toNat a1) default).2.2.1 (a2.1, a2.2) a3 a4 (by (try simp only [Lt]); omega) (by (try simp only [Lt]); omega) (by omega) (by first | exact (hA (by omega)).1 | exact (hA (by omega)).2.1 | exact (hB (by omega)).1 | exact (hB (by omega)).2.1) (by first | exact (hA (by omega)).2.2.1.1 | exact (hA (by omega)).2.2.1.2 | exact (hB (by omega)).2.2.1.1 | exact (hB (by omega)).2.2.1.2)), .c [0, 1, 2, 3, 4, 9, 6] (ihr a0 (a2.2.getD (toNat a1) default).2.2.2.1 (a2.1, a2.2) a3 (A68_4 (R68 nr) a0 a1 a2 a3 a4) (by (try simp only [Lt]); omega) (by (try simp only [Lt]); omega) (by (try simp only [Lt]); omega) (by first | exact (hA (by omega)).1 | exact (hA (by omega)).2.1 | exact (hB (by omega)).1 | exact (hB (by omega)).2.1) (by first | exact (hA (by omega)).2.2.1.1 | exact (hA (by omega)).2.2.1.2 | exact (hB (by omega)).2.2.1.1 | exact (hB (by omega)).2.2.1.2))]) [] [4, 5] [10] hcx (by kernel_rfl)

theorem L68_j5 (nr : Nat) (a0 : Int) (a1 : Int) (a2 : List (Int) × TyN) (a3 : Int) (a4 : List (Int × Int × Bool)) (l2_1 : a2.1.length ≤ 9223372036854775807) (l2_2 : a2.2.length ≤ 9223372036854775807) (l4 : a4.length ≤ 9223372036854775807) (hp : PVB a0 a1 a2 a4) (hlt : ((a2.2.length - toNat a0) + (a2.2.length - toNat a1)) < nr + 1) (ihr : ∀ (a0 : Int) (a1 : Int) (a2 : List (Int) × TyN) (a3 : Int) (a4 : List (Int × Int × Bool)) (l2_1 : a2.1.length ≤ 9223372036854775807) (l2_2 : a2.2.length ≤ 9223372036854775807) (l4 : a4.length ≤ 9223372036854775807) (hp : PVB a0 a1 a2 a4), ((a2.2.length - toNat a0) + (a2.2.length - toNat a1)) < nr → Con Try.prog 68 [(iv a0), (iv a1), (.p 0 0), (.p 3 0), (.p 4 0), (.p 6 0)] [(.live false false [(.s 1 0 a2.1.length 1), (.s 2 0 a2.2.length 8)]), (.live false true (flat c3 a2.1)), (.live false true (flat c40 a2.2)), (.live false false [(iv a3)]), (.live true false [(.s 5 0 a4.length 3)]), (.live true true (flat c71 a4)), (.live false false [(.f 68 [(.p 0 0), (.p 3 0), (.p 4 0), (.p 6 0)])])] (.t []) [(.live true true (flat c71 (R68 nr a0 a1 a2 a3 a4)))] [.un, .un, .un, .un, (.live true false [(.s 7 0 (R68 nr a0 a1 a2 a3 a4).length 3)]), .dead, .un]) {cx : Cx} (hcx : cx.base = 7) (v1 : Bool) : True → Aw.Good Try.prog none 9 (bodyPost Try.prog Try.f68 (RR cx (.t []) [(.live true true (flat c71 (S68_j5 (R68 nr) a0 a1 a2 a3 a4 v1)))] [.un, .un, .un, .un, (.live true false [(.s 7 0 (S68_j5 (R68 nr) a0 a1 a2 a3 a4 v1).length 3)]), .dead, .un])) cx [] (.c B68_j5 :: K68_j5) (st68_j5 nr a0 a1 a2 a3 a4 v1) := by
 intro hi
 have hpb := pvb_bd hp
 have hp1 := hp.e0
 have hp2 := hp.e1
 have hp3 := hp.e2
 rcases bool_tf v1 with h0 | h0
 · skip
   have e : S68_j5 (R68 nr) a0 a1 a2 a3 a4 v1 = (S68_j6 (R68 nr) a0 a1 a2 a3 a4 v1) := by simp only [S68_j5, h0, cdb]
   rw [e]
   refine ga [.d h0, .z 6] [] [0, 1, 4, 11] [] hcx B68_j6 (K68_j6) (st68_j6 nr a0 a1 a2 a3 a4 v1) (by kernel_rfl) ?_
   exact L68_j6 nr a0 a1 a2 a3 a4 l2_1 l2_2 l4 hp hlt ihr hcx v1 trivial
 · skip
   let t1 : List (St Try.prog) := [.d h0]
   cases h1 : (decide (((a2.2.getD (toNat a0) default).2.2.1 : Int) < 0)) with
   | true =>
    have q1 := odt h1
    let t2 : List (St Try.prog) := (t1 ++ [.d h1])
    cases h2 : (decide (((a2.2.getD (toNat a1) default).2.2.1 : Int) < 0)) with
    | true =>
     have q2 := odt h2
     have e : S68_j5 (R68 nr) a0 a1 a2 a3 a4 v1 = (S68_j6 (R68 nr) a0 a1 a2 a3 a4 v1) := by simp only [S68_j5, h0, h1, h2, cdb]
     rw [e]
     refine ga (t2 ++ [.d h2, .z 6]) [] [0, 1, 4, 11] [] hcx B68_j6 (K68_j6) (st68_j6 nr a0 a1 a2 a3 a4 v1) (by kernel_rfl) ?_
     exact L68_j6 nr a0 a1 a2 a3 a4 l2_1 l2_2 l4 hp hlt ihr hcx v1 trivial
    | false =>
     have q2 := odf h2
     have e := Eq.refl (S68_j5 (R68 nr) a0 a1 a2 a3 a4 v1); conv at e => rhs; simp only [S68_j5, h0, h1, h2, cdb]
     rw [e]
     refine ga (t2 ++ [.d h2, .z 7]) [] [0, 1, 5, 8, 9] [7, 8] hcx B68_j7 (K68_j7) (st68_j7 nr a0 a1 a2 a3 a4) (by kernel_rfl) ?_
     exact L68_j7 nr a0 a1 a2 a3 a4 l2_1 l2_2 l4 hp hlt ihr hcx (by omega)
   | false =>
    have q1 := odf h1
    have e := Eq.refl (S68_j5 (R68 nr) a0 a1 a2 a3 a4 v1); conv at e => rhs; simp only [S68_j5, h0, h1, cdb]
    rw [e]
    refine ga (t1 ++ [.d h1, .z 7]) [] [0, 1, 5, 8, 9] [7, 8] hcx B68_j7 (K68_j7) (st68_j7 nr a0 a1 a2 a3 a4) (by kernel_rfl) ?_
    exact L68_j7 nr a0 a1 a2 a3 a4 l2_1 l2_2 l4 hp hlt ihr hcx (by omega)

theorem Cr68 : ∀ (nr : Nat) (a0 : Int) (a1 : Int) (a2 : List (Int) × TyN) (a3 : Int) (a4 : List (Int × Int × Bool)) (l2_1 : a2.1.length ≤ 9223372036854775807) (l2_2 : a2.2.length ≤ 9223372036854775807) (l4 : a4.length ≤ 9223372036854775807) (hp : PVB a0 a1 a2 a4), ((a2.2.length - toNat a0) + (a2.2.length - toNat a1)) < nr → Con Try.prog 68 [(iv a0), (iv a1), (.p 0 0), (.p 3 0), (.p 4 0), (.p 6 0)] [(.live false false [(.s 1 0 a2.1.length 1), (.s 2 0 a2.2.length 8)]), (.live false true (flat c3 a2.1)), (.live false true (flat c40 a2.2)), (.live false false [(iv a3)]), (.live true false [(.s 5 0 a4.length 3)]), (.live true true (flat c71 a4)), (.live false false [(.f 68 [(.p 0 0), (.p 3 0), (.p 4 0), (.p 6 0)])])] (.t []) [(.live true true (flat c71 (R68 nr a0 a1 a2 a3 a4)))] [.un, .un, .un, .un, (.live true false [(.s 7 0 (R68 nr a0 a1 a2 a3 a4).length 3)]), .dead, .un] := by
 intro nr
 induction nr with
 | zero => intro a0 a1 a2 a3 a4 l2_1 l2_2 l4 hp hlt; exact absurd hlt (nlz _)
 | succ nr ihr =>
 intro a0 a1 a2 a3 a4 l2_1 l2_2 l4 hp hlt
 refine con_s Try.func68 (by kernel_rfl) fun cx hcx => ?_
 have hpb := pvb_bd hp
 have hp1 := hp.e0
 have hp2 := hp.e1
 have hp3 := hp.e2
 let t0 : List (St Try.prog) := [.i a0 (a2.2.length), .L c40_len a2.2 a0 0 8, .i a1 (a2.2.length), .L c40_len a2.2 a1 0 8, .c [] (C40 (a2.2.getD (toNat a0) default).2.2.2.2.1 (a2.2.getD (toNat a1) default).2.2.2.2.1), .c [] (C39 (A68_1 a0 a1 a2 a3 a4))]
 cases h0 : (decide (((F39 (A68_1 a0 a1 a2 a3 a4)) : Int) > 0)) with
 | true =>
  have q0 := odt h0
  have e := Eq.refl (R68 (nr + 1) a0 a1 a2 a3 a4); conv at e => rhs; simp only [R68, h0, cdb]
  rw [e]
  refine ga (t0 ++ [.d h0, .z 5]) [] [0, 1, 4, 5, 8, 9, 11] [7, 8] hcx B68_j5 (K68_j5) (st68_j5 nr a0 a1 a2 a3 a4 (decide (((W ((W ((W ((W ((a2.2.getD (toNat a0) default).2.2.2.2.2 + (a2.2.getD (toNat a1) default).2.2.2.2.2)) * 4)) * a3)) * a3)) : Int) ≤ (F39 (A68_1 a0 a1 a2 a3 a4))))) (by kernel_rfl) ?_
  exact L68_j5 nr a0 a1 a2 a3 a4 l2_1 l2_2 l4 hp hlt ihr hcx (decide (((W ((W ((W ((W ((a2.2.getD (toNat a0) default).2.2.2.2.2 + (a2.2.getD (toNat a1) default).2.2.2.2.2)) * 4)) * a3)) * a3)) : Int) ≤ (F39 (A68_1 a0 a1 a2 a3 a4)))) trivial
 | false =>
  have q0 := odf h0
  have e := Eq.refl (R68 (nr + 1) a0 a1 a2 a3 a4); conv at e => rhs; simp only [R68, h0, cdb]
  rw [e]
  refine ga (t0 ++ [.d h0, .z 5]) [] [0, 1, 4, 5, 8, 9, 11] [7, 8] hcx B68_j5 (K68_j5) (st68_j5 nr a0 a1 a2 a3 a4 false) (by kernel_rfl) ?_
  exact L68_j5 nr a0 a1 a2 a3 a4 l2_1 l2_2 l4 hp hlt ihr hcx false trivial

theorem C68 (a0 : Int) (a1 : Int) (a2 : List (Int) × TyN) (a3 : Int) (a4 : List (Int × Int × Bool)) (l2_1 : a2.1.length ≤ 9223372036854775807) (l2_2 : a2.2.length ≤ 9223372036854775807) (l4 : a4.length ≤ 9223372036854775807) (hp : PVB a0 a1 a2 a4) : Con Try.prog 68 [(iv a0), (iv a1), (.p 0 0), (.p 3 0), (.p 4 0), (.p 6 0)] [(.live false false [(.s 1 0 a2.1.length 1), (.s 2 0 a2.2.length 8)]), (.live false true (flat c3 a2.1)), (.live false true (flat c40 a2.2)), (.live false false [(iv a3)]), (.live true false [(.s 5 0 a4.length 3)]), (.live true true (flat c71 a4)), (.live false false [(.f 68 [(.p 0 0), (.p 3 0), (.p 4 0), (.p 6 0)])])] (.t []) [(.live true true (flat c71 (F68 a0 a1 a2 a3 a4)))] [.un, .un, .un, .un, (.live true false [(.s 7 0 (F68 a0 a1 a2 a3 a4).length 3)]), .dead, .un] := Cr68 (((a2.2.length - toNat a0) + (a2.2.length - toNat a1)) + 1) a0 a1 a2 a3 a4 l2_1 l2_2 l4 hp (lss _)


noncomputable def B53_j5 : Code := (codeAtD [1, 1, 1, 1, 0, 1, 0] [] (bodyOf Try.f53)).1
noncomputable def K53_j5 : List K := (codeAtD [1, 1, 1, 1, 0, 1, 0] [] (bodyOf Try.f53)).2

def st53_j5 (a0 : List (Int) × TyN) (a1 : Int) (v1c : List SV) (v1n : Nat) : LS := ⟨slN 15 [(5, (.p 2 0)), (6, (.p 3 0))], [(.live false true (flat c3 a0.1)), (.live false true (flat c40 a0.2)), (.live true false [(.s 4 0 v1n 3)]), (.live true false [(.f 68 [(.p 5 0), (.p 6 0), (.p 2 0), (.p 3 0)])]), (.live true true v1c), (.live true false [(.s 0 0 a0.1.length 1), (.s 1 0 a0.2.length 8)]), (.live true false [(iv a1)])]⟩

def S53_j5 (a0 : List (Int) × TyN) (a1 : Int) : List (Int × Int × Bool) → List (Int × Int × Bool)
 | v1 =>
  (F68 0 0 (a0.1, a0.2) a1 v1)

theorem L53_j5 (a0 : List (Int) × TyN) (a1 : Int) (l0_1 : a0.1.length ≤ 9223372036854775807) (l0_2 : a0.2.length ≤ 9223372036854775807) (hp : 0 < a0.2.length → PVB 0 0 a0 []) {cx : Cx} (hcx : cx.base = 2) (v1 : List (Int × Int × Bool)) : PVB 0 0 a0 v1 → Aw.Good Try.prog none 9 (bodyPost Try.prog Try.f53 (RR cx (.s 2 0 (S53_j5 a0 a1 v1).length 3) [(.live true true (flat c71 (S53_j5 a0 a1 v1)))] [])) cx [] (.c B53_j5 :: K53_j5) (st53_j5 a0 a1 (flat c71 v1) v1.length) := by
 intro hi
 have hb := pvb_bd hi
 have e := Eq.refl (S53_j5 a0 a1 v1); conv at e => rhs; simp only [S53_j5]
 rw [e]
 exact rt [.c [5, 0, 1, 6, 2, 4, 3] (C68 0 0 (a0.1, a0.2) a1 v1 (by (try simp only [Lt]); omega) (by (try simp only [Lt]); omega) (by omega) hi)] [] [7] hcx (by kernel_rfl)

def F53 (a0 : List (Int) × TyN) (a1 : Int) : List (Int × Int × Bool) :=
 (bif (decide (((a0.2.length : Int) : Int) > 0)) then
  (S53_j5 a0 a1 ([] : List (Int × Int × Bool)))
 else
  ([] : List (Int × Int × Bool)))

theorem C53 (a0 : List (Int) × TyN) (a1 : Int) (l0_1 : a0.1.length ≤ 9223372036854775807) (l0_2 : a0.2.length ≤ 9223372036854775807) (hp : 0 < a0.2.length → PVB 0 0 a0 []) : Con Try.prog 53 [(.a [(.s 0 0 a0.1.length 1), (.s 1 0 a0.2.length 8)]), (iv a1)] [(.live false true (flat c3 a0.1)), (.live false true (flat c40 a0.2))] (.s 2 0 (F53 a0 a1).length 3) [(.live true true (flat c71 (F53 a0 a1)))] := by
 refine con_s Try.func53 (by kernel_rfl) fun cx hcx => ?_
 cases h0 : (decide (((a0.2.length : Int) : Int) > 0)) with
 | true =>
  have q0 := odt h0
  have e := Eq.refl (F53 a0 a1); conv at e => rhs; simp only [F53, h0, cdb]
  rw [e]
  refine ga [.d h0, .z 5] [.cell 4 0 3] [5, 6] [4, 5, 6, 2, 3] hcx B53_j5 (K53_j5) (st53_j5 a0 a1 (flat c71 ([] : List (Int × Int × Bool))) 0) (by kernel_rfl) ?_
  exact L53_j5 a0 a1 l0_1 l0_2 hp hcx ([] : List (Int × Int × Bool)) (hp (by omega))
 | false =>
  have q0 := odf h0
  have e := Eq.refl (F53 a0 a1); conv at e => rhs; simp only [F53, h0, cdb]
  rw [e]
  exact rt [.d h0] [.slot 4 3] [6] hcx (by kernel_rfl)

noncomputable def B30_L_L_0 : Code := (loopAtD [1, 1, 0, 1] [] (bodyOf Try.f30) []).1
noncomputable def K30_L_L_0 : List K := (loopAtD [1, 1, 0, 1] [] (bodyOf Try.f30) []).2

def st30_L_L_0 (a0 : List (Int × Int × Bool)) (a1 : List (Int × Int × Bool)) (v1 : Int) : LS := ⟨slN 26 [(0, (.s 0 0 a0.length 3)), (1, (.s 1 0 a1.length 3)), (5, (iv v1))], [(.live false true (flat c71 a0)), (.live false true (flat c71 a1))]⟩

def S30_L_L_0 (a0 : List (Int × Int × Bool)) (a1 : List (Int × Int × Bool)) : Int → (Int) ⊕ (Bool)
 | v1 =>
  (bif (decide ((v1 : Int) < (a0.length : Int))) then
   (bif (!((((a0.getD (toNat v1) default).1 : Int) == (a1.getD (toNat v1) default).1) && ((((a0.getD (toNat v1) default).2.1 : Int) == (a1.getD (toNat v1) default).2.1) && (((a0.getD (toNat v1) default).2.2 == (a1.getD (toNat v1) default).2.2) && true)))) then
    (.inr false)
   else
    (.inl (v1 + 1)))
  else
   (.inr true))

theorem L30_L_L_0 (a0 : List (Int × Int × Bool)) (a1 : List (Int × Int × Bool)) (l0 : a0.length ≤ 9223372036854775807) (l1 : a1.length ≤ 9223372036854775807) {cx : Cx} (hcx : cx.base = 2) : ∀ (n : Nat) (v1 : Int), (0 ≤ v1) ∧ (a0.length = a1.length) → toNat ((a0.length : Int) - v1) < n → Aw.Good Try.prog none 9 (bodyPost Try.prog Try.f30 (RR cx (.v (.bool (loopF (S30_L_L_0 a0 a1) n v1))) [] [])) cx [] (.l B30_L_L_0 n :: K30_L_L_0) (st30_L_L_0 a0 a1 v1) := by
 intro n
 induction n with
 | zero => intro v1 hi hn; exact absurd hn (nlz _)
 | succ n ih =>
   intro v1 hi hn
   refine good_round ?_
   cases h0 : (decide ((v1 : Int) < (a0.length : Int))) with
   | true =>
    have q0 := odt h0
    let t1 : List (St Try.prog) := [.d h0, .i v1 (a0.length), .L c71_len a0 v1 0 3, .i v1 (a1.length), .L c71_len a1 v1 0 3]
    cases h1 : (!((((a0.getD (toNat v1) default).1 : Int) == (a1.getD (toNat v1) default).1) && ((((a0.getD (toNat v1) default).2.1 : Int) == (a1.getD (toNat v1) default).2.1) && (((a0.getD (toNat v1) default).2.2 == (a1.getD (toNat v1) default).2.2) && true)))) with
    | true =>
     have e := Eq.refl (S30_L_L_0 a0 a1 v1); conv at e => rhs; simp only [S30_L_L_0, h0, h1, cdb]
     rw [loopF_s, e]
     exact rt (t1 ++ [.d h1]) [] [] hcx (by kernel_rfl)
    | false =>
     have e := Eq.refl (S30_L_L_0 a0 a1 v1); conv at e => rhs; simp only [S30_L_L_0, h0, h1, cdb]
     rw [loopF_inl e]
     refine ba (t1 ++ [.d h1]) [] [0, 1, 5] [] hcx (m := n) B30_L_L_0 (K30_L_L_0) (st30_L_L_0 a0 a1 (W (v1 + 1))) (by kernel_rfl) ?_
     have z0 : (W (v1 + 1)) = (v1 + 1) := W_eq (by omega) (by omega)
     rw [z0]
     exact ih (v1 + 1) (by refine ⟨?_, ?_⟩ <;> (try simp only [Ls]) <;> first | omega | assumption | simp) (by (try simp only [Ls]); omega)
   | false =>
    have q0 := odf h0
    have e := Eq.refl (S30_L_L_0 a0 a1 v1); conv at e => rhs; simp only [S30_L_L_0, h0, cdb]
    rw [loopF_s, e]
    exact rt [.d h0] [] [] hcx (by kernel_rfl)

def F30_L_L (a0 : List (Int × Int × Bool)) (a1 : List (Int × Int × Bool)) : Bool :=
 (bif (((a0.length : Int) : Int) != (a1.length : Int)) then
  false
 else
  (loopF (S30_L_L_0 a0 a1) (toNat ((a0.length : Int) - 0) + 1) 0))

theorem C30_L_L (a0 : List (Int × Int × Bool)) (a1 : List (Int × Int × Bool)) (l0 : a0.length ≤ 9223372036854775807) (l1 : a1.length ≤ 9223372036854775807) : Con Try.prog 30 [(.s 0 0 a0.length 3), (.s 1 0 a1.length 3)] [(.live false true (flat c71 a0)), (.live false true (flat c71 a1))] (.v (.bool (F30_L_L a0 a1))) [] := by
 refine con_s Try.func30 (by kernel_rfl) fun cx hcx => ?_
 cases h0 : (((a0.length : Int) : Int) != (a1.length : Int)) with
 | true =>
  have q0 := bne_iff_ne.1 h0
  have e := Eq.refl (F30_L_L a0 a1); conv at e => rhs; simp only [F30_L_L, h0, cdb]
  rw [e]
  exact rt [.d h0] [] [] hcx (by kernel_rfl)
 | false =>
  have q0 := bne_eq_false_iff_eq.1 h0
  have e := Eq.refl (F30_L_L a0 a1); conv at e => rhs; simp only [F30_L_L, h0, cdb]
  rw [e]
  refine en [.d h0] [] [0, 1, 5] [] hcx B30_L_L_0 (K30_L_L_0) (st30_L_L_0 a0 a1 0) (toNat ((a0.length : Int) - 0) + 1) (by kernel_rfl) ?_
  exact L30_L_L_0 a0 a1 l0 l1 hcx (toNat ((a0.length : Int) - 0) + 1) 0 (by refine ⟨?_, ?_⟩ <;> (try simp only [Ls]) <;> first | omega | assumption | simp) (by (try simp only [Ls]); omega)


def F45 (a0 : Int × Int × Int × Int × (Int × Int × Int) × Int) (a1 : Int × Int × Int × Int × (Int × Int × Int) × Int) : Int :=
 (F64 (F65 a0.2.2.2.2.1 a1.2.2.2.2.1))

theorem C45 (a0 : Int × Int × Int × Int × (Int × Int × Int) × Int) (a1 : Int × Int × Int × Int × (Int × Int × Int) × Int) : Con Try.prog 45 [(.a [(iv a0.1), (iv a0.2.1), (iv a0.2.2.1), (iv a0.2.2.2.1), (iv a0.2.2.2.2.1.1), (iv a0.2.2.2.2.1.2.1), (iv a0.2.2.2.2.1.2.2), (iv a0.2.2.2.2.2)]), (.a [(iv a1.1), (iv a1.2.1), (iv a1.2.2.1), (iv a1.2.2.2.1), (iv a1.2.2.2.2.1.1), (iv a1.2.2.2.2.1.2.1), (iv a1.2.2.2.2.1.2.2), (iv a1.2.2.2.2.2)])] [] (iv (F45 a0 a1)) [] := by
 refine con_s Try.func45 (by kernel_rfl) fun cx hcx => ?_
 have e := Eq.refl (F45 a0 a1); conv at e => rhs; simp only [F45]
 rw [e]
 exact rt [.c [] (C65 a0.2.2.2.2.1 a1.2.2.2.2.1), .c [] (C64 (F65 a0.2.2.2.2.1 a1.2.2.2.2.1))] [] [] hcx (by kernel_rfl)

def A69_1 (a0 : List (Int) × TyN) (a1 : Int) (a2 : Int) (a3 : Int) := (F45 (a0.2.getD (toNat a1) default) (a0.2.getD (toNat a2) default))

def A69_2 (rr : (List (Int) × TyN) → (Int) → (Int) → (Int) → List (Int × Int × Bool)) (a0 : List (Int) × TyN) (a1 : Int) (a2 : Int) (a3 : Int) := (rr (a0.1, a0.2) (a0.2.getD (toNat a1) default).2.2.1 a2 a3)

def A69_3 (rr : (List (Int) × TyN) → (Int) → (Int) → (Int) → List (Int × Int × Bool)) (a0 : List (Int) × TyN) (a1 : Int) (a2 : Int) (a3 : Int) := (rr (a0.1, a0.2) (a0.2.getD (toNat a1) default).2.2.2.1 a2 a3)

def A69_4 (rr : (List (Int) × TyN) → (Int) → (Int) → (Int) → List (Int × Int × Bool)) (a0 : List (Int) × TyN) (a1 : Int) (a2 : Int) (a3 : Int) := (rr (a0.1, a0.2) a1 (a0.2.getD (toNat a2) default).2.2.1 a3)

def A69_5 (rr : (List (Int) × TyN) → (Int) → (Int) → (Int) → List (Int × Int × Bool)) (a0 : List (Int) × TyN) (a1 : Int) (a2 : Int) (a3 : Int) := (rr (a0.1, a0.2) a1 (a0.2.getD (toNat a2) default).2.2.2.1 a3)

noncomputable def B69_j5 : Code := (codeAtD [1, 1, 1, 1, 0, 0] [] (bodyOf Try.f69)).1
noncomputable def K69_j5 : List K := (codeAtD [1, 1, 1, 1, 0, 0] [] (bodyOf Try.f69)).2

def st69_j5 (nr : Nat) (a0 : List (Int) × TyN) (a1 : Int) (a2 : Int) (a3 : Int) : LS := ⟨slN 104 [(1, (iv a1)), (2, (iv a2)), (3, (iv a3)), (4, (.p 2 0)), (9, (.p 3 0)), (10, (.p 4 0))], [(.live false true (flat c3 a0.1)), (.live false true (flat c40 a0.2)), (.live true false [(.s 0 0 a0.1.length 1), (.s 1 0 a0.2.length 8)]), (.live true false [(iv (a0.2.getD (toNat a1) default).1), (iv (a0.2.getD (toNat a1) default).2.1), (iv (a0.2.getD (toNat a1) default).2.2.1), (iv (a0.2.getD (toNat a1) default).2.2.2.1), (iv (a0.2.getD (toNat a1) default).2.2.2.2.1.1), (iv (a0.2.getD (toNat a1) default).2.2.2.2.1.2.1), (iv (a0.2.getD (toNat a1) default).2.2.2.2.1.2.2), (iv (a0.2.getD (toNat a1) default).2.2.2.2.2)]), (.live true false [(iv (a0.2.getD (toNat a2) default).1), (iv (a0.2.getD (toNat a2) default).2.1), (iv (a0.2.getD (toNat a2) default).2.2.1), (iv (a0.2.getD (toNat a2) default).2.2.2.1), (iv (a0.2.getD (toNat a2) default).2.2.2.2.1.1), (iv (a0.2.getD (toNat a2) default).2.2.2.2.1.2.1), (iv (a0.2.getD (toNat a2) default).2.2.2.2.1.2.2), (iv (a0.2.getD (toNat a2) default).2.2.2.2.2)])]⟩

def S69_j5 (rr : (List (Int) × TyN) → (Int) → (Int) → (Int) → List (Int × Int × Bool)) (a0 : List (Int) × TyN) (a1 : Int) (a2 : Int) (a3 : Int) : Unit → List (Int × Int × Bool)
 | () =>
  (bif (decide (((a0.2.getD (toNat a1) default).2.2.1 : Int) < 0)) then
   (bif (decide (((a0.2.getD (toNat a2) default).2.2.1 : Int) < 0)) then
    ([(a1, a2, false)] : List (Int × Int × Bool))
   else
    (bif (decide (((a0.2.getD (toNat a1) default).2.2.1 : Int) ≥ 0)) then
     (bif (decide (((W ((a0.2.getD (toNat a1) default).2.1 - (a0.2.getD (toNat a1) default).1)) : Int) ≥ (W ((a0.2.getD (toNat a2) default).2.1 - (a0.2.getD (toNat a2) default).1)))) then
      ((A69_2 (rr) a0 a1 a2 a3) ++ (A69_3 (rr) a0 a1 a2 a3))
     else
      ((A69_4 (rr) a0 a1 a2 a3) ++ (A69_5 (rr) a0 a1 a2 a3)))
    else
     ((A69_4 (rr) a0 a1 a2 a3) ++ (A69_5 (rr) a0 a1 a2 a3))))
  else
   (bif (decide (((a0.2.getD (toNat a2) default).2.2.1 : Int) < 0)) then
    ((A69_2 (rr) a0 a1 a2 a3) ++ (A69_3 (rr) a0 a1 a2 a3))
   else
    (bif (decide (((a0.2.getD (toNat a1) default).2.2.1 : Int) ≥ 0)) then
     (bif (decide (((W ((a0.2.getD (toNat a1) default).2.1 - (a0.2.getD (toNat a1) default).1)) : Int) ≥ (W ((a0.2.getD (toNat a2) default).2.1 - (a0.2.getD (toNat a2) default).1)))) then
      ((A69_2 (rr) a0 a1 a2 a3) ++ (A69_3 (rr) a0 a1 a2 a3))
     else
      ((A69_4 (rr) a0 a1 a2 a3) ++ (A69_5 (rr) a0 a1 a2 a3)))
    else
     ((A69_4 (rr) a0 a1 a2 a3) ++ (A69_5 (rr) a0 a1 a2 a3)))))

def R69 : Nat → (List (Int) × TyN) → (Int) → (Int) → (Int) → List (Int × Int × Bool)
 | 0, _, _, _, _ => default
 | nr + 1, a0, a1, a2, a3 =>
 (bif (decide (((W ((W ((W ((W ((a0.2.getD (toNat a1) default).2.2.2.2.2 + (a0.2.getD (toNat a2) default).2.2.2.2.2)) * 4)) * a3)) * a3)) : Int) ≤ (A69_1 a0 a1 a2 a3))) then
  (bif (decide (((A69_1 a0 a1 a2 a3) : Int) > 0)) then
   ([(a1, a2, true)] : List (Int × Int × Bool))
  else
   (S69_j5 (R69 nr) a0 a1 a2 a3 ()))
 else
  (S69_j5 (R69 nr) a0 a1 a2 a3 ()))

def F69 (a0 : List (Int) × TyN) (a1 : Int) (a2 : Int) (a3 : Int) : List (Int × Int × Bool) := R69 (((a0.2.length - toNat a1) + (a0.2.length - toNat a2)) + 1) a0 a1 a2 a3

theorem prs_len : ∀ (nr : Nat) (t : TR) (i k sep : Int) (m : Nat) (f u h : Int) (m' : Nat) (f' u' h' : Int), TRE t.2 (toNat i) m f u h → TRE t.2 (toNat k) m' f' u' h' → 0 ≤ i → 0 ≤ k → (t.2.length - toNat i) + (t.2.length - toNat k) < nr →
   ((R69 nr t i k sep).length : Int) ≤ (u - f) * (u' - f')
 | 0, _, _, _, _, _, _, _, _, _, _, _, _, _, _, _, _, h => absurd h (nlz _)
 | nr + 1, t, i, k, sep, m, f, u, h, m', f', u', h', H, K, hi, hk, hn => by
   have hb := tre_le H
   have kb := tre_le K
   have hm := mul_ge1 (a := u - f) (b := u' - f') (by omega) (by omega)
   have hs : ∀ b : Bool, (([(i, k, b)] : List BLK).length : Int) ≤ (u - f) * (u' - f') := fun b => by rw [List.length_singleton]; omega
   have hA : ¬ (t.2.getD (toNat i) default).2.2.1 < 0 → ((A69_2 (R69 nr) t i k sep ++ A69_3 (R69 nr) t i k sep).length : Int) ≤ (u - f) * (u' - f') := by
     intro hq
     rcases tre_kids H with ⟨_, _, h5, _⟩ | ⟨m1, m2, c, h1, h2, e8, g4, g5, b1, b2, e9⟩
     · omega
     · have l1 := tre_le b1
       have l2 := tre_le b2
       have c1 : ((A69_2 (R69 nr) t i k sep).length : Int) ≤ (c - f) * (u' - f') := prs_len nr t (t.2.getD (toNat i) default).2.2.1 k sep m1 f c h1 m' f' u' h' (by rw [g4, itn]; exact b1) K (by omega) hk (by omega)
       have c2 : ((A69_3 (R69 nr) t i k sep).length : Int) ≤ (u - c) * (u' - f') := prs_len nr t (t.2.getD (toNat i) default).2.2.2.1 k sep m2 c u h2 m' f' u' h' (by rw [g5, itn]; exact b2) K (by omega) hk (by omega)
       have c3 := mul_cut f u c (u' - f')
       rw [List.length_append]
       omega
   have hB : ¬ (t.2.getD (toNat k) default).2.2.1 < 0 → ((A69_4 (R69 nr) t i k sep ++ A69_5 (R69 nr) t i k sep).length : Int) ≤ (u - f) * (u' - f') := by
     intro hq
     rcases tre_kids K with ⟨_, _, h5, _⟩ | ⟨m1, m2, c, h1, h2, e8, g4, g5, b1, b2, e9⟩
     · omega
     · have l1 := tre_le b1
       have l2 := tre_le b2
       have c1 : ((A69_4 (R69 nr) t i k sep).length : Int) ≤ (u - f) * (c - f') := prs_len nr t i (t.2.getD (toNat k) default).2.2.1 sep m f u h m1 f' c h1 H (by rw [g4, itn]; exact b1) hi (by omega) (by omega)
       have c2 : ((A69_5 (R69 nr) t i k sep).length : Int) ≤ (u - f) * (u' - c) := prs_len nr t i (t.2.getD (toNat k) default).2.2.2.1 sep m f u h m2 c u' h2 H (by rw [g5, itn]; exact b2) hi (by omega) (by omega)
       have c3 := mul_cut' f' u' c (u - f)
       rw [List.length_append]
       omega
   have hJ : ((S69_j5 (R69 nr) t i k sep ()).length : Int) ≤ (u - f) * (u' - f') := by
     simp only [S69_j5]
     by_cases z1 : (t.2.getD (toNat i) default).2.2.1 < 0 <;> by_cases z2 : (t.2.getD (toNat k) default).2.2.1 < 0
     · rw [dqt z1, dqt z2, cond_true, cond_true]; exact hs false
     · rw [dqt z1, dqf z2, cond_true, cond_false, dqf (show ¬ (t.2.getD (toNat i) default).2.2.1 ≥ 0 by omega), cond_false]; exact hB z2
     · rw [dqf z1, dqt z2, cond_false, cond_true]; exact hA z1
     · rw [dqf z1, dqf z2, cond_false, cond_false, dqt (show (t.2.getD (toNat i) default).2.2.1 ≥ 0 by omega), cond_true, Bool.cond_eq_ite]
       split
       · exact hA z1
       · exact hB z2
   simp only [R69]
   rw [Bool.cond_eq_ite]
   split
   · rw [Bool.cond_eq_ite]
     split
     · exact hs true
     · exact hJ
   · exact hJ
theorem prs_a {nr : Nat} {i k : Int} {t : TR} (sep : Int) (h : PVB i k t []) (hlt : (t.2.length - toNat i) + (t.2.length - toNat k) < nr + 1) (hq : ¬ (t.2.getD (toNat i) default).2.2.1 < 0) :
   (PVB (t.2.getD (toNat i) default).2.2.1 k t [] ∧ PVB (t.2.getD (toNat i) default).2.2.2.1 k t []) ∧
   ((t.2.length - toNat (t.2.getD (toNat i) default).2.2.1) + (t.2.length - toNat k) < nr ∧ (t.2.length - toNat (t.2.getD (toNat i) default).2.2.2.1) + (t.2.length - toNat k) < nr) ∧ (A69_2 (R69 nr) t i k sep).length ≤ 1048576 ∧ (A69_3 (R69 nr) t i k sep).length ≤ 1048576 := by
 obtain ⟨e0, e1, e2, m, f, u, hh, m', f', u', hh', H, K, e5⟩ := h
 have hb := tre_le H
 have kb := tre_le K
 rcases tre_kids H with ⟨_, _, h5, _⟩ | ⟨m1, m2, c, h1, h2, e8, g4, g5, b1, b2, e9⟩
 · omega
 · have l1 := tre_le b1
   have l2 := tre_le b2
   have p1 := mul_ge1 (a := c - f) (b := u' - f') (by omega) (by omega)
   have p2 := mul_ge1 (a := u - c) (b := u' - f') (by omega) (by omega)
   have c3 := mul_cut f u c (u' - f')
   have t1 : TRE t.2 (toNat (t.2.getD (toNat i) default).2.2.1) m1 f c h1 := by rw [g4, itn]; exact b1
   have t2 : TRE t.2 (toNat (t.2.getD (toNat i) default).2.2.2.1) m2 c u h2 := by rw [g5, itn]; exact b2
   have c1 : ((A69_2 (R69 nr) t i k sep).length : Int) ≤ (c - f) * (u' - f') := prs_len nr t (t.2.getD (toNat i) default).2.2.1 k sep m1 f c h1 m' f' u' hh' t1 K (by omega) e1 (by omega)
   have c2 : ((A69_3 (R69 nr) t i k sep).length : Int) ≤ (u - c) * (u' - f') := prs_len nr t (t.2.getD (toNat i) default).2.2.2.1 k sep m2 c u h2 m' f' u' hh' t2 K (by omega) e1 (by omega)
   simp only [List.length_nil] at e5
   exact ⟨⟨⟨by omega, e1, e2, m1, f, c, h1, m', f', u', hh', t1, K, by simp only [List.length_nil]; omega⟩, ⟨by omega, e1, e2, m2, c, u, h2, m', f', u', hh', t2, K, by simp only [List.length_nil]; omega⟩⟩, ⟨by omega, by omega⟩, by omega, by omega⟩
theorem prs_b {nr : Nat} {i k : Int} {t : TR} (sep : Int) (h : PVB i k t []) (hlt : (t.2.length - toNat i) + (t.2.length - toNat k) < nr + 1) (hq : ¬ (t.2.getD (toNat k) default).2.2.1 < 0) :
   (PVB i (t.2.getD (toNat k) default).2.2.1 t [] ∧ PVB i (t.2.getD (toNat k) default).2.2.2.1 t []) ∧
   ((t.2.length - toNat i) + (t.2.length - toNat (t.2.getD (toNat k) default).2.2.1) < nr ∧ (t.2.length - toNat i) + (t.2.length - toNat (t.2.getD (toNat k) default).2.2.2.1) < nr) ∧ (A69_4 (R69 nr) t i k sep).length ≤ 1048576 ∧ (A69_5 (R69 nr) t i k sep).length ≤ 1048576 := by
 obtain ⟨e0, e1, e2, m, f, u, hh, m', f', u', hh', H, K, e5⟩ := h
 have hb := tre_le H
 have kb := tre_le K
 rcases tre_kids K with ⟨_, _, h5, _⟩ | ⟨m1, m2, c, h1, h2, e8, g4, g5, b1, b2, e9⟩
 · omega
 · have l1 := tre_le b1
   have l2 := tre_le b2
   have p1 := mul_ge1 (a := u - f) (b := c - f') (by omega) (by omega)
   have p2 := mul_ge1 (a := u - f) (b := u' - c) (by omega) (by omega)
   have c3 := mul_cut' f' u' c (u - f)
   have t1 : TRE t.2 (toNat (t.2.getD (toNat k) default).2.2.1) m1 f' c h1 := by rw [g4, itn]; exact b1
   have t2 : TRE t.2 (toNat (t.2.getD (toNat k) default).2.2.2.1) m2 c u' h2 := by rw [g5, itn]; exact b2
   have c1 : ((A69_4 (R69 nr) t i k sep).length : Int) ≤ (u - f) * (c - f') := prs_len nr t i (t.2.getD (toNat k) default).2.2.1 sep m f u hh m1 f' c h1 H t1 e0 (by omega) (by omega)
   have c2 : ((A69_5 (R69 nr) t i k sep).length : Int) ≤ (u - f) * (u' - c) := prs_len nr t i (t.2.getD (toNat k) default).2.2.2.1 sep m f u hh m2 c u' h2 H t2 e0 (by omega) (by omega)
   simp only [List.length_nil] at e5
   exact ⟨⟨⟨e0, by omega, e2, m, f, u, hh, m1, f', c, h1, H, t1, by simp only [List.length_nil]; omega⟩, ⟨e0, by omega, e2, m, f, u, hh, m2, c, u', h2, H, t2, by simp only [List.length_nil]; omega⟩⟩, ⟨by omega, by omega⟩, by omega, by omega⟩

theorem L69_j5 (nr : Nat) (a0 : List (Int) × TyN) (a1 : Int) (a2 : Int) (a3 : Int) (l0_1 : a0.1.length ≤ 9223372036854775807) (l0_2 : a0.2.length ≤ 9223372036854775807) (hp : PVB a1 a2 a0 []) (hlt : ((a0.2.length - toNat a1) + (a0.2.length - toNat a2)) < nr + 1) (ihr : ∀ (a0 : List (Int) × TyN) (a1 : Int) (a2 : Int) (a3 : Int) (l0_1 : a0.1.length ≤ 9223372036854775807) (l0_2 : a0.2.length ≤ 9223372036854775807) (hp : PVB a1 a2 a0 []), ((a0.2.length - toNat a1) + (a0.2.length - toNat a2)) < nr → Con Try.prog 69 [(.a [(.s 0 0 a0.1.length 1), (.s 1 0 a0.2.length 8)]), (iv a1), (iv a2), (iv a3)] [(.live false true (flat c3 a0.1)), (.live false true (flat c40 a0.2))] (.s 2 0 (R69 nr a0 a1 a2 a3).length 3) [(.live true true (flat c71 (R69 nr a0 a1 a2 a3)))]) {cx : Cx} (hcx : cx.base = 2) : True → Aw.Good Try.prog none 9 (bodyPost Try.prog Try.f69 (RR cx (.s 2 0 (S69_j5 (R69 nr) a0 a1 a2 a3 ()).length 3) [(.live true true (flat c71 (S69_j5 (R69 nr) a0 a1 a2 a3 ())))] [])) cx [] (.c B69_j5 :: K69_j5) (st69_j5 nr a0 a1 a2 a3) := by
 intro hi
 have hpb := pvb_bd hp
 have hp1 := hp.e0
 have hp2 := hp.e1
 have hp3 := hp.e2
 have hA := prs_a a3 hp hlt
 have hB := prs_b a3 hp hlt
 have hAl := fun q => (hA q).2.2
 have hBl := fun q => (hB q).2.2
 cases h0 : (decide (((a0.2.getD (toNat a1) default).2.2.1 : Int) < 0)) with
 | true =>
  have q0 := odt h0
  let t1 : List (St Try.prog) := [.d h0]
  cases h1 : (decide (((a0.2.getD (toNat a2) default).2.2.1 : Int) < 0)) with
  | true =>
   have q1 := odt h1
   have e := Eq.refl (S69_j5 (R69 nr) a0 a1 a2 a3 ()); conv at e => rhs; simp only [S69_j5, h0, h1, cdb]
   rw [e]
   exact rt (t1 ++ [.d h1]) [.sym 5 true] [5] hcx (by kernel_rfl)
  | false =>
   have q1 := odf h1
   let t2 : List (St Try.prog) := (t1 ++ [.d h1, .d h1])
   cases h2 : (decide (((a0.2.getD (toNat a1) default).2.2.1 : Int) ≥ 0)) with
   | true =>
    have q2 := odt h2
    let t3 : List (St Try.prog) := (t2 ++ [.d h2])
    cases h3 : (decide (((W ((a0.2.getD (toNat a1) default).2.1 - (a0.2.getD (toNat a1) default).1)) : Int) ≥ (W ((a0.2.getD (toNat a2) default).2.1 - (a0.2.getD (toNat a2) default).1)))) with
    | true =>
     have q3 := odt h3
     have e := Eq.refl (S69_j5 (R69 nr) a0 a1 a2 a3 ()); conv at e => rhs; simp only [S69_j5, h0, h1, h2, h3, cdb]
     rw [e]
     rw [show flat c71 ((A69_2 (R69 nr) a0 a1 a2 a3) ++ (A69_3 (R69 nr) a0 a1 a2 a3)) = ((flat c71 (A69_2 (R69 nr) a0 a1 a2 a3)) ++ (flat c71 (A69_3 (R69 nr) a0 a1 a2 a3))) from Eq.symm (by simp [flat])]
     rw [show ((A69_2 (R69 nr) a0 a1 a2 a3) ++ (A69_3 (R69 nr) a0 a1 a2 a3)).length = ((A69_2 (R69 nr) a0 a1 a2 a3).length + (A69_3 (R69 nr) a0 a1 a2 a3).length) from by simp]
     exact rt (t3 ++ [.d h3, .c [0, 1] (ihr (a0.1, a0.2) (a0.2.getD (toNat a1) default).2.2.1 a2 a3 (by (try simp only [Lt]); omega) (by (try simp only [Lt]); omega) (by first | exact (hA (by omega)).1.1 | exact (hA (by omega)).1.2 | exact (hB (by omega)).1.1 | exact (hB (by omega)).1.2) (by first | exact (hA (by omega)).2.1.1 | exact (hA (by omega)).2.1.2 | exact (hB (by omega)).2.1.1 | exact (hB (by omega)).2.1.2)), .c [0, 1] (ihr (a0.1, a0.2) (a0.2.getD (toNat a1) default).2.2.2.1 a2 a3 (by (try simp only [Lt]); omega) (by (try simp only [Lt]); omega) (by first | exact (hA (by omega)).1.1 | exact (hA (by omega)).1.2 | exact (hB (by omega)).1.1 | exact (hB (by omega)).1.2) (by first | exact (hA (by omega)).2.1.1 | exact (hA (by omega)).2.1.2 | exact (hB (by omega)).2.1.1 | exact (hB (by omega)).2.1.2)), .p (show ((flat c71 (A69_2 (R69 nr) a0 a1 a2 a3)).length = (A69_2 (R69 nr) a0 a1 a2 a3).length * 3 ∧ (flat c71 (A69_3 (R69 nr) a0 a1 a2 a3)).length = (A69_3 (R69 nr) a0 a1 a2 a3).length * 3 ∧ (flat c71 (A69_3 (R69 nr) a0 a1 a2 a3)).all SV.one = true ∧ (A69_2 (R69 nr) a0 a1 a2 a3).length + (A69_3 (R69 nr) a0 a1 a2 a3).length ≤ 2 ^ 40 ∧ ((A69_2 (R69 nr) a0 a1 a2 a3).length + (A69_3 (R69 nr) a0 a1 a2 a3).length) * 24 ≤ 2 ^ 47) from by refine ⟨?_, ?_, ?_, ?_, ?_⟩ <;> first | omega | exact flat_one (fun _ => rfl) | (simp [flat_lenc c71_len]; done) | (simp [flat_lenc c71_len]; omega))]) [] [7] hcx (by kernel_rfl)
    | false =>
     have q3 := odf h3
     have e := Eq.refl (S69_j5 (R69 nr) a0 a1 a2 a3 ()); conv at e => rhs; simp only [S69_j5, h0, h1, h2, h3, cdb]
     rw [e]
     rw [show flat c71 ((A69_4 (R69 nr) a0 a1 a2 a3) ++ (A69_5 (R69 nr) a0 a1 a2 a3)) = ((flat c71 (A69_4 (R69 nr) a0 a1 a2 a3)) ++ (flat c71 (A69_5 (R69 nr) a0 a1 a2 a3))) from Eq.symm (by simp [flat])]
     rw [show ((A69_4 (R69 nr) a0 a1 a2 a3) ++ (A69_5 (R69 nr) a0 a1 a2 a3)).length = ((A69_4 (R69 nr) a0 a1 a2 a3).length + (A69_5 (R69 nr) a0 a1 a2 a3).length) from by simp]
     exact rt (t3 ++ [.d h3, .c [0, 1] (ihr (a0.1, a0.2) a1 (a0.2.getD (toNat a2) default).2.2.1 a3 (by (try simp only [Lt]); omega) (by (try simp only [Lt]); omega) (by first | exact (hA (by omega)).1.1 | exact (hA (by omega)).1.2 | exact (hB (by omega)).1.1 | exact (hB (by omega)).1.2) (by first | exact (hA (by omega)).2.1.1 | exact (hA (by omega)).2.1.2 | exact (hB (by omega)).2.1.1 | exact (hB (by omega)).2.1.2)), .c [0, 1] (ihr (a0.1, a0.2) a1 (a0.2.getD (toNat a2) default).2.2.2.1 a3 (by (try simp only [Lt]); omega) (by (try simp only [Lt]); omega) (by first | exact (hA (by omega)).1.1 | exact (hA (by omega)).1.2 | exact (hB (by omega)).1.1 | exact (hB (by omega)).1.2) (by first | exact (hA (by omega)).2.1.1 | exact (hA (by omega)).2.1.2 | exact (hB (by omega)).2.1.1 | exact (hB (by omega)).2.1.2)), .p (show ((flat c71 (A69_4 (R69 nr) a0 a1 a2 a3)).length = (A69_4 (R69 nr) a0 a1 a2 a3).length * 3 ∧ (flat c71 (A69_5 (R69 nr) a0 a1 a2 a3)).length = (A69_5 (R69 nr) a0 a1 a2 a3).length * 3 ∧ (flat c71 (A69_5 (R69 nr) a0 a1 a2 a3)).all SV.one = true ∧ (A69_4 (R69 nr) a0 a1 a2 a3).length + (A69_5 (R69 nr) a0 a1 a2 a3).length ≤ 2 ^ 40 ∧ ((A69_4 (R69 nr) a0 a1 a2 a3).length + (A69_5 (R69 nr) a0 a1 a2 a3).length) * 24 ≤ 2 ^ 47) from by refine ⟨?_, ?_, ?_, ?_, ?_⟩ <;> first | omega | exact flat_one (fun _ => rfl) | (simp [flat_lenc c71_len]; done) | (simp [flat_lenc c71_len]; omega))]) [] [7] hcx (by kernel_rfl)
   | false =>
    have q2 := odf h2
    have e := Eq.refl (S69_j5 (R69 nr) a0 a1 a2 a3 ()); conv at e => rhs; simp only [S69_j5, h0, h1, h2, cdb]
    rw [e]
    rw [show flat c71 ((A69_4 (R69 nr) a0 a1 a2 a3) ++ (A69_5 (R69 nr) a0 a1 a2 a3)) = ((flat c71 (A69_4 (R69 nr) a0 a1 a2 a3)) ++ (flat c71 (A69_5 (R69 nr) a0 a1 a2 a3))) from Eq.symm (by simp [flat])]
    rw [show ((A69_4 (R69 nr) a0 a1 a2 a3) ++ (A69_5 (R69 nr) a0 a1 a2 a3)).length = ((A69_4 (R69 nr) a0 a1 a2 a3).length + (A69_5 (R69 nr) a0 a1 a2 a3).length) from by simp]
    exact rt (t2 ++ [.d h2, .c [0, 1] (ihr (a0.1, a0.2) a1 (a0.2.getD (toNat a2) default).2.2.1 a3 (by (try simp only [Lt]); omega) (by (try simp only [Lt]); omega) (by first | exact (hA (by omega)).1.1 | exact (hA (by omega)).1.2 | exact (hB (by omega)).1.1 | exact (hB (by omega)).1.2) (by first | exact (hA (by omega)).2.1.1 | exact (hA (by omega)).2.1.2 | exact (hB (by omega)).2.1.1 | exact (hB (by omega)).2.1.2)), .c [0, 1] (ihr (a0.1, a0.2) a1 (a0.2.getD (toNat a2) default).2.2.2.1 a3 (by (try simp only [Lt]); omega) (by (try simp only [Lt]); omega) (by first | exact (hA (by omega)).1.1 | exact (hA (by omega)).1.2 | exact (hB (by omega)).1.1 | exact (hB (by omega)).1.2) (by first | exact (hA (by omega)).2.1.1 | exact (hA (by omega)).2.1.2 | exact (hB (by omega)).2.1.1 | exact (hB (by omega)).2.1.2)), .p (show ((flat c71 (A69_4 (R69 nr) a0 a1 a2 a3)).length = (A69_4 (R69 nr) a0 a1 a2 a3).length * 3 ∧ (flat c71 (A69_5 (R69 nr) a0 a1 a2 a3)).length = (A69_5 (R69 nr) a0 a1 a2 a3).length * 3 ∧ (flat c71 (A69_5 (R69 nr) a0 a1 a2 a3)).all SV.one = true ∧ (A69_4 (R69 nr) a0 a1 a2 a3).length + (A69_5 (R69 nr) a0 a1 a2 a3).length ≤ 2 ^ 40 ∧ ((A69_4 (R69 nr) a0 a1 a2 a3).length + (A69_5 (R69 nr) a0 a1 a2 a3).length) * 24 ≤ 2 ^ 47) from by refine ⟨?_, ?_, ?_, ?_, ?_⟩ <;> first | omega | exact flat_one (fun _ => rfl) | (simp [flat_lenc c71_len]; done) | (simp [flat_lenc c71_len]; omega))]) [] [7] hcx (by kernel_rfl)
 | false =>
  have q0 := odf h0
  let t1 : List (St Try.prog) := [.d h0]
  cases h1 : (decide (((a0.2.getD (toNat a2) default).2.2.1 : Int) < 0)) with
  | true =>
   have q1 := odt h1
   have e := Eq.refl (S69_j5 (R69 nr) a0 a1 a2 a3 ()); conv at e => rhs; simp only [S69_j5, h0, h1, cdb]
   rw [e]
   rw [show flat c71 ((A69_2 (R69 nr) a0 a1 a2 a3) ++ (A69_3 (R69 nr) a0 a1 a2 a3)) = ((flat c71 (A69_2 (R69 nr) a0 a1 a2 a3)) ++ (flat c71 (A69_3 (R69 nr) a0 a1 a2 a3))) from Eq.symm (by simp [flat])]
   rw [show ((A69_2 (R69 nr) a0 a1 a2 a3) ++ (A69_3 (R69 nr) a0 a1 a2 a3)).length = ((A69_2 (R69 nr) a0 a1 a2 a3).length + (A69_3 (R69 nr) a0 a1 a2 a3).length) from by simp]
   exact rt (t1 ++ [.d h1, .c [0, 1] (ihr (a0.1, a0.2) (a0.2.getD (toNat a1) default).2.2.1 a2 a3 (by (try simp only [Lt]); omega) (by (try simp only [Lt]); omega) (by first | exact (hA (by omega)).1.1 | exact (hA (by omega)).1.2 | exact (hB (by omega)).1.1 | exact (hB (by omega)).1.2) (by first | exact (hA (by omega)).2.1.1 | exact (hA (by omega)).2.1.2 | exact (hB (by omega)).2.1.1 | exact (hB (by omega)).2.1.2)), .c [0, 1] (ihr (a0.1, a0.2) (a0.2.getD (toNat a1) default).2.2.2.1 a2 a3 (by (try simp only [Lt]); omega) (by (try simp only [Lt]); omega) (by first | exact (hA (by omega)).1.1 | exact (hA (by omega)).1.2 | exact (hB (by omega)).1.1 | exact (hB (by omega)).1.2) (by first | exact (hA (by omega)).2.1.1 | exact (hA (by omega)).2.1.2 | exact (hB (by omega)).2.1.1 | exact (hB (by omega)).2.1.2)), .p (show ((flat c71 (A69_2 (R69 nr) a0 a1 a2 a3)).length = (A69_2 (R69 nr) a0 a1 a2 a3).length * 3 ∧ (flat c71 (A69_3 (R69 nr) a0 a1 a2 a3)).length = (A69_3 (R69 nr) a0 a1 a2 a3).length * 3 ∧ (flat c71 (A69_3 (R69 nr) a0 a1 a2 a3)).all SV.one = true ∧ (A69_2 (R69 nr) a0 a1 a2 a3).length + (A69_3 (R69 nr) a0 a1 a2 a3).length ≤ 2 ^ 40 ∧ ((A69_2 (R69 nr) a0 a1 a2 a3).length + (A69_3 (R69 nr) a0 a1 a2 a3).length) * 24 ≤ 2 ^ 47) from by refine ⟨?_, ?_, ?_, ?_, ?_⟩ <;> first | omega | exact flat_one (fun _ => rfl) | (simp [flat_lenc c71_len]; done) | (simp [flat_lenc c71_len]; omega))]) [] [7] hcx (by kernel_rfl)
  | false =>
   have q1 := odf h1
   let t2 : List (St Try.prog) := (t1 ++ [.d h1])
   cases h2 : (decide (((a0.2.getD (toNat a1) default).2.2.1 : Int) ≥ 0)) with
   | true =>
    have q2 := odt h2
    let t3 : List (St Try.prog) := (t2 ++ [.d h2])
    cases h3 : (decide (((W ((a0.2.getD (toNat a1) default).2.1 - (a0.2.getD (toNat a1) default).1)) : Int) ≥ (W ((a0.2.getD (toNat a2) default).2.1 - (a0.2.getD (toNat a2) default).1)))) with
    | true =>
     have q3 := odt h3
     have e := Eq.refl (S69_j5 (R69 nr) a0 a1 a2 a3 ()); conv at e => rhs; simp only [S69_j5, h0, h1, h2, h3, cdb]
     rw [e]
     rw [show flat c71 ((A69_2 (R69 nr) a0 a1 a2 a3) ++ (A69_3 (R69 nr) a0 a1 a2 a3)) = ((flat c71 (A69_2 (R69 nr) a0 a1 a2 a3)) ++ (flat c71 (A69_3 (R69 nr) a0 a1 a2 a3))) from Eq.symm (by simp [flat])]
     rw [show ((A69_2 (R69 nr) a0 a1 a2 a3) ++ (A69_3 (R69 nr) a0 a1 a2 a3)).length = ((A69_2 (R69 nr) a0 a1 a2 a3).length + (A69_3 (R69 nr) a0 a1 a2 a3).length) from by simp]
     exact rt (t3 ++ [.d h3, .c [0, 1] (ihr (a0.1, a0.2) (a0.2.getD (toNat a1) default).2.2.1 a2 a3 (by (try simp only [Lt]); omega) (by (try simp only [Lt]); omega) (by first | exact (hA (by omega)).1.1 | exact (hA (by omega)).1.2 | exact (hB (by omega)).1.1 | exact (hB (by omega)).1.2) (by first | exact (hA (by omega)).2.1.1 | exact (hA (by omega)).2.1.2 | exact (hB (by omega)).2.1.1 | exact (hB (by omega)).2.1.2)), .c [0, 1] (ihr (a0.1, a0.2) (a0.2.getD (toNat a1) default).2.2.2.1 a2 a3 (by (try simp only [Lt]); omega) (by (try simp only [Lt]); omega) (by first | exact (hA (by omega)).1.1 | exact (hA (by omega)).1.2 | exact (hB (by omega)).1.1 | exact (hB (by omega)).1.2) (by first | exact (hA (by omega)).2.1.1 | exact (hA (by omega)).2.1.2 | exact (hB (by omega)).2.1.1 | exact (hB (by omega)).2.1.2)), .p (show ((flat c71 (A69_2 (R69 nr) a0 a1 a2 a3)).length = (A69_2 (R69 nr) a0 a1 a2 a3).length * 3 ∧ (flat c71 (A69_3 (R69 nr) a0 a1 a2 a3)).length = (A69_3 (R69 nr) a0 a1 a2 a3).length * 3 ∧ (flat c71 (A69_3 (R69 nr) a0 a1 a2 a3)).all SV.one = true ∧ (A69_2 (R69 nr) a0 a1 a2 a3).length + (A69_3 (R69 nr) a0 a1 a2 a3).length ≤ 2 ^ 40 ∧ ((A69_2 (R69 nr) a0 a1 a2 a3).length + (A69_3 (R69 nr) a0 a1 a2 a3).length) * 24 ≤ 2 ^ 47) from by refine ⟨?_, ?_, ?_, ?_, ?_⟩ <;> first | omega | exact flat_one (fun _ => rfl) | (simp [flat_lenc c71_len]; done) | (simp [flat_lenc c71_len]; omega))]) [] [7] hcx (by kernel_rfl)
    | false =>
     have q3 := odf h3
     have e := Eq.refl (S69_j5 (R69 nr) a0 a1 a2 a3 ()); conv at e => rhs; simp only [S69_j5, h0, h1, h2, h3, cdb]
     rw [e]
     rw [show flat c71 ((A69_4 (R69 nr) a0 a1 a2 a3) ++ (A69_5 (R69 nr) a0 a1 a2 a3)) = ((flat c71 (A69_4 (R69 nr) a0 a1 a2 a3)) ++ (flat c71 (A69_5 (R69 nr) a0 a1 a2 a3))) from Eq.symm (by simp [flat])]
     rw [show ((A69_4 (R69 nr) a0 a1 a2 a3) ++ (A69_5 (R69 nr) a0 a1 a2 a3)).length = ((A69_4 (R69 nr) a0 a1 a2 a3).length + (A69_5 (R69 nr) a0 a1 a2 a3).length) from by simp]
     exact rt (t3 ++ [.d h3, .c [0, 1] (ihr (a0.1, a0.2) a1 (a0.2.getD (toNat a2) default).2.2.1 a3 (by (try simp only [Lt]); omega) (by (try simp only [Lt]); omega) (by first | exact (hA (by omega)).1.1 | exact (hA (by omega)).1.2 | exact (hB (by omega)).1.1 | exact (hB (by omega)).1.2) (by first | exact (hA (by omega)).2.1.1 | exact (hA (by omega)).2.1.2 | exact (hB (by omega)).2.1.1 | exact (hB (by omega)).2.1.2)), .c [0, 1] (ihr (a0.1, a0.2) a1 (a0.2.getD (toNat a2) default).2.2.2.1 a3 (by (try simp only [Lt]); omega) (by (try simp only [Lt]); omega) (by first | exact (hA (by omega)).1.1 | exact (hA (by omega)).1.2 | exact (hB (by omega)).1.1 | exact (hB (by omega)).1.2) (by first | exact (hA (by omega)).2.1.1 | exact (hA (by omega)).2.1.2 | exact (hB (by omega)).2.1.1 | exact (hB (by omega)).2.1.2)), .p (show ((flat c71 (A69_4 (R69 nr) a0 a1 a2 a3)).length = (A69_4 (R69 nr) a0 a1 a2 a3).length * 3 ∧ (flat c71 (A69_5 (R69 nr) a0 a1 a2 a3)).length = (A69_5 (R69 nr) a0 a1 a2 a3).length * 3 ∧ (flat c71 (A69_5 (R69 nr) a0 a1 a2 a3)).all SV.one = true ∧ (A69_4 (R69 nr) a0 a1 a2 a3).length + (A69_5 (R69 nr) a0 a1 a2 a3).length ≤ 2 ^ 40 ∧ ((A69_4 (R69 nr) a0 a1 a2 a3).length + (A69_5 (R69 nr) a0 a1 a2 a3).length) * 24 ≤ 2 ^ 47) from by refine ⟨?_, ?_, ?_, ?_, ?_⟩ <;> first | omega | exact flat_one (fun _ => rfl) | (simp [flat_lenc c71_len]; done) | (simp [flat_lenc c71_len]; omega))]) [] [7] hcx (by kernel_rfl)
   | false =>
    have q2 := odf h2
    have e := Eq.refl (S69_j5 (R69 nr) a0 a1 a2 a3 ()); conv at e => rhs; simp only [S69_j5, h0, h1, h2, cdb]
    rw [e]
    rw [show flat c71 ((A69_4 (R69 nr) a0 a1 a2 a3) ++ (A69_5 (R69 nr) a0 a1 a2 a3)) = ((flat c71 (A69_4 (R69 nr) a0 a1 a2 a3)) ++ (flat c71 (A69_5 (R69 nr) a0 a1 a2 a3))) from Eq.symm (by simp [flat])]
    rw [show ((A69_4 (R69 nr) a0 a1 a2 a3) ++ (A69_5 (R69 nr) a0 a1 a2 a3)).length = ((A69_4 (R69 nr) a0 a1 a2 a3).length + (A69_5 (R69 nr) a0 a1 a2 a3).length) from by simp]
    exact rt (t2 ++ [.d h2, .c [0, 1] (ihr (a0.1, a0.2) a1 (a0.2.getD (toNat a2) default).2.2.1 a3 (by (try simp only [Lt]); omega) (by (try simp only [Lt]); omega) (by first | exact (hA (by omega)).1.1 | exact (hA (by omega)).1.2 | exact (hB (by omega)).1.1 | exact (hB (by omega)).1.2) (by first | exact (hA (by omega)).2.1.1 | exact (hA (by omega)).2.1.2 | exact (hB (by omega)).2.1.1 | exact (hB (by omega)).2.1.2)), .c [0, 1] (ihr (a0.1, a0.2) a1 (a0.2.getD (toNat a2) default).2.2.2.1 a3 (by (try simp only [Lt]); omega) (by (try simp only [Lt]); omega) (by first | exact (hA (by omega)).1.1 | exact (hA (by omega)).1.2 | exact (hB (by omega)).1.1 | exact (hB (by omega)).1.2) (by first | exact (hA (by omega)).2.1.1 | exact (hA (by omega)).2.1.2 | exact (hB (by omega)).2.1.1 | exact (hB (by omega)).2.1.2)), .p (show ((flat c71 (A69_4 (R69 nr) a0 a1 a2 a3)).length = (A69_4 (R69 nr) a0 a1 a2 a3).length * 3 ∧ (flat c71 (A69_5 (R69 nr) a0 a1 a2 a3)).length = (A69_5 (R69 nr) a0 a1 a2 a3).length * 3 ∧ (flat c71 (A69_5 (R69 nr) a0 a1 a2 a3)).all SV.one = true ∧ (A69_4 (R69 nr) a0 a1 a2 a3).length + (A69_5 (R69 nr) a0 a1 a2 a3).length ≤ 2 ^ 40 ∧ ((A69_4 (R69 nr) a0 a1 a2 a3).length + (A69_5 (R69 nr) a0 a1 a2 a3).length) * 24 ≤ 2 ^ 47) from by refine ⟨?_, ?_, ?_, ?_, ?_⟩ <;> first | omega | exact flat_one (fun _ => rfl) | (simp [flat_lenc c71_len]; done) | (simp [flat_lenc c71_len]; omega))]) [] [7] hcx (by kernel_rfl)

theorem Cr69 : ∀ (nr : Nat) (a0 : List (Int) × TyN) (a1 : Int) (a2 : Int) (a3 : Int) (l0_1 : a0.1.length ≤ 9223372036854775807) (l0_2 : a0.2.length ≤ 9223372036854775807) (hp : PVB a1 a2 a0 []), ((a0.2.length - toNat a1) + (a0.2.length - toNat a2)) < nr → Con Try.prog 69 [(.a [(.s 0 0 a0.1.length 1), (.s 1 0 a0.2.length 8)]), (iv a1), (iv a2), (iv a3)] [(.live false true (flat c3 a0.1)), (.live false true (flat c40 a0.2))] (.s 2 0 (R69 nr a0 a1 a2 a3).length 3) [(.live true true (flat c71 (R69 nr a0 a1 a2 a3)))] := by
 intro nr
 induction nr with
 | zero => intro a0 a1 a2 a3 l0_1 l0_2 hp hlt; exact absurd hlt (nlz _)
 | succ nr ihr =>
 intro a0 a1 a2 a3 l0_1 l0_2 hp hlt
 refine con_s Try.func69 (by kernel_rfl) fun cx hcx => ?_
 have hpb := pvb_bd hp
 have hp1 := hp.e0
 have hp2 := hp.e1
 have hp3 := hp.e2
 let t0 : List (St Try.prog) := [.i a1 (a0.2.length), .L c40_len a0.2 a1 0 8, .i a2 (a0.2.length), .L c40_len a0.2 a2 0 8, .c [] (C45 (a0.2.getD (toNat a1) default) (a0.2.getD (toNat a2) default))]
 cases h0 : (decide (((W ((W ((W ((W ((a0.2.getD (toNat a1) default).2.2.2.2.2 + (a0.2.getD (toNat a2) default).2.2.2.2.2)) * 4)) * a3)) * a3)) : Int) ≤ (A69_1 a0 a1 a2 a3))) with
 | true =>
  have q0 := odt h0
  let t1 : List (St Try.prog) := (t0 ++ [.d h0])
  cases h1 : (decide (((A69_1 a0 a1 a2 a3) : Int) > 0)) with
  | true =>
   have q1 := odt h1
   have e := Eq.refl (R69 (nr + 1) a0 a1 a2 a3); conv at e => rhs; simp only [R69, h0, h1, cdb]
   rw [e]
   exact rt (t1 ++ [.d h1]) [.sym 5 true] [5] hcx (by kernel_rfl)
  | false =>
   have q1 := odf h1
   have e := Eq.refl (R69 (nr + 1) a0 a1 a2 a3); conv at e => rhs; simp only [R69, h0, h1, cdb]
   rw [e]
   refine ga (t1 ++ [.d h1, .z 5]) [] [1, 2, 3, 4, 9, 10] [2, 3, 4] hcx B69_j5 (K69_j5) (st69_j5 nr a0 a1 a2 a3) (by kernel_rfl) ?_
   exact L69_j5 nr a0 a1 a2 a3 l0_1 l0_2 hp hlt ihr hcx trivial
 | false =>
  have q0 := odf h0
  have e := Eq.refl (R69 (nr + 1) a0 a1 a2 a3); conv at e => rhs; simp only [R69, h0, cdb]
  rw [e]
  refine ga (t0 ++ [.d h0, .z 5]) [] [1, 2, 3, 4, 9, 10] [2, 3, 4] hcx B69_j5 (K69_j5) (st69_j5 nr a0 a1 a2 a3) (by kernel_rfl) ?_
  exact L69_j5 nr a0 a1 a2 a3 l0_1 l0_2 hp hlt ihr hcx trivial

theorem C69 (a0 : List (Int) × TyN) (a1 : Int) (a2 : Int) (a3 : Int) (l0_1 : a0.1.length ≤ 9223372036854775807) (l0_2 : a0.2.length ≤ 9223372036854775807) (hp : PVB a1 a2 a0 []) : Con Try.prog 69 [(.a [(.s 0 0 a0.1.length 1), (.s 1 0 a0.2.length 8)]), (iv a1), (iv a2), (iv a3)] [(.live false true (flat c3 a0.1)), (.live false true (flat c40 a0.2))] (.s 2 0 (F69 a0 a1 a2 a3).length 3) [(.live true true (flat c71 (F69 a0 a1 a2 a3)))] := Cr69 (((a0.2.length - toNat a1) + (a0.2.length - toNat a2)) + 1) a0 a1 a2 a3 l0_1 l0_2 hp (lss _)


def FARB (t : TR) (sep : Int) (i k : Int) : Prop :=
 W (W (W (W ((t.2.getD (toNat i) default).2.2.2.2.2 + (t.2.getD (toNat k) default).2.2.2.2.2) * 4) * sep) * sep) ≤ F39 (F40 (t.2.getD (toNat i) default).2.2.2.2.1 (t.2.getD (toNat k) default).2.2.2.2.1) ∧
   F39 (F40 (t.2.getD (toNat i) default).2.2.2.2.1 (t.2.getD (toNat k) default).2.2.2.2.1) > 0
def SPLA (t : TR) (i k : Int) : Prop :=
 (t.2.getD (toNat k) default).2.2.1 < 0 ∨ ((t.2.getD (toNat i) default).2.2.1 ≥ 0 ∧ W ((t.2.getD (toNat i) default).2.1 - (t.2.getD (toNat i) default).1) ≥ W ((t.2.getD (toNat k) default).2.1 - (t.2.getD (toNat k) default).1))
section
variable {t : TR} {sep i k : Int} {out : List BLK} {n : Nat}
theorem blk_j7 : S68_j7 (R68 n) i k t sep out () = (open Classical in if SPLA t i k then A68_3 (R68 n) i k t sep out else A68_5 (R68 n) i k t sep out) := by
 simp only [S68_j7]
 unfold SPLA
 by_cases h1 : (t.2.getD (toNat k) default).2.2.1 < 0
 · rw [dqt h1, cond_true, if_pos (.inl h1)]
 · rw [dqf h1, cond_false]
   by_cases h2 : (t.2.getD (toNat i) default).2.2.1 ≥ 0
   · rw [dqt h2, cond_true]
     by_cases h3 : W ((t.2.getD (toNat i) default).2.1 - (t.2.getD (toNat i) default).1) ≥ W ((t.2.getD (toNat k) default).2.1 - (t.2.getD (toNat k) default).1)
     · rw [dqt h3, cond_true, if_pos (.inr ⟨h2, h3⟩)]
     · rw [dqf h3, cond_false, if_neg (fun h => h.elim h1 (fun h => h3 h.2))]
   · rw [dqf h2, cond_false, if_neg (fun h => h.elim h1 (fun h => h2 h.1))]
end
section
variable {t : TR} {sep i k : Int} {out : List BLK} {n : Nat}
theorem blk_far (h : FARB t sep i k) : R68 (n + 1) i k t sep out = out ++ [(i, k, true)] := by
 simp only [R68]
 rw [dqt (show F39 (A68_1 i k t sep out) > 0 from h.2), cond_true, dqt (show W (W (W (W ((t.2.getD (toNat i) default).2.2.2.2.2 + (t.2.getD (toNat k) default).2.2.2.2.2) * 4) * sep) * sep) ≤ F39 (A68_1 i k t sep out) from h.1)]
 rfl
theorem blk_not (h : ¬ FARB t sep i k) : R68 (n + 1) i k t sep out = S68_j5 (R68 n) i k t sep out false := by
 simp only [R68]
 by_cases h2 : F39 (A68_1 i k t sep out) > 0
 · rw [dqt h2, cond_true, dqf (show ¬ W (W (W (W ((t.2.getD (toNat i) default).2.2.2.2.2 + (t.2.getD (toNat k) default).2.2.2.2.2) * 4) * sep) * sep) ≤ F39 (A68_1 i k t sep out) from fun h1 => h ⟨h1, h2⟩)]
 · rw [dqf h2, cond_false]
theorem blk_j5 : S68_j5 (R68 n) i k t sep out false = if (t.2.getD (toNat i) default).2.2.1 < 0 ∧ (t.2.getD (toNat k) default).2.2.1 < 0 then out ++ [(i, k, false)] else S68_j7 (R68 n) i k t sep out () := by
 simp only [S68_j5, cond_false, S68_j6]
 by_cases zi : (t.2.getD (toNat i) default).2.2.1 < 0 <;> by_cases zk : (t.2.getD (toNat k) default).2.2.1 < 0
 · rw [dqt zi, dqt zk, if_pos ⟨zi, zk⟩]; rfl
 · rw [dqt zi, dqf zk, if_neg (fun h => zk h.2)]; rfl
 · rw [dqf zi, if_neg (fun h => zi h.1)]; rfl
 · rw [dqf zi, if_neg (fun h => zi h.1)]; rfl
theorem prs_far (h : FARB t sep i k) : R69 (n + 1) t i k sep = [(i, k, true)] := by
 simp only [R69]
 rw [dqt (show W (W (W (W ((t.2.getD (toNat i) default).2.2.2.2.2 + (t.2.getD (toNat k) default).2.2.2.2.2) * 4) * sep) * sep) ≤ A69_1 t i k sep from h.1), cond_true, dqt (show A69_1 t i k sep > 0 from h.2)]
 rfl
theorem prs_not (h : ¬ FARB t sep i k) : R69 (n + 1) t i k sep = S69_j5 (R69 n) t i k sep () := by
 simp only [R69]
 by_cases h1 : W (W (W (W ((t.2.getD (toNat i) default).2.2.2.2.2 + (t.2.getD (toNat k) default).2.2.2.2.2) * 4) * sep) * sep) ≤ A69_1 t i k sep
 · rw [dqt h1, cond_true, dqf (show ¬ A69_1 t i k sep > 0 from fun h2 => h ⟨h1, h2⟩), cond_false]
 · rw [dqf h1, cond_false]
theorem prs_j5 : S69_j5 (R69 n) t i k sep () = (open Classical in if (t.2.getD (toNat i) default).2.2.1 < 0 ∧ (t.2.getD (toNat k) default).2.2.1 < 0 then [(i, k, false)] else if SPLA t i k then A69_2 (R69 n) t i k sep ++ A69_3 (R69 n) t i k sep else A69_4 (R69 n) t i k sep ++ A69_5 (R69 n) t i k sep) := by
 simp only [S69_j5]
 unfold SPLA
 by_cases zi : (t.2.getD (toNat i) default).2.2.1 < 0 <;> by_cases zk : (t.2.getD (toNat k) default).2.2.1 < 0
 · rw [dqt zi, dqt zk, if_pos ⟨zi, zk⟩]; rfl
 · rw [dqt zi, dqf zk, cond_true, cond_false, dqf (show ¬ (t.2.getD (toNat i) default).2.2.1 ≥ 0 by omega), cond_false, if_neg (fun h => zk h.2), if_neg (fun h => h.elim zk (fun h => absurd h.1 (by omega)))]
 · rw [dqf zi, dqt zk, cond_false, cond_true, if_neg (fun h => zi h.1), if_pos (.inl zk)]
 · rw [dqf zi, dqf zk, cond_false, cond_false, dqt (show (t.2.getD (toNat i) default).2.2.1 ≥ 0 by omega), cond_true, if_neg (fun h => zi h.1)]
   by_cases h3 : W ((t.2.getD (toNat i) default).2.1 - (t.2.getD (toNat i) default).1) ≥ W ((t.2.getD (toNat k) default).2.1 - (t.2.getD (toNat k) default).1)
   · rw [dqt h3, cond_true, if_pos (.inr ⟨by omega, h3⟩)]
   · rw [dqf h3, cond_false, if_neg (fun h => h.elim zk (fun h => h3 h.2))]
end
theorem blk_prs : ∀ (n : Nat) (i k : Int) (t : TR) (sep : Int) (out : List BLK) (m : Nat) (f u h : Int) (m' : Nat) (f' u' h' : Int), TRE t.2 (toNat i) m f u h → TRE t.2 (toNat k) m' f' u' h' → 0 ≤ i → 0 ≤ k → (t.2.length - toNat i) + (t.2.length - toNat k) < n →
   R68 n i k t sep out = out ++ R69 n t i k sep
 | 0, _, _, _, _, _, _, _, _, _, _, _, _, _, _, _, _, _, h => absurd h (nlz _)
 | n + 1, i, k, t, sep, out, m, f, u, h, m', f', u', h', H, K, hi, hk, hn => by
   have hb := tre_le H
   have kb := tre_le K
   by_cases hf : FARB t sep i k
   · rw [blk_far hf, prs_far hf]
   · rw [blk_not hf, prs_not hf, blk_j5, prs_j5, blk_j7]
     by_cases z : (t.2.getD (toNat i) default).2.2.1 < 0 ∧ (t.2.getD (toNat k) default).2.2.1 < 0
     · rw [if_pos z, if_pos z]
     · rw [if_neg z, if_neg z]
       by_cases hs : SPLA t i k
       · rw [if_pos hs, if_pos hs]
         have hq : ¬ (t.2.getD (toNat i) default).2.2.1 < 0 := fun h0 => hs.elim (fun h1 => z ⟨h0, h1⟩) (fun h1 => absurd h1.1 (by omega))
         rcases tre_kids H with ⟨_, _, h5, _⟩ | ⟨m1, m2, c, h1, h2, e8, g4, g5, b1, b2, e9⟩
         · omega
         · have l1 := tre_le b1
           have l2 := tre_le b2
           have t1 : TRE t.2 (toNat (t.2.getD (toNat i) default).2.2.1) m1 f c h1 := by rw [g4, itn]; exact b1
           have t2 : TRE t.2 (toNat (t.2.getD (toNat i) default).2.2.2.1) m2 c u h2 := by rw [g5, itn]; exact b2
           have c1 : A68_2 (R68 n) i k t sep out = out ++ A69_2 (R69 n) t i k sep := blk_prs n (t.2.getD (toNat i) default).2.2.1 k t sep out m1 f c h1 m' f' u' h' t1 K (by omega) hk (by omega)
           have c2 : A68_3 (R68 n) i k t sep out = A68_2 (R68 n) i k t sep out ++ A69_3 (R69 n) t i k sep := blk_prs n (t.2.getD (toNat i) default).2.2.2.1 k t sep _ m2 c u h2 m' f' u' h' t2 K (by omega) hk (by omega)
           rw [c2, c1, List.append_assoc]
       · rw [if_neg hs, if_neg hs]
         have hq : ¬ (t.2.getD (toNat k) default).2.2.1 < 0 := fun h0 => hs (.inl h0)
         rcases tre_kids K with ⟨_, _, h5, _⟩ | ⟨m1, m2, c, h1, h2, e8, g4, g5, b1, b2, e9⟩
         · omega
         · have l1 := tre_le b1
           have l2 := tre_le b2
           have t1 : TRE t.2 (toNat (t.2.getD (toNat k) default).2.2.1) m1 f' c h1 := by rw [g4, itn]; exact b1
           have t2 : TRE t.2 (toNat (t.2.getD (toNat k) default).2.2.2.1) m2 c u' h2 := by rw [g5, itn]; exact b2
           have c1 : A68_4 (R68 n) i k t sep out = out ++ A69_4 (R69 n) t i k sep := blk_prs n i (t.2.getD (toNat k) default).2.2.1 t sep out m f u h m1 f' c h1 H t1 hi (by omega) (by omega)
           have c2 : A68_5 (R68 n) i k t sep out = A68_4 (R68 n) i k t sep out ++ A69_5 (R69 n) t i k sep := blk_prs n i (t.2.getD (toNat k) default).2.2.2.1 t sep _ m f u h m2 c u' h2 H t2 hi (by omega) (by omega)
           rw [c2, c1, List.append_assoc]

end Go.Proofs.Ytnbpiejjeeomkaa

namespace Go.Proofs.Ytnbpiejjeeomkaa
open Go.Proofs Go.Aw Go.RowKit
set_option maxRecDepth 100000

theorem rck_pvb {l : LCH} {t : TR} (h : F15_L l t = 0) (h0 : 0 < t.2.length) : PVB 0 0 t [] := by
 obtain ⟨hv, leaf, h1, _, rfl⟩ := rck_ok h
 have hl := hv.1
 have hb := BT_len l hv.1 h1
 rcases BT_tre l h1 with ⟨_, e⟩ | ⟨hh, H⟩
 · rw [e] at h0; exact absurd h0 (Nat.lt_irrefl _)
 · have hw := tre_le H
   have hm : ((l.length : Int) - 0) * ((l.length : Int) - 0) ≤ 96 * 96 := Int.mul_le_mul (by omega) (by omega) (by omega) (by omega)
   exact ⟨Int.le_refl _, Int.le_refl _, by omega, _, _, _, _, _, _, _, _, H, H, by simp only [List.length_nil]; omega⟩

def F54 (a0 : List (Int) × TyN) (a1 : Int) : List (Int × Int × Bool) :=
 (bif (((a0.2.length : Int) : Int) == 0) then
  ([] : List (Int × Int × Bool))
 else
  (F69 (a0.1, a0.2) 0 0 a1))

theorem C54 (a0 : List (Int) × TyN) (a1 : Int) (l0_1 : a0.1.length ≤ 9223372036854775807) (l0_2 : a0.2.length ≤ 9223372036854775807) (hp : 0 < a0.2.length → PVB 0 0 a0 []) : Con Try.prog 54 [(.a [(.s 0 0 a0.1.length 1), (.s 1 0 a0.2.length 8)]), (iv a1)] [(.live false true (flat c3 a0.1)), (.live false true (flat c40 a0.2))] (.s 2 0 (F54 a0 a1).length 3) [(.live true true (flat c71 (F54 a0 a1)))] := by
 refine con_s Try.func54 (by kernel_rfl) fun cx hcx => ?_
 cases h0 : (((a0.2.length : Int) : Int) == 0) with
 | true =>
  have q0 := eq_of_beq h0
  have e := Eq.refl (F54 a0 a1); conv at e => rhs; simp only [F54, h0, cdb]
  rw [e]
  exact rt [.d h0] [.slot 4 3] [3] hcx (by kernel_rfl)
 | false =>
  have q0 := ne_of_beq_false h0
  have e := Eq.refl (F54 a0 a1); conv at e => rhs; simp only [F54, h0, cdb]
  rw [e]
  exact rt [.d h0, .c [0, 1] (C69 (a0.1, a0.2) 0 0 a1 (by (try simp only [Lt]); omega) (by (try simp only [Lt]); omega) (hp (by omega)))] [] [3] hcx (by kernel_rfl)

def F28_L (a0 : TyL) (a1 : List (Int) × TyN) (a2 : Int) : (List (Int × Int × Bool)) × Int :=
 (bif (((F49_L a0 (a1.1, a1.2) a2) : Int) != 0) then
  (([] : List (Int × Int × Bool)), (F49_L a0 (a1.1, a1.2) a2))
 else
  ((F53 (a1.1, a1.2) a2), 0))

theorem C28_L (a0 : TyL) (a1 : List (Int) × TyN) (a2 : Int) (l0 : a0.length ≤ 9223372036854775807) (l1_1 : a1.1.length ≤ 9223372036854775807) (l1_2 : a1.2.length ≤ 9223372036854775807) : Con Try.prog 28 [(.s 0 0 a0.length 10), (.a [(.s 1 0 a1.1.length 1), (.s 2 0 a1.2.length 8)]), (iv a2)] [(.live false true (flat c81 a0)), (.live false true (flat c3 a1.1)), (.live false true (flat c40 a1.2))] (.t [(.s 3 0 (F28_L a0 a1 a2).1.length 3), (iv (F28_L a0 a1 a2).2)]) [(.live true true (flat c71 (F28_L a0 a1 a2).1))] := by
 refine con_s Try.func28 (by kernel_rfl) fun cx hcx => ?_
 let t0 : List (St Try.prog) := [.c [0, 1, 2] (C49_L a0 (a1.1, a1.2) a2 (by omega) (by (try simp only [Lt]); omega) (by (try simp only [Lt]); omega))]
 cases h0 : (((F49_L a0 (a1.1, a1.2) a2) : Int) != 0) with
 | true =>
  have q0 := bne_iff_ne.1 h0
  have e := Eq.refl (F28_L a0 a1 a2); conv at e => rhs; simp only [F28_L, h0, cdb]
  rw [e]
  exact rt (t0 ++ [.d h0]) [.slot 6 3] [4] hcx (by kernel_rfl)
 | false =>
  have q0 := bne_eq_false_iff_eq.1 h0
  have e := Eq.refl (F28_L a0 a1 a2); conv at e => rhs; simp only [F28_L, h0, cdb]
  rw [e]
  exact rt (t0 ++ [.d h0, .c [1, 2] (C53 (a1.1, a1.2) a2 (by (try simp only [Lt]); omega) (by (try simp only [Lt]); omega) (fun q => rck_pvb (tck_0 (by assumption)) q))]) [] [4] hcx (by kernel_rfl)

def F29_L (a0 : TyL) (a1 : List (Int) × TyN) (a2 : Int) : (List (Int × Int × Bool)) × Int :=
 (bif (((F15_L a0 (a1.1, a1.2)) : Int) != 0) then
  (([] : List (Int × Int × Bool)), (F15_L a0 (a1.1, a1.2)))
 else
  (bif (!(F43 a2 1 16)) then
   (([] : List (Int × Int × Bool)), 1)
  else
   ((F54 (a1.1, a1.2) a2), 0)))

theorem C29_L (a0 : TyL) (a1 : List (Int) × TyN) (a2 : Int) (l0 : a0.length ≤ 9223372036854775807) (l1_1 : a1.1.length ≤ 9223372036854775807) (l1_2 : a1.2.length ≤ 9223372036854775807) : Con Try.prog 29 [(.s 0 0 a0.length 10), (.a [(.s 1 0 a1.1.length 1), (.s 2 0 a1.2.length 8)]), (iv a2)] [(.live false true (flat c81 a0)), (.live false true (flat c3 a1.1)), (.live false true (flat c40 a1.2))] (.t [(.s 3 0 (F29_L a0 a1 a2).1.length 3), (iv (F29_L a0 a1 a2).2)]) [(.live true true (flat c71 (F29_L a0 a1 a2).1))] := by
 refine con_s Try.func29 (by kernel_rfl) fun cx hcx => ?_
 let t0 : List (St Try.prog) := [.c [0, 1, 2] (C15_L a0 (a1.1, a1.2) (by omega) (by (try simp only [Lt]); omega) (by (try simp only [Lt]); omega))]
 cases h0 : (((F15_L a0 (a1.1, a1.2)) : Int) != 0) with
 | true =>
  have q0 := bne_iff_ne.1 h0
  have e := Eq.refl (F29_L a0 a1 a2); conv at e => rhs; simp only [F29_L, h0, cdb]
  rw [e]
  exact rt (t0 ++ [.d h0]) [.slot 6 3] [4] hcx (by kernel_rfl)
 | false =>
  have q0 := bne_eq_false_iff_eq.1 h0
  let t1 : List (St Try.prog) := (t0 ++ [.d h0, .c [] (C43 a2 1 16)])
  cases h1 : (!(F43 a2 1 16)) with
  | true =>
   have e := Eq.refl (F29_L a0 a1 a2); conv at e => rhs; simp only [F29_L, h0, h1, cdb]
   rw [e]
   exact rt (t1 ++ [.d h1]) [.slot 6 3] [4] hcx (by kernel_rfl)
  | false =>
   have e := Eq.refl (F29_L a0 a1 a2); conv at e => rhs; simp only [F29_L, h0, h1, cdb]
   rw [e]
   exact rt (t1 ++ [.d h1, .c [1, 2] (C54 (a1.1, a1.2) a2 (by (try simp only [Lt]); omega) (by (try simp only [Lt]); omega) (fun q => rck_pvb (bne_eq_false_iff_eq.1 (by assumption)) q))]) [] [4] hcx (by kernel_rfl)

theorem blks_eq {l : LCH} {t : TR} (sep : Int) (h : F15_L l t = 0) : F53 t sep = F54 t sep := by
 obtain ⟨hv, leaf, h1, _, rfl⟩ := rck_ok h
 rcases BT_tre l h1 with ⟨_, e⟩ | ⟨hh, H⟩
 · rw [e]; rfl
 · have hw := tre_le H
   unfold F53 F54
   rw [dqt (show (((BT l leaf).2.length : Nat) : Int) > 0 by omega), cond_true, show ((((BT l leaf).2.length : Nat) : Int) == 0) = false by rw [beq_eq_false_iff_ne]; omega, cond_false]
   simp only [S53_j5, F68, F69]
   exact blk_prs _ 0 0 (BT l leaf) sep [] _ _ _ _ _ _ _ _ H H (Int.le_refl _) (Int.le_refl _) (lss _)
theorem Blocks_eq (l : LCH) (t : TR) (sep : Int) : F28_L l t sep = F29_L l t sep := by
 unfold F28_L F29_L F49_L
 rw [Check_eq]
 have ew : F33 sep 1 16 = F43 sep 1 16 := rfl
 rw [ew]
 cases h0 : ((F15_L l (t.1, t.2) : Int) != 0) with
 | true => simp only [cond_true, h0]
 | false =>
   have hc := blks_eq sep (bne_eq_false_iff_eq.1 h0)
   cases h1 : F43 sep 1 16 with
   | true =>
     simp only [cond_false, Bool.not_true]
     rw [show ((0 : Int) != 0) = false from rfl, cond_false]
     exact congrArg (fun q : List BLK => (q, (0 : Int))) hc
   | false => rfl


theorem rck_dims {l : LCH} {t : TR} (h : F15_L l t = 0) : t.1.length = l.length ∧ l.length ≤ 96 ∧ t.2.length ≤ 192 ∧ NODS t := by
 obtain ⟨hv, leaf, h1, _, rfl⟩ := rck_ok h
 have hb := BT_len l hv.1 h1
 exact ⟨hb.1, hv.1, hb.2, BT_nods l hv.1 h1⟩
theorem tck_dims {l : LCH} {t : TR} (h : F16_L l (t.1, t.2) = 0) : t.1.length = l.length ∧ l.length ≤ 96 ∧ t.2.length ≤ 192 ∧ NODS t := by
 rw [Check_eq] at h
 exact rck_dims h
theorem cov_sq {n : Nat} (h : n ≤ 96) : W ((n : Int) * (n : Int)) = (n : Int) * (n : Int) ∧ 0 ≤ (n : Int) * (n : Int) ∧ (n : Int) * (n : Int) ≤ 9216 ∧ ((n * n : Nat) : Int) = (n : Int) * (n : Int) := by
 have h1 : (n : Int) * (n : Int) ≤ 96 * 96 := Int.mul_le_mul (by omega) (by omega) (by omega) (by omega)
 have h2 : 0 ≤ (n : Int) * (n : Int) := Int.mul_nonneg (by omega) (by omega)
 exact ⟨W_eq (by omega) (by omega), h2, by omega, Int.natCast_mul n n⟩
theorem cov_ix {n : Nat} {i k : Int} (h : n ≤ 96) (h1 : 0 ≤ i ∧ i < n) (h2 : 0 ≤ k ∧ k < n) : W (i * (n : Int)) = i * n ∧ W (W (i * (n : Int)) + k) = i * n + k ∧ 0 ≤ i * (n : Int) + k ∧ i * (n : Int) + k < (n : Int) * (n : Int) := by
 have h3 := cov_sq h
 have h4 : 0 ≤ i * (n : Int) := Int.mul_nonneg (by omega) (by omega)
 have h5 : (i + 1) * (n : Int) ≤ (n : Int) * (n : Int) := Int.mul_le_mul_of_nonneg_right (by omega) (by omega)
 rw [Int.add_mul, Int.one_mul] at h5
 have h6 : W (i * (n : Int)) = i * n := W_eq (by omega) (by omega)
 exact ⟨h6, by rw [h6]; exact W_eq (by omega) (by omega), by omega, by omega⟩
theorem cov_nd {t : TR} (hk : NODS t) {x : Int} (h : (!(F33 x 0 (W ((t.2.length : Int) - 1)))) = false) : 0 ≤ x ∧ x < t.2.length ∧ 0 ≤ (t.2.getD (toNat x) default).1 ∧ (t.2.getD (toNat x) default).1 < (t.2.getD (toNat x) default).2.1 ∧ (t.2.getD (toNat x) default).2.1 ≤ t.1.length := by
 have h2 := hk.2.1
 rw [W_eq (n := (t.2.length : Int) - 1) (by omega) (by omega)] at h
 unfold F33 at h
 by_cases a : x ≥ 0
 · by_cases b : x ≤ (t.2.length : Int) - 1
   · exact ⟨a, by omega, hk.2.2 (toNat x) (by omega)⟩
   · rw [dqt a, dqf b] at h; cases h
 · rw [dqf a] at h; cases h

noncomputable def B66_L_0 : Code := (loopAtD [1, 0, 1] [] (bodyOf Try.f66) []).1
noncomputable def K66_L_0 : List K := (loopAtD [1, 0, 1] [] (bodyOf Try.f66) []).2

def st66_L_0 (a0 : List (Int)) (a1 : Int) (v1 : Int) : LS := ⟨slN 19 [(0, (.s 0 0 a0.length 1)), (1, (iv a1)), (7, (iv (a0.length : Int))), (8, (iv v1))], [(.live false true (flat c3 a0))]⟩

def S66_L_0 (a0 : List (Int)) (a1 : Int) : Int → (Int) ⊕ (Int)
 | v1 =>
  (bif (decide ((v1 : Int) < (a0.length : Int))) then
   (bif ((a1 : Int) == (a0.getD (toNat v1) default)) then
    (.inr v1)
   else
    (.inl (v1 + 1)))
  else
   (.inr (-1)))

theorem L66_L_0 (a0 : List (Int)) (a1 : Int) (l0 : a0.length ≤ 9223372036854775807) {cx : Cx} (hcx : cx.base = 1) : ∀ (n : Nat) (v1 : Int), 0 ≤ v1 → toNat ((a0.length : Int) - v1) < n → Aw.Good Try.prog none 9 (bodyPost Try.prog Try.f66 (RR cx (iv (loopF (S66_L_0 a0 a1) n v1)) [] [])) cx [] (.l B66_L_0 n :: K66_L_0) (st66_L_0 a0 a1 v1) := by
 intro n
 induction n with
 | zero => intro v1 hi hn; exact absurd hn (nlz _)
 | succ n ih =>
   intro v1 hi hn
   refine good_round ?_
   cases h0 : (decide ((v1 : Int) < (a0.length : Int))) with
   | true =>
    have q0 := odt h0
    let t1 : List (St Try.prog) := [.d h0, .i v1 (a0.length), .L c3_len a0 v1 0 1]
    cases h1 : ((a1 : Int) == (a0.getD (toNat v1) default)) with
    | true =>
     have q1 := eq_of_beq h1
     have e := Eq.refl (S66_L_0 a0 a1 v1); conv at e => rhs; simp only [S66_L_0, h0, h1, cdb]
     rw [loopF_s, e]
     exact rt (t1 ++ [.d h1]) [] [] hcx (by kernel_rfl)
    | false =>
     have q1 := ne_of_beq_false h1
     have e := Eq.refl (S66_L_0 a0 a1 v1); conv at e => rhs; simp only [S66_L_0, h0, h1, cdb]
     rw [loopF_inl e]
     refine ba (t1 ++ [.d h1]) [] [0, 1, 7, 8] [] hcx (m := n) B66_L_0 (K66_L_0) (st66_L_0 a0 a1 (W (v1 + 1))) (by kernel_rfl) ?_
     have z0 : (W (v1 + 1)) = (v1 + 1) := W_eq (by omega) (by omega)
     rw [z0]
     exact ih (v1 + 1) (by (try simp only [Ls]); omega) (by (try simp only [Ls]); omega)
   | false =>
    have q0 := odf h0
    have e := Eq.refl (S66_L_0 a0 a1 v1); conv at e => rhs; simp only [S66_L_0, h0, cdb]
    rw [loopF_s, e]
    exact rt [.d h0] [] [] hcx (by kernel_rfl)

def F66_L (a0 : List (Int)) (a1 : Int) : Int :=
 (loopF (S66_L_0 a0 a1) (toNat ((a0.length : Int) - 0) + 1) 0)

theorem C66_L (a0 : List (Int)) (a1 : Int) (l0 : a0.length ≤ 9223372036854775807) : Con Try.prog 66 [(.s 0 0 a0.length 1), (iv a1)] [(.live false true (flat c3 a0))] (iv (F66_L a0 a1)) [] := by
 refine con_s Try.func66 (by kernel_rfl) fun cx hcx => ?_
 have e := Eq.refl (F66_L a0 a1); conv at e => rhs; simp only [F66_L]
 rw [e]
 refine en [] [] [0, 1, 7, 8] [] hcx B66_L_0 (K66_L_0) (st66_L_0 a0 a1 0) (toNat ((a0.length : Int) - 0) + 1) (by kernel_rfl) ?_
 exact L66_L_0 a0 a1 l0 hcx (toNat ((a0.length : Int) - 0) + 1) 0 (by (try simp only [Ls]); omega) (by (try simp only [Ls]); omega)

def F48_L (a0 : List (Int)) (a1 : Int) : Bool :=
 (decide (((F66_L a0 a1) : Int) ≥ 0))

theorem C48_L (a0 : List (Int)) (a1 : Int) (l0 : a0.length ≤ 9223372036854775807) : Con Try.prog 48 [(.s 0 0 a0.length 1), (iv a1)] [(.live false true (flat c3 a0))] (.v (.bool (F48_L a0 a1))) [] := by
 refine con_s Try.func48 (by kernel_rfl) fun cx hcx => ?_
 have e := Eq.refl (F48_L a0 a1); conv at e => rhs; simp only [F48_L]
 rw [e]
 exact rt [.c [0] (C66_L a0 a1 (by omega))] [] [] hcx (by kernel_rfl)

noncomputable def B23_L_L_2 : Code := (loopAtD [1, 1, 1, 0, 1, 0, 1, 1, 0, 1, 1, 1, 1, 0, 1, 0, 1] [0, 0] (bodyOf Try.f23) []).1
noncomputable def K23_L_L_2 (m0 : Nat) (m1 : Nat) : List K := (loopAtD [1, 1, 1, 0, 1, 0, 1, 1, 0, 1, 1, 1, 1, 0, 1, 0, 1] [m0, m1] (bodyOf Try.f23) []).2

def st23_L_L_2 (a0 : TyL) (a1 : List (Int) × TyN) (a2 : List (Int × Int × Bool)) (v22c : List SV) (v22n : Nat) (v23 v24 v25 v26 v27 v28 v29 v30 v31 v32 v33 v34 v35 v36 v37 v38 v39 v40 v41 : Int) : LS := ⟨slN 105 [(0, (.s 0 0 a0.length 10)), (4, (.p 4 0)), (9, (.s 5 0 v22n 1)), (12, (.p 6 0)), (13, (.p 7 0)), (14, (iv v23)), (15, (iv v24)), (28, (.s 3 0 a2.length 3)), (29, (iv (a2.length : Int))), (30, (iv v25))], [(.live false true (flat c81 a0)), (.live false true (flat c3 a1.1)), (.live false true (flat c40 a1.2)), (.live false true (flat c71 a2)), (.live true false [(.s 1 0 a1.1.length 1), (.s 2 0 a1.2.length 8)]), (.live true true v22c), (.live true false [(iv v26), (iv v27), (iv v28), (iv v29), (iv v30), (iv v31), (iv v32), (iv v33)]), (.live true false [(iv v34), (iv v35), (iv v36), (iv v37), (iv v38), (iv v39), (iv v40), (iv v41)])]⟩

def S23_L_L_2 (a0 : TyL) (a1 : List (Int) × TyN) (a2 : List (Int × Int × Bool)) : List (Int) × Int × Int × Int × Int × Int × Int × Int × Int × Int × Int × Int × Int × Int × Int × Int × Int × Int × Int × Int → (List (Int) × Int × Int × Int × Int × Int × Int × Int × Int × Int × Int × Int × Int × Int × Int × Int × Int × Int × Int × Int) ⊕ ((List (Int) × Int × Int × Int × Int × Int × Int × Int × Int × Int × Int × Int × Int × Int × Int × Int × Int × Int × Int) ⊕ ((List (Int) × Int) ⊕ (Bool × Int)))
 | (v22, v23, v24, v25, v26, v27, v28, v29, v30, v31, v32, v33, v34, v35, v36, v37, v38, v39, v40, v41) =>
  (bif (decide ((v24 : Int) < v35)) then
   (bif (decide ((((v22.set (toNat (W ((W (v23 * (a0.length : Int))) + v24))) (W ((v22.getD (toNat (W ((W (v23 * (a0.length : Int))) + v24))) default) + 1))).getD (toNat (W ((W (v23 * (a0.length : Int))) + v24))) default) : Int) > 1)) then
    (.inr (.inr (.inr (false, 0))))
   else
    (.inl ((v22.set (toNat (W ((W (v23 * (a0.length : Int))) + v24))) (W ((v22.getD (toNat (W ((W (v23 * (a0.length : Int))) + v24))) default) + 1))), v23, (v24 + 1), v25, v26, v27, v28, v29, v30, v31, v32, v33, v34, v35, v36, v37, v38, v39, v40, v41)))
  else
   (.inr (.inl (v22, (v23 + 1), v25, v26, v27, v28, v29, v30, v31, v32, v33, v34, v35, v36, v37, v38, v39, v40, v41))))

noncomputable def B23_L_L_1 : Code := (loopAtD [1, 1, 1, 0, 1, 0, 1, 1, 0, 1, 1, 1, 1] [0] (bodyOf Try.f23) []).1
noncomputable def K23_L_L_1 (m0 : Nat) : List K := (loopAtD [1, 1, 1, 0, 1, 0, 1, 1, 0, 1, 1, 1, 1] [m0] (bodyOf Try.f23) []).2

def st23_L_L_1 (a0 : TyL) (a1 : List (Int) × TyN) (a2 : List (Int × Int × Bool)) (v3c : List SV) (v3n : Nat) (v4 v5 v6 v7 v8 v9 v10 v11 v12 v13 v14 v15 v16 v17 v18 v19 v20 v21 : Int) : LS := ⟨slN 105 [(0, (.s 0 0 a0.length 10)), (4, (.p 4 0)), (9, (.s 5 0 v3n 1)), (12, (.p 6 0)), (13, (.p 7 0)), (14, (iv v4)), (28, (.s 3 0 a2.length 3)), (29, (iv (a2.length : Int))), (30, (iv v5))], [(.live false true (flat c81 a0)), (.live false true (flat c3 a1.1)), (.live false true (flat c40 a1.2)), (.live false true (flat c71 a2)), (.live true false [(.s 1 0 a1.1.length 1), (.s 2 0 a1.2.length 8)]), (.live true true v3c), (.live true false [(iv v6), (iv v7), (iv v8), (iv v9), (iv v10), (iv v11), (iv v12), (iv v13)]), (.live true false [(iv v14), (iv v15), (iv v16), (iv v17), (iv v18), (iv v19), (iv v20), (iv v21)])]⟩

def S23_L_L_1 (a0 : TyL) (a1 : List (Int) × TyN) (a2 : List (Int × Int × Bool)) : List (Int) × Int × Int × Int × Int × Int × Int × Int × Int × Int × Int × Int × Int × Int × Int × Int × Int × Int × Int → (List (Int) × Int × Int × Int × Int × Int × Int × Int × Int × Int × Int × Int × Int × Int × Int × Int × Int × Int × Int) ⊕ ((List (Int) × Int) ⊕ (Bool × Int))
 | (v3, v4, v5, v6, v7, v8, v9, v10, v11, v12, v13, v14, v15, v16, v17, v18, v19, v20, v21) =>
  (bif (decide ((v4 : Int) < v7)) then
   (loopF (S23_L_L_2 a0 a1 a2) (toNat (v15 - v14) + 1) (v3, v4, v14, v5, v6, v7, v8, v9, v10, v11, v12, v13, v14, v15, v16, v17, v18, v19, v20, v21))
  else
   (.inr (.inl (v3, (v5 + 1)))))

noncomputable def B23_L_L_0 : Code := (loopAtD [1, 1, 1, 0, 1] [] (bodyOf Try.f23) []).1
noncomputable def K23_L_L_0 : List K := (loopAtD [1, 1, 1, 0, 1] [] (bodyOf Try.f23) []).2

def st23_L_L_0 (a0 : TyL) (a1 : List (Int) × TyN) (a2 : List (Int × Int × Bool)) (v1c : List SV) (v1n : Nat) (v2 : Int) : LS := ⟨slN 105 [(0, (.s 0 0 a0.length 10)), (4, (.p 4 0)), (9, (.s 5 0 v1n 1)), (28, (.s 3 0 a2.length 3)), (29, (iv (a2.length : Int))), (30, (iv v2))], [(.live false true (flat c81 a0)), (.live false true (flat c3 a1.1)), (.live false true (flat c40 a1.2)), (.live false true (flat c71 a2)), (.live true false [(.s 1 0 a1.1.length 1), (.s 2 0 a1.2.length 8)]), (.live true true v1c)]⟩

def S23_L_L_0 (a0 : TyL) (a1 : List (Int) × TyN) (a2 : List (Int × Int × Bool)) : List (Int) × Int → (List (Int) × Int) ⊕ (Bool × Int)
 | (v1, v2) =>
  (bif (decide ((v2 : Int) < (a2.length : Int))) then
   (bif (!(F33 (a2.getD (toNat v2) default).1 0 (W ((a1.2.length : Int) - 1)))) then
    (.inr (false, 0))
   else
    (bif (!(F33 (a2.getD (toNat v2) default).2.1 0 (W ((a1.2.length : Int) - 1)))) then
     (.inr (false, 0))
    else
     (loopF (S23_L_L_1 a0 a1 a2) (toNat ((a1.2.getD (toNat (a2.getD (toNat v2) default).1) default).2.1 - (a1.2.getD (toNat (a2.getD (toNat v2) default).1) default).1) + 1) (v1, (a1.2.getD (toNat (a2.getD (toNat v2) default).1) default).1, v2, (a1.2.getD (toNat (a2.getD (toNat v2) default).1) default).1, (a1.2.getD (toNat (a2.getD (toNat v2) default).1) default).2.1, (a1.2.getD (toNat (a2.getD (toNat v2) default).1) default).2.2.1, (a1.2.getD (toNat (a2.getD (toNat v2) default).1) default).2.2.2.1, (a1.2.getD (toNat (a2.getD (toNat v2) default).1) default).2.2.2.2.1.1, (a1.2.getD (toNat (a2.getD (toNat v2) default).1) default).2.2.2.2.1.2.1, (a1.2.getD (toNat (a2.getD (toNat v2) default).1) default).2.2.2.2.1.2.2, (a1.2.getD (toNat (a2.getD (toNat v2) default).1) default).2.2.2.2.2, (a1.2.getD (toNat (a2.getD (toNat v2) default).2.1) default).1, (a1.2.getD (toNat (a2.getD (toNat v2) default).2.1) default).2.1, (a1.2.getD (toNat (a2.getD (toNat v2) default).2.1) default).2.2.1, (a1.2.getD (toNat (a2.getD (toNat v2) default).2.1) default).2.2.2.1, (a1.2.getD (toNat (a2.getD (toNat v2) default).2.1) default).2.2.2.2.1.1, (a1.2.getD (toNat (a2.getD (toNat v2) default).2.1) default).2.2.2.2.1.2.1, (a1.2.getD (toNat (a2.getD (toNat v2) default).2.1) default).2.2.2.2.1.2.2, (a1.2.getD (toNat (a2.getD (toNat v2) default).2.1) default).2.2.2.2.2))))
  else
   (.inr ((!(F48_L v1 0)), 0)))

theorem L23_L_L_2 (a0 : TyL) (a1 : List (Int) × TyN) (a2 : List (Int × Int × Bool)) (l0 : a0.length ≤ 9223372036854775807) (l1_1 : a1.1.length ≤ 9223372036854775807) (l1_2 : a1.2.length ≤ 9223372036854775807) (l2 : a2.length ≤ 9223372036854775807) {cx : Cx} (hcx : cx.base = 4)
   (n0 : Nat) (g0 : ∀ (v1 : List (Int)) (v2 : Int), (0 ≤ v2) ∧ (v1.length = a0.length * a0.length) ∧ (F16_L a0 (a1.1, a1.2) = 0) → toNat ((a2.length : Int) - v2) < n0 → Aw.Good Try.prog none 9 (bodyPost Try.prog Try.f23 (RR cx (.t [(.v (.bool (loopF (S23_L_L_0 a0 a1 a2) n0 (v1, v2)).1)), (iv (loopF (S23_L_L_0 a0 a1 a2) n0 (v1, v2)).2)]) [] [])) cx [] (.l B23_L_L_0 n0 :: K23_L_L_0) (st23_L_L_0 a0 a1 a2 (flat c3 v1) v1.length v2))
   (n1 : Nat) (g1 : ∀ (v3 : List (Int)) (v4 v5 v6 v7 v8 v9 v10 v11 v12 v13 v14 v15 v16 v17 v18 v19 v20 v21 : Int), (0 ≤ v4) ∧ (v3.length = a0.length * a0.length) ∧ (F16_L a0 (a1.1, a1.2) = 0) ∧ (0 ≤ v5) ∧ (0 ≤ v4) ∧ (v7 ≤ a0.length) ∧ (0 ≤ v14) ∧ (v15 ≤ a0.length) ∧ ((0 ≤ v5)) ∧ ((v3.length = a0.length * a0.length)) ∧ ((F16_L a0 (a1.1, a1.2) = 0)) ∧ (v5 < (a2.length : Int)) ∧ (toNat ((a2.length : Int) - v5) < n0 + 1) → toNat (v7 - v4) < n1 → Aw.Good Try.prog none 9 (bodyPost Try.prog Try.f23 (RR cx (.t [(.v (.bool (thenF (S23_L_L_0 a0 a1 a2) n0 (loopF (S23_L_L_1 a0 a1 a2) n1 (v3, v4, v5, v6, v7, v8, v9, v10, v11, v12, v13, v14, v15, v16, v17, v18, v19, v20, v21))).1)), (iv (thenF (S23_L_L_0 a0 a1 a2) n0 (loopF (S23_L_L_1 a0 a1 a2) n1 (v3, v4, v5, v6, v7, v8, v9, v10, v11, v12, v13, v14, v15, v16, v17, v18, v19, v20, v21))).2)]) [] [])) cx [] (.l B23_L_L_1 n1 :: K23_L_L_1 n0) (st23_L_L_1 a0 a1 a2 (flat c3 v3) v3.length v4 v5 v6 v7 v8 v9 v10 v11 v12 v13 v14 v15 v16 v17 v18 v19 v20 v21)) : ∀ (n : Nat) (v22 : List (Int)) (v23 v24 v25 v26 v27 v28 v29 v30 v31 v32 v33 v34 v35 v36 v37 v38 v39 v40 v41 : Int), (0 ≤ v24) ∧ (v22.length = a0.length * a0.length) ∧ (F16_L a0 (a1.1, a1.2) = 0) ∧ (0 ≤ v25) ∧ (0 ≤ v23) ∧ (v23 < v27) ∧ (v27 ≤ a0.length) ∧ (0 ≤ v34) ∧ (v35 ≤ a0.length) ∧ (0 ≤ v24) ∧ ((0 ≤ v25)) ∧ ((v22.length = a0.length * a0.length)) ∧ ((F16_L a0 (a1.1, a1.2) = 0)) ∧ (v25 < (a2.length : Int)) ∧ (toNat ((a2.length : Int) - v25) < n0 + 1) ∧ ((0 ≤ v23)) ∧ ((v22.length = a0.length * a0.length)) ∧ ((F16_L a0 (a1.1, a1.2) = 0)) ∧ ((0 ≤ v25)) ∧ ((0 ≤ v23)) ∧ ((v27 ≤ a0.length)) ∧ ((0 ≤ v34)) ∧ ((v35 ≤ a0.length)) ∧ (v23 < v27) ∧ (toNat (v27 - v23) < n1 + 1) → toNat (v35 - v24) < n → Aw.Good Try.prog none 9 (bodyPost Try.prog Try.f23 (RR cx (.t [(.v (.bool (thenF (S23_L_L_0 a0 a1 a2) n0 (thenF (S23_L_L_1 a0 a1 a2) n1 (loopF (S23_L_L_2 a0 a1 a2) n (v22, v23, v24, v25, v26, v27, v28, v29, v30, v31, v32, v33, v34, v35, v36, v37, v38, v39, v40, v41)))).1)), (iv (thenF (S23_L_L_0 a0 a1 a2) n0 (thenF (S23_L_L_1 a0 a1 a2) n1 (loopF (S23_L_L_2 a0 a1 a2) n (v22, v23, v24, v25, v26, v27, v28, v29, v30, v31, v32, v33, v34, v35, v36, v37, v38, v39, v40, v41)))).2)]) [] [])) cx [] (.l B23_L_L_2 n :: K23_L_L_2 n0 n1) (st23_L_L_2 a0 a1 a2 (flat c3 v22) v22.length v23 v24 v25 v26 v27 v28 v29 v30 v31 v32 v33 v34 v35 v36 v37 v38 v39 v40 v41) := by
 intro n
 induction n with
 | zero => intro v22 v23 v24 v25 v26 v27 v28 v29 v30 v31 v32 v33 v34 v35 v36 v37 v38 v39 v40 v41 hi hn; exact absurd hn (nlz _)
 | succ n ih =>
   intro v22 v23 v24 v25 v26 v27 v28 v29 v30 v31 v32 v33 v34 v35 v36 v37 v38 v39 v40 v41 hi hn
   refine good_round ?_
   have hok := tck_dims (l := a0) (t := a1) (by omega)
   obtain ⟨hk1, hk2, hk3, hk4⟩ := hok
   obtain ⟨hq1, hq2, hq3, hq4⟩ := cov_sq hk2
   try have hix := cov_ix (n := a0.length) (i := v23) (k := v24) hk2 (by omega) (by have _ := h0; omega)
   try (have _ := h0; obtain ⟨hi1, hi2, hi3, hi4⟩ := hix)
   cases h0 : (decide ((v24 : Int) < v35)) with
   | true =>
    have q0 := odt h0
    try have hix := cov_ix (n := a0.length) (i := v23) (k := v24) hk2 (by omega) (by have _ := h0; omega)
    try (have _ := h0; obtain ⟨hi1, hi2, hi3, hi4⟩ := hix)
    let t1 : List (St Try.prog) := [.d h0, .i (W ((W (v23 * (a0.length : Int))) + v24)) (v22.length), .L c3_len v22 (W ((W (v23 * (a0.length : Int))) + v24)) 0 1, .i (W ((W (v23 * (a0.length : Int))) + v24)) (v22.length), .p (show ((0 + toNat (W ((W (v23 * (a0.length : Int))) + v24)) * 1) + 1 ≤ (flat c3 v22).length) from (flat_setl c3_len (by first | omega | (simp only [Lt]; omega)) (o := 0) (Nb rfl))), .i (W ((W (v23 * (a0.length : Int))) + v24)) (v22.length), .R c3_len (v22.set (toNat (W ((W (v23 * (a0.length : Int))) + v24))) (W ((v22.getD (toNat (W ((W (v23 * (a0.length : Int))) + v24))) default) + 1))) (W ((W (v23 * (a0.length : Int))) + v24)) 0 1 (show (splice (flat c3 v22) (0 + toNat (W ((W (v23 * (a0.length : Int))) + v24)) * 1) [(iv (W ((v22.getD (toNat (W ((W (v23 * (a0.length : Int))) + v24))) default) + 1)))]) = flat c3 (v22.set (toNat (W ((W (v23 * (a0.length : Int))) + v24))) (W ((v22.getD (toNat (W ((W (v23 * (a0.length : Int))) + v24))) default) + 1))) from (flat_set c3_len (by first | omega | (simp only [Lt]; omega)) (o := 0) (d := default) (Nb rfl) rfl))]
    cases h1 : (decide ((((v22.set (toNat (W ((W (v23 * (a0.length : Int))) + v24))) (W ((v22.getD (toNat (W ((W (v23 * (a0.length : Int))) + v24))) default) + 1))).getD (toNat (W ((W (v23 * (a0.length : Int))) + v24))) default) : Int) > 1)) with
    | true =>
     have q1 := odt h1
     try have hix := cov_ix (n := a0.length) (i := v23) (k := v24) hk2 (by omega) (by have _ := h0; omega)
     try (have _ := h0; obtain ⟨hi1, hi2, hi3, hi4⟩ := hix)
     have e := Eq.refl (S23_L_L_2 a0 a1 a2 (v22, v23, v24, v25, v26, v27, v28, v29, v30, v31, v32, v33, v34, v35, v36, v37, v38, v39, v40, v41)); conv at e => rhs; simp only [S23_L_L_2, h0, h1, cdb]
     rw [loopF_s, e]
     exact rt (t1 ++ [.d h1]) [] [] hcx (by kernel_rfl)
    | false =>
     have q1 := odf h1
     try have hix := cov_ix (n := a0.length) (i := v23) (k := v24) hk2 (by omega) (by have _ := h0; omega)
     try (have _ := h0; obtain ⟨hi1, hi2, hi3, hi4⟩ := hix)
     have e := Eq.refl (S23_L_L_2 a0 a1 a2 (v22, v23, v24, v25, v26, v27, v28, v29, v30, v31, v32, v33, v34, v35, v36, v37, v38, v39, v40, v41)); conv at e => rhs; simp only [S23_L_L_2, h0, h1, cdb]
     rw [loopF_inl e]
     refine ba (t1 ++ [.d h1]) [] [0, 4, 9, 12, 13, 14, 15, 28, 29, 30] [4, 5, 6, 7] hcx (m := n) B23_L_L_2 (K23_L_L_2 n0 n1) (st23_L_L_2 a0 a1 a2 (splice (flat c3 v22) (0 + toNat (W ((W (v23 * (a0.length : Int))) + v24)) * 1) [(iv (W ((v22.getD (toNat (W ((W (v23 * (a0.length : Int))) + v24))) default) + 1)))]) (v22.length) v23 (W (v24 + 1)) v25 v26 v27 v28 v29 v30 v31 v32 v33 v34 v35 v36 v37 v38 v39 v40 v41) (by kernel_rfl) ?_
     have z0 : (W (v24 + 1)) = (v24 + 1) := W_eq (by omega) (by omega)
     have z1 : (splice (flat c3 v22) (0 + toNat (W ((W (v23 * (a0.length : Int))) + v24)) * 1) [(iv (W ((v22.getD (toNat (W ((W (v23 * (a0.length : Int))) + v24))) default) + 1)))]) = flat c3 (v22.set (toNat (W ((W (v23 * (a0.length : Int))) + v24))) (W ((v22.getD (toNat (W ((W (v23 * (a0.length : Int))) + v24))) default) + 1))) := (flat_set c3_len (by first | omega | (simp only [Lt]; omega)) (o := 0) (d := default) (Nb rfl) rfl)
     have z2 : v22.length = (v22.set (toNat (W ((W (v23 * (a0.length : Int))) + v24))) (W ((v22.getD (toNat (W ((W (v23 * (a0.length : Int))) + v24))) default) + 1))).length := by simp
     rw [z0, z1, z2]
     exact ih (v22.set (toNat (W ((W (v23 * (a0.length : Int))) + v24))) (W ((v22.getD (toNat (W ((W (v23 * (a0.length : Int))) + v24))) default) + 1))) v23 (v24 + 1) v25 v26 v27 v28 v29 v30 v31 v32 v33 v34 v35 v36 v37 v38 v39 v40 v41 (by refine ⟨?_, ?_, ?_, ?_, ?_, ?_, ?_, ?_, ?_, ?_, ?_, ?_, ?_, ?_, ?_, ?_, ?_, ?_, ?_, ?_, ?_, ?_, ?_, ?_, ?_⟩ <;> (try simp only [Ls]) <;> first | omega | assumption | exact hi.2.1 | exact hi.2.2.1 | exact hi.2.2.2.1 | exact hi.2.2.2.2.1 | exact hi.2.2.2.2.2.1 | exact hi.2.2.2.2.2.2.1 | exact hi.2.2.2.2.2.2.2.1 | exact hi.2.2.2.2.2.2.2.2.1 | exact hi.2.2.2.2.2.2.2.2.2.1 | exact hi.2.2.2.2.2.2.2.2.2.2.1 | exact hi.2.2.2.2.2.2.2.2.2.2.2.1 | exact hi.2.2.2.2.2.2.2.2.2.2.2.2.1 | exact hi.2.2.2.2.2.2.2.2.2.2.2.2.2.1 | exact hi.2.2.2.2.2.2.2.2.2.2.2.2.2.2.1 | exact hi.2.2.2.2.2.2.2.2.2.2.2.2.2.2.2.1 | exact hi.2.2.2.2.2.2.2.2.2.2.2.2.2.2.2.2.1 | exact hi.2.2.2.2.2.2.2.2.2.2.2.2.2.2.2.2.2.1 | exact hi.2.2.2.2.2.2.2.2.2.2.2.2.2.2.2.2.2.2.1 | exact hi.2.2.2.2.2.2.2.2.2.2.2.2.2.2.2.2.2.2.2.1 | exact hi.2.2.2.2.2.2.2.2.2.2.2.2.2.2.2.2.2.2.2.2.1 | exact hi.2.2.2.2.2.2.2.2.2.2.2.2.2.2.2.2.2.2.2.2.2.1 | exact hi.2.2.2.2.2.2.2.2.2.2.2.2.2.2.2.2.2.2.2.2.2.2.1 | exact hi.2.2.2.2.2.2.2.2.2.2.2.2.2.2.2.2.2.2.2.2.2.2.2.1 | exact hi.2.2.2.2.2.2.2.2.2.2.2.2.2.2.2.2.2.2.2.2.2.2.2.2.1 | simp) (by (try simp only [Ls]); omega)
   | false =>
    have q0 := odf h0
    try have hix := cov_ix (n := a0.length) (i := v23) (k := v24) hk2 (by omega) (by have _ := h0; omega)
    try (have _ := h0; obtain ⟨hi1, hi2, hi3, hi4⟩ := hix)
    have e := Eq.refl (S23_L_L_2 a0 a1 a2 (v22, v23, v24, v25, v26, v27, v28, v29, v30, v31, v32, v33, v34, v35, v36, v37, v38, v39, v40, v41)); conv at e => rhs; simp only [S23_L_L_2, h0, cdb]
    rw [loopF_s, e]
    refine ba [.d h0] [] [0, 4, 9, 12, 13, 14, 28, 29, 30] [4, 5, 6, 7] hcx (m := n1) B23_L_L_1 (K23_L_L_1 n0) (st23_L_L_1 a0 a1 a2 (flat c3 v22) (v22.length) (W (v23 + 1)) v25 v26 v27 v28 v29 v30 v31 v32 v33 v34 v35 v36 v37 v38 v39 v40 v41) (by kernel_rfl) ?_
    have z0 : (W (v23 + 1)) = (v23 + 1) := W_eq (by omega) (by omega)
    rw [z0]
    exact g1 v22 (v23 + 1) v25 v26 v27 v28 v29 v30 v31 v32 v33 v34 v35 v36 v37 v38 v39 v40 v41 (by refine ⟨?_, ?_, ?_, ?_, ?_, ?_, ?_, ?_, ?_, ?_, ?_, ?_, ?_⟩ <;> (try simp only [Ls]) <;> first | omega | assumption | exact hi.2.1 | exact hi.2.2.1 | exact hi.2.2.2.1 | exact hi.2.2.2.2.1 | exact hi.2.2.2.2.2.1 | exact hi.2.2.2.2.2.2.1 | exact hi.2.2.2.2.2.2.2.1 | exact hi.2.2.2.2.2.2.2.2.1 | exact hi.2.2.2.2.2.2.2.2.2.1 | exact hi.2.2.2.2.2.2.2.2.2.2.1 | exact hi.2.2.2.2.2.2.2.2.2.2.2.1 | exact hi.2.2.2.2.2.2.2.2.2.2.2.2.1 | simp) (by (try simp only [Ls]); omega)

theorem L23_L_L_1 (a0 : TyL) (a1 : List (Int) × TyN) (a2 : List (Int × Int × Bool)) (l0 : a0.length ≤ 9223372036854775807) (l1_1 : a1.1.length ≤ 9223372036854775807) (l1_2 : a1.2.length ≤ 9223372036854775807) (l2 : a2.length ≤ 9223372036854775807) {cx : Cx} (hcx : cx.base = 4)
   (n0 : Nat) (g0 : ∀ (v1 : List (Int)) (v2 : Int), (0 ≤ v2) ∧ (v1.length = a0.length * a0.length) ∧ (F16_L a0 (a1.1, a1.2) = 0) → toNat ((a2.length : Int) - v2) < n0 → Aw.Good Try.prog none 9 (bodyPost Try.prog Try.f23 (RR cx (.t [(.v (.bool (loopF (S23_L_L_0 a0 a1 a2) n0 (v1, v2)).1)), (iv (loopF (S23_L_L_0 a0 a1 a2) n0 (v1, v2)).2)]) [] [])) cx [] (.l B23_L_L_0 n0 :: K23_L_L_0) (st23_L_L_0 a0 a1 a2 (flat c3 v1) v1.length v2)) : ∀ (n : Nat) (v3 : List (Int)) (v4 v5 v6 v7 v8 v9 v10 v11 v12 v13 v14 v15 v16 v17 v18 v19 v20 v21 : Int), (0 ≤ v4) ∧ (v3.length = a0.length * a0.length) ∧ (F16_L a0 (a1.1, a1.2) = 0) ∧ (0 ≤ v5) ∧ (0 ≤ v4) ∧ (v7 ≤ a0.length) ∧ (0 ≤ v14) ∧ (v15 ≤ a0.length) ∧ ((0 ≤ v5)) ∧ ((v3.length = a0.length * a0.length)) ∧ ((F16_L a0 (a1.1, a1.2) = 0)) ∧ (v5 < (a2.length : Int)) ∧ (toNat ((a2.length : Int) - v5) < n0 + 1) → toNat (v7 - v4) < n → Aw.Good Try.prog none 9 (bodyPost Try.prog Try.f23 (RR cx (.t [(.v (.bool (thenF (S23_L_L_0 a0 a1 a2) n0 (loopF (S23_L_L_1 a0 a1 a2) n (v3, v4, v5, v6, v7, v8, v9, v10, v11, v12, v13, v14, v15, v16, v17, v18, v19, v20, v21))).1)), (iv (thenF (S23_L_L_0 a0 a1 a2) n0 (loopF (S23_L_L_1 a0 a1 a2) n (v3, v4, v5, v6, v7, v8, v9, v10, v11, v12, v13, v14, v15, v16, v17, v18, v19, v20, v21))).2)]) [] [])) cx [] (.l B23_L_L_1 n :: K23_L_L_1 n0) (st23_L_L_1 a0 a1 a2 (flat c3 v3) v3.length v4 v5 v6 v7 v8 v9 v10 v11 v12 v13 v14 v15 v16 v17 v18 v19 v20 v21) := by
 intro n
 induction n with
 | zero => intro v3 v4 v5 v6 v7 v8 v9 v10 v11 v12 v13 v14 v15 v16 v17 v18 v19 v20 v21 hi hn; exact absurd hn (nlz _)
 | succ n ih =>
   intro v3 v4 v5 v6 v7 v8 v9 v10 v11 v12 v13 v14 v15 v16 v17 v18 v19 v20 v21 hi hn
   refine good_round ?_
   have hok := tck_dims (l := a0) (t := a1) (by omega)
   obtain ⟨hk1, hk2, hk3, hk4⟩ := hok
   obtain ⟨hq1, hq2, hq3, hq4⟩ := cov_sq hk2
   cases h0 : (decide ((v4 : Int) < v7)) with
   | true =>
    have q0 := odt h0
    have e := Eq.refl (S23_L_L_1 a0 a1 a2 (v3, v4, v5, v6, v7, v8, v9, v10, v11, v12, v13, v14, v15, v16, v17, v18, v19, v20, v21)); conv at e => rhs; simp only [S23_L_L_1, h0, cdb]
    rw [loopF_s, e]
    refine en [.d h0] [] [0, 4, 9, 12, 13, 14, 15, 28, 29, 30] [4, 5, 6, 7] hcx B23_L_L_2 (K23_L_L_2 n0 n) (st23_L_L_2 a0 a1 a2 (flat c3 v3) (v3.length) v4 v14 v5 v6 v7 v8 v9 v10 v11 v12 v13 v14 v15 v16 v17 v18 v19 v20 v21) (toNat (v15 - v14) + 1) (by kernel_rfl) ?_
    exact L23_L_L_2 a0 a1 a2 l0 l1_1 l1_2 l2 hcx n0 g0 n ih (toNat (v15 - v14) + 1) v3 v4 v14 v5 v6 v7 v8 v9 v10 v11 v12 v13 v14 v15 v16 v17 v18 v19 v20 v21 (by refine ⟨?_, ?_, ?_, ?_, ?_, ?_, ?_, ?_, ?_, ?_, ?_, ?_, ?_, ?_, ?_, ?_, ?_, ?_, ?_, ?_, ?_, ?_, ?_, ?_, ?_⟩ <;> (try simp only [Ls]) <;> first | omega | assumption | exact hi.2.1 | exact hi.2.2.1 | exact hi.2.2.2.1 | exact hi.2.2.2.2.1 | exact hi.2.2.2.2.2.1 | exact hi.2.2.2.2.2.2.1 | exact hi.2.2.2.2.2.2.2.1 | exact hi.2.2.2.2.2.2.2.2.1 | exact hi.2.2.2.2.2.2.2.2.2.1 | exact hi.2.2.2.2.2.2.2.2.2.2.1 | exact hi.2.2.2.2.2.2.2.2.2.2.2.1 | exact hi.2.2.2.2.2.2.2.2.2.2.2.2.1 | exact hi.2.2.2.2.2.2.2.2.2.2.2.2.2.1 | exact hi.2.2.2.2.2.2.2.2.2.2.2.2.2.2.1 | exact hi.2.2.2.2.2.2.2.2.2.2.2.2.2.2.2.1 | exact hi.2.2.2.2.2.2.2.2.2.2.2.2.2.2.2.2.1 | exact hi.2.2.2.2.2.2.2.2.2.2.2.2.2.2.2.2.2.1 | exact hi.2.2.2.2.2.2.2.2.2.2.2.2.2.2.2.2.2.2.1 | exact hi.2.2.2.2.2.2.2.2.2.2.2.2.2.2.2.2.2.2.2.1 | exact hi.2.2.2.2.2.2.2.2.2.2.2.2.2.2.2.2.2.2.2.2.1 | exact hi.2.2.2.2.2.2.2.2.2.2.2.2.2.2.2.2.2.2.2.2.2.1 | exact hi.2.2.2.2.2.2.2.2.2.2.2.2.2.2.2.2.2.2.2.2.2.2.1 | exact hi.2.2.2.2.2.2.2.2.2.2.2.2.2.2.2.2.2.2.2.2.2.2.2.1 | exact hi.2.2.2.2.2.2.2.2.2.2.2.2.2.2.2.2.2.2.2.2.2.2.2.2.1 | simp) (by (try simp only [Ls]); omega)
   | false =>
    have q0 := odf h0
    have e := Eq.refl (S23_L_L_1 a0 a1 a2 (v3, v4, v5, v6, v7, v8, v9, v10, v11, v12, v13, v14, v15, v16, v17, v18, v19, v20, v21)); conv at e => rhs; simp only [S23_L_L_1, h0, cdb]
    rw [loopF_s, e]
    refine ba [.d h0] [] [0, 4, 9, 28, 29, 30] [4, 5] hcx (m := n0) B23_L_L_0 (K23_L_L_0) (st23_L_L_0 a0 a1 a2 (flat c3 v3) (v3.length) (W (v5 + 1))) (by kernel_rfl) ?_
    have z0 : (W (v5 + 1)) = (v5 + 1) := W_eq (by omega) (by omega)
    rw [z0]
    exact g0 v3 (v5 + 1) (by and_intros <;> (try simp only [Lt]) <;> first | omega | assumption | exact hi.2.1 | exact hi.2.2.1 | exact InR.swap hi.2.1 (by omega) (by omega) | exact InR.swap hr (by omega) (by omega) | (simp only [List.length_replicate]; omega)) (by (try simp only [Ls]); omega)

theorem L23_L_L_0 (a0 : TyL) (a1 : List (Int) × TyN) (a2 : List (Int × Int × Bool)) (l0 : a0.length ≤ 9223372036854775807) (l1_1 : a1.1.length ≤ 9223372036854775807) (l1_2 : a1.2.length ≤ 9223372036854775807) (l2 : a2.length ≤ 9223372036854775807) {cx : Cx} (hcx : cx.base = 4) : ∀ (n : Nat) (v1 : List (Int)) (v2 : Int), (0 ≤ v2) ∧ (v1.length = a0.length * a0.length) ∧ (F16_L a0 (a1.1, a1.2) = 0) → toNat ((a2.length : Int) - v2) < n → Aw.Good Try.prog none 9 (bodyPost Try.prog Try.f23 (RR cx (.t [(.v (.bool (loopF (S23_L_L_0 a0 a1 a2) n (v1, v2)).1)), (iv (loopF (S23_L_L_0 a0 a1 a2) n (v1, v2)).2)]) [] [])) cx [] (.l B23_L_L_0 n :: K23_L_L_0) (st23_L_L_0 a0 a1 a2 (flat c3 v1) v1.length v2) := by
 intro n
 induction n with
 | zero => intro v1 v2 hi hn; exact absurd hn (nlz _)
 | succ n ih =>
   intro v1 v2 hi hn
   refine good_round ?_
   have hok := tck_dims (l := a0) (t := a1) (by omega)
   obtain ⟨hk1, hk2, hk3, hk4⟩ := hok
   obtain ⟨hq1, hq2, hq3, hq4⟩ := cov_sq hk2
   try have hs1 := cov_nd (t := a1) hk4 h1
   try have hs2 := cov_nd (t := a1) hk4 h2
   cases h0 : (decide ((v2 : Int) < (a2.length : Int))) with
   | true =>
    have q0 := odt h0
    try have hs1 := cov_nd (t := a1) hk4 h1
    try have hs2 := cov_nd (t := a1) hk4 h2
    let t1 : List (St Try.prog) := [.d h0, .i v2 (a2.length), .L c71_len a2 v2 0 3, .c [] (C33 (a2.getD (toNat v2) default).1 0 (W ((a1.2.length : Int) - 1)))]
    cases h1 : (!(F33 (a2.getD (toNat v2) default).1 0 (W ((a1.2.length : Int) - 1)))) with
    | true =>
     try have hs1 := cov_nd (t := a1) hk4 h1
     try have hs2 := cov_nd (t := a1) hk4 h2
     have e := Eq.refl (S23_L_L_0 a0 a1 a2 (v1, v2)); conv at e => rhs; simp only [S23_L_L_0, h0, h1, cdb]
     rw [loopF_s, e]
     exact rt (t1 ++ [.d h1]) [] [] hcx (by kernel_rfl)
    | false =>
     try have hs1 := cov_nd (t := a1) hk4 h1
     try have hs2 := cov_nd (t := a1) hk4 h2
     let t2 : List (St Try.prog) := (t1 ++ [.d h1, .c [] (C33 (a2.getD (toNat v2) default).2.1 0 (W ((a1.2.length : Int) - 1)))])
     cases h2 : (!(F33 (a2.getD (toNat v2) default).2.1 0 (W ((a1.2.length : Int) - 1)))) with
     | true =>
      try have hs1 := cov_nd (t := a1) hk4 h1
      try have hs2 := cov_nd (t := a1) hk4 h2
      have e := Eq.refl (S23_L_L_0 a0 a1 a2 (v1, v2)); conv at e => rhs; simp only [S23_L_L_0, h0, h1, h2, cdb]
      rw [loopF_s, e]
      exact rt (t2 ++ [.d h2]) [] [] hcx (by kernel_rfl)
     | false =>
      try have hs1 := cov_nd (t := a1) hk4 h1
      try have hs2 := cov_nd (t := a1) hk4 h2
      have e := Eq.refl (S23_L_L_0 a0 a1 a2 (v1, v2)); conv at e => rhs; simp only [S23_L_L_0, h0, h1, h2, cdb]
      rw [loopF_s, e]
      refine en (t2 ++ [.d h2, .i ((a2.getD (toNat v2) default).1) (a1.2.length), .L c40_len a1.2 (a2.getD (toNat v2) default).1 0 8, .i ((a2.getD (toNat v2) default).2.1) (a1.2.length), .L c40_len a1.2 (a2.getD (toNat v2) default).2.1 0 8]) [] [0, 4, 9, 12, 13, 14, 28, 29, 30] [4, 5, 7, 8] hcx B23_L_L_1 (K23_L_L_1 n) (st23_L_L_1 a0 a1 a2 (flat c3 v1) (v1.length) ((a1.2.getD (toNat (a2.getD (toNat v2) default).1) default).1) v2 ((a1.2.getD (toNat (a2.getD (toNat v2) default).1) default).1) ((a1.2.getD (toNat (a2.getD (toNat v2) default).1) default).2.1) ((a1.2.getD (toNat (a2.getD (toNat v2) default).1) default).2.2.1) ((a1.2.getD (toNat (a2.getD (toNat v2) default).1) default).2.2.2.1) ((a1.2.getD (toNat (a2.getD (toNat v2) default).1) default).2.2.2.2.1.1) ((a1.2.getD (toNat (a2.getD (toNat v2) default).1) default).2.2.2.2.1.2.1) ((a1.2.getD (toNat (a2.getD (toNat v2) default).1) default).2.2.2.2.1.2.2) ((a1.2.getD (toNat (a2.getD (toNat v2) default).1) default).2.2.2.2.2) ((a1.2.getD (toNat (a2.getD (toNat v2) default).2.1) default).1) ((a1.2.getD (toNat (a2.getD (toNat v2) default).2.1) default).2.1) ((a1.2.getD (toNat (a2.getD (toNat v2) default).2.1) default).2.2.1) ((a1.2.getD (toNat (a2.getD (toNat v2) default).2.1) default).2.2.2.1) ((a1.2.getD (toNat (a2.getD (toNat v2) default).2.1) default).2.2.2.2.1.1) ((a1.2.getD (toNat (a2.getD (toNat v2) default).2.1) default).2.2.2.2.1.2.1) ((a1.2.getD (toNat (a2.getD (toNat v2) default).2.1) default).2.2.2.2.1.2.2) ((a1.2.getD (toNat (a2.getD (toNat v2) default).2.1) default).2.2.2.2.2)) (toNat ((a1.2.getD (toNat (a2.getD (toNat v2) default).1) default).2.1 - (a1.2.getD (toNat (a2.getD (toNat v2) default).1) default).1) + 1) (by kernel_rfl) ?_
      exact L23_L_L_1 a0 a1 a2 l0 l1_1 l1_2 l2 hcx n ih (toNat ((a1.2.getD (toNat (a2.getD (toNat v2) default).1) default).2.1 - (a1.2.getD (toNat (a2.getD (toNat v2) default).1) default).1) + 1) v1 ((a1.2.getD (toNat (a2.getD (toNat v2) default).1) default).1) v2 ((a1.2.getD (toNat (a2.getD (toNat v2) default).1) default).1) ((a1.2.getD (toNat (a2.getD (toNat v2) default).1) default).2.1) ((a1.2.getD (toNat (a2.getD (toNat v2) default).1) default).2.2.1) ((a1.2.getD (toNat (a2.getD (toNat v2) default).1) default).2.2.2.1) ((a1.2.getD (toNat (a2.getD (toNat v2) default).1) default).2.2.2.2.1.1) ((a1.2.getD (toNat (a2.getD (toNat v2) default).1) default).2.2.2.2.1.2.1) ((a1.2.getD (toNat (a2.getD (toNat v2) default).1) default).2.2.2.2.1.2.2) ((a1.2.getD (toNat (a2.getD (toNat v2) default).1) default).2.2.2.2.2) ((a1.2.getD (toNat (a2.getD (toNat v2) default).2.1) default).1) ((a1.2.getD (toNat (a2.getD (toNat v2) default).2.1) default).2.1) ((a1.2.getD (toNat (a2.getD (toNat v2) default).2.1) default).2.2.1) ((a1.2.getD (toNat (a2.getD (toNat v2) default).2.1) default).2.2.2.1) ((a1.2.getD (toNat (a2.getD (toNat v2) default).2.1) default).2.2.2.2.1.1) ((a1.2.getD (toNat (a2.getD (toNat v2) default).2.1) default).2.2.2.2.1.2.1) ((a1.2.getD (toNat (a2.getD (toNat v2) default).2.1) default).2.2.2.2.1.2.2) ((a1.2.getD (toNat (a2.getD (toNat v2) default).2.1) default).2.2.2.2.2) (by refine ⟨?_, ?_, ?_, ?_, ?_, ?_, ?_, ?_, ?_, ?_, ?_, ?_, ?_⟩ <;> (try simp only [Ls]) <;> first | omega | assumption | exact hi.2.1 | exact hi.2.2.1 | exact hi.2.2.2.1 | exact hi.2.2.2.2.1 | exact hi.2.2.2.2.2.1 | exact hi.2.2.2.2.2.2.1 | exact hi.2.2.2.2.2.2.2.1 | exact hi.2.2.2.2.2.2.2.2.1 | exact hi.2.2.2.2.2.2.2.2.2.1 | exact hi.2.2.2.2.2.2.2.2.2.2.1 | exact hi.2.2.2.2.2.2.2.2.2.2.2.1 | exact hi.2.2.2.2.2.2.2.2.2.2.2.2.1 | simp) (by (try simp only [Ls]); omega)
   | false =>
    have q0 := odf h0
    try have hs1 := cov_nd (t := a1) hk4 h1
    try have hs2 := cov_nd (t := a1) hk4 h2
    have e := Eq.refl (S23_L_L_0 a0 a1 a2 (v1, v2)); conv at e => rhs; simp only [S23_L_L_0, h0, cdb]
    rw [loopF_s, e]
    exact rt [.d h0, .c [5] (C48_L v1 0 (by omega))] [] [] hcx (by kernel_rfl)

def F23_L_L (a0 : TyL) (a1 : List (Int) × TyN) (a2 : List (Int × Int × Bool)) : Bool × Int :=
 (bif (((F16_L a0 (a1.1, a1.2)) : Int) != 0) then
  (false, (F16_L a0 (a1.1, a1.2)))
 else
  (loopF (S23_L_L_0 a0 a1 a2) (toNat ((a2.length : Int) - 0) + 1) ((List.replicate (toNat (W ((a0.length : Int) * (a0.length : Int)))) 0), 0)))

theorem C23_L_L (a0 : TyL) (a1 : List (Int) × TyN) (a2 : List (Int × Int × Bool)) (l0 : a0.length ≤ 9223372036854775807) (l1_1 : a1.1.length ≤ 9223372036854775807) (l1_2 : a1.2.length ≤ 9223372036854775807) (l2 : a2.length ≤ 9223372036854775807) : Con Try.prog 23 [(.s 0 0 a0.length 10), (.a [(.s 1 0 a1.1.length 1), (.s 2 0 a1.2.length 8)]), (.s 3 0 a2.length 3)] [(.live false true (flat c81 a0)), (.live false true (flat c3 a1.1)), (.live false true (flat c40 a1.2)), (.live false true (flat c71 a2))] (.t [(.v (.bool (F23_L_L a0 a1 a2).1)), (iv (F23_L_L a0 a1 a2).2)]) [] := by
 refine con_s Try.func23 (by kernel_rfl) fun cx hcx => ?_
 try have hok := tck_dims (l := a0) (t := a1) (by have _ := h0; omega)
 try have hqq := cov_sq (n := a0.length) (tck_dims (l := a0) (t := a1) (by have _ := h0; omega)).2.1
 let t0 : List (St Try.prog) := [.c [0, 1, 2] (C16_L a0 (a1.1, a1.2) (by omega) (by (try simp only [Lt]); omega) (by (try simp only [Lt]); omega))]
 cases h0 : (((F16_L a0 (a1.1, a1.2)) : Int) != 0) with
 | true =>
  have q0 := bne_iff_ne.1 h0
  try have hok := tck_dims (l := a0) (t := a1) (by have _ := h0; omega)
  try have hqq := cov_sq (n := a0.length) (tck_dims (l := a0) (t := a1) (by have _ := h0; omega)).2.1
  have e := Eq.refl (F23_L_L a0 a1 a2); conv at e => rhs; simp only [F23_L_L, h0, cdb]
  rw [e]
  exact rt (t0 ++ [.d h0]) [] [] hcx (by kernel_rfl)
 | false =>
  have q0 := bne_eq_false_iff_eq.1 h0
  try have hok := tck_dims (l := a0) (t := a1) (by have _ := h0; omega)
  try have hqq := cov_sq (n := a0.length) (tck_dims (l := a0) (t := a1) (by have _ := h0; omega)).2.1
  have e := Eq.refl (F23_L_L a0 a1 a2); conv at e => rhs; simp only [F23_L_L, h0, cdb]
  rw [e]
  refine en (t0 ++ [.d h0, .Z c3 0 [(iv 0)] (W ((a0.length : Int) * (a0.length : Int))) 8]) [] [0, 4, 9, 28, 29, 30] [4, 5] hcx B23_L_L_0 (K23_L_L_0) (st23_L_L_0 a0 a1 a2 (flat c3 (List.replicate (toNat (W ((a0.length : Int) * (a0.length : Int)))) 0)) (toNat (W ((a0.length : Int) * (a0.length : Int)))) 0) (toNat ((a2.length : Int) - 0) + 1) (by kernel_rfl) ?_
  have q := L23_L_L_0 a0 a1 a2 l0 l1_1 l1_2 l2 hcx (toNat ((a2.length : Int) - 0) + 1) (List.replicate (toNat (W ((a0.length : Int) * (a0.length : Int)))) 0) 0 (by and_intros <;> (try simp only [Lt]) <;> first | omega | assumption | exact hi.2.1 | exact hi.2.2.1 | exact InR.swap hi.2.1 (by omega) (by omega) | exact InR.swap hr (by omega) (by omega) | (simp only [List.length_replicate]; omega)) (by (try simp only [Ls]); omega)
  simp only [List.length_replicate] at q
  exact q


end Go.Proofs.Ytnbpiejjeeomkaa
