/-
  A part of the proofs of the Field laws: what functions of the program compute, and that it is what the statements ask. No premise.
-/
import Derived.Test.YtopbnnmkdildgaaAwSb
import Derived.Test.YtopbnnmkdildgaaRows
import Derived.Shelf.Abstract
namespace Go.Proofs.Ytopbnnmkdildgaa
open Go.Proofs Go.Aw Go.RowKit
set_option maxRecDepth 100000
set_option linter.unusedVariables false
set_option linter.unusedSimpArgs false

noncomputable def T0 := conv Try.prog
theorem hT : TOk Try.prog T0 := fun _ _ h => h
theorem hm : Try.prog.follows .mixedOrders = true := by kernel_rfl
def W (n : Int) : Int := IntKind.wrap .i64 n
theorem W_def (n : Int) : W n = if n % 18446744073709551616 ≥ 9223372036854775808 then n % 18446744073709551616 - 18446744073709551616 else n % 18446744073709551616 := by
  unfold W IntKind.wrap
  simp [IntKind.bits, IntKind.signed]
theorem W_eq {n : Int} (h1 : -9223372036854775808 ≤ n) (h2 : n < 9223372036854775808) : W n = n := by
  rw [W_def]; split <;> omega
theorem shr_eq (x : Int) (k : Nat) {m : Nat} (hm : (2 : Int) ^ (min (Int.toNat k) 64) = m) : Int.fdiv x (2 ^ (min (Int.toNat k) 64)) = x / m := by
  rw [hm]; exact Int.fdiv_eq_ediv_of_nonneg _ (by omega)
theorem mid1_eq {a b : Int} (h : 0 ≤ a ∧ a ≤ b ∧ b ≤ 2147483648) : W (Int.tdiv (W ((W (a + b)) + 1)) 2) = (a + b + 1) / 2 := by
  rw [W_eq (n := a + b) (by omega) (by omega), W_eq (n := a + b + 1) (by omega) (by omega), Int.tdiv_eq_ediv_of_nonneg (by omega), W_eq (by omega) (by omega)]
theorem mid0_eq {a b : Int} (h : 0 ≤ a ∧ a ≤ b ∧ b ≤ 2147483648) : W (Int.tdiv (W (a + b)) 2) = (a + b) / 2 := by
  rw [W_eq (n := a + b) (by omega) (by omega), Int.tdiv_eq_ediv_of_nonneg (by omega), W_eq (by omega) (by omega)]
theorem mid2_eq {a b : Int} (h : 0 ≤ a ∧ a ≤ b ∧ b ≤ 2147483648) : W ((W (Int.tdiv (W ((W (a + b)) + 1)) 2)) - 1) = (a + b + 1) / 2 - 1 := by
  rw [mid1_eq h, W_eq (by omega) (by omega)]
theorem mid3_eq {a b : Int} (h : 0 ≤ a ∧ a ≤ b ∧ b ≤ 2147483648) : W ((W (Int.tdiv (W (a + b)) 2)) + 1) = (a + b) / 2 + 1 := by
  rw [mid0_eq h, W_eq (by omega) (by omega)]
theorem u64_nn (n : Int) : 0 ≤ IntKind.wrap .u64 n := by
  simp only [IntKind.wrap, IntKind.bits, IntKind.signed]
  simp
  omega
theorem bool_tf (b : Bool) : b = true ∨ b = false := by cases b <;> simp
/-- the cells of a panel, of a point, of a span -/
def k9 (x : (Int × Int × Int) × (Int × Int × Int) × Int × Int × Int) : List SV := [(iv x.1.1), (iv x.1.2.1), (iv x.1.2.2), (iv x.2.1.1), (iv x.2.1.2.1), (iv x.2.1.2.2), (iv x.2.2.1), (iv x.2.2.2.1), (iv x.2.2.2.2)]
def k3 (x : Int × Int × Int) : List SV := [(iv x.1), (iv x.2.1), (iv x.2.2)]
def k2 (x : Int × Int) : List SV := [(iv x.1), (iv x.2)]

/-- facet/field.times -/
def F103 (a0 : Int × Int × Int) (a1 : Int) : Int × Int × Int :=
  ((W (a1 * a0.1)), (W (a1 * a0.2.1)), (W (a1 * a0.2.2)))

theorem C103 (a0 : Int × Int × Int) (a1 : Int) : Con Try.prog 103 [(.a (k3 a0)), (iv a1)] [] (.a (k3 (F103 a0 a1))) [] := by
  have e : (F103 a0 a1) = ((W (a1 * a0.1)), (W (a1 * a0.2.1)), (W (a1 * a0.2.2))) := by simp only [F103]
  rw [e]
  refine con_of (n := 9) Try.func103 rfl (ent Try.func103 (by kernel_rfl) rfl) (by show 2 ≤ Try.f103.ntmps; decide) (by kernel_rfl) trivial (fun cx hcx => ?_)
  exact ret_of (T := T0) hT hm (f := 5000) (orc := []) [] [] [] hcx
    (obs := []) (by kernel_rfl) trivial

/-- facet/field.middle -/
def F143 (a0 : Int × Int × Int) (a1 : Int × Int × Int) : Int × Int × Int :=
  ((W (a0.1 + a1.1)), (W (a0.2.1 + a1.2.1)), (W (a0.2.2 + a1.2.2)))

theorem C143 (a0 : Int × Int × Int) (a1 : Int × Int × Int) : Con Try.prog 143 [(.a (k3 a0)), (.a (k3 a1))] [] (.a (k3 (F143 a0 a1))) [] := by
  have e : (F143 a0 a1) = ((W (a0.1 + a1.1)), (W (a0.2.1 + a1.2.1)), (W (a0.2.2 + a1.2.2))) := by simp only [F143]
  rw [e]
  refine con_of (n := 9) Try.func143 rfl (ent Try.func143 (by kernel_rfl) rfl) (by show 2 ≤ Try.f143.ntmps; decide) (by kernel_rfl) trivial (fun cx hcx => ?_)
  exact ret_of (T := T0) hT hm (f := 5000) (orc := []) [] [] [] hcx
    (obs := []) (by kernel_rfl) trivial

/-- a panel's cells -/
def cP (x : (Int × Int × Int) × (Int × Int × Int) × Int × Int × Int) : List SV := [iv x.1.1, iv x.1.2.1, iv x.1.2.2, iv x.2.1.1, iv x.2.1.2.1, iv x.2.1.2.2, iv x.2.2.1, iv x.2.2.2.1, iv x.2.2.2.2]
def encP (x : (Int × Int × Int) × (Int × Int × Int) × Int × Int × Int) : Value := .agg #[.int .i64 x.1.1, .int .i64 x.1.2.1, .int .i64 x.1.2.2, .int .i64 x.2.1.1, .int .i64 x.2.1.2.1, .int .i64 x.2.1.2.2, .int .i64 x.2.2.1, .int .i64 x.2.2.2.1, .int .i64 x.2.2.2.2]
theorem encP_rel (ρ : Env) (x : (Int × Int × Int) × (Int × Int × Int) × Int × Int × Int) : Rel ρ (.a (cP x)) (encP x) := by
  simp only [Rel]; exact ⟨_, rfl, by simp [cP, Rels, Rel, iv]⟩
theorem cP_has (x : (Int × Int × Int) × (Int × Int × Int) × Int × Int × Int) (k : Nat) : ¬ (SV.a (cP x)).has k := by
  simp [cP, SV.has, SV.hasl, iv]
def yv (l : Nat) : Value := .func (.yield l) #[] #[]
def q1 (p : (Int × Int × Int) × (Int × Int × Int) × Int × Int × Int) : (Int × Int × Int) × (Int × Int × Int) × Int × Int × Int := (F103 p.1 2, F143 p.1 p.2.1, F143 p.2.2 p.1)
def q2 (p : (Int × Int × Int) × (Int × Int × Int) × Int × Int × Int) : (Int × Int × Int) × (Int × Int × Int) × Int × Int × Int := (F143 p.1 p.2.1, F103 p.2.1 2, F143 p.2.1 p.2.2)
def q3 (p : (Int × Int × Int) × (Int × Int × Int) × Int × Int × Int) : (Int × Int × Int) × (Int × Int × Int) × Int × Int × Int := (F143 p.2.2 p.1, F143 p.2.1 p.2.2, F103 p.2.2 2)
def q4 (p : (Int × Int × Int) × (Int × Int × Int) × Int × Int × Int) : (Int × Int × Int) × (Int × Int × Int) × Int × Int × Int := (F143 p.1 p.2.1, F143 p.2.1 p.2.2, F143 p.2.2 p.1)
/-- the parts of a panel, in the order in which they come -/
def cutL : Nat → (Int × Int × Int) × (Int × Int × Int) × Int × Int × Int → List ((Int × Int × Int) × (Int × Int × Int) × Int × Int × Int)
  | 0, p => [p]
  | d + 1, p => cutL d (q1 p) ++ (cutL d (q2 p) ++ (cutL d (q3 p) ++ cutL d (q4 p)))
theorem cutL_length : ∀ (d : Nat) (p : (Int × Int × Int) × (Int × Int × Int) × Int × Int × Int), (cutL d p).length = 4 ^ d
  | 0, p => rfl
  | d + 1, p => by simp only [cutL, List.length_append, cutL_length d, Nat.pow_succ]; omega

/-- what the visiting function keeps to -/
def VisitAt (l : Nat) (J : Nat → (Nat → Prop) → World → Prop) (Jx : (Nat → Prop) → World → Prop) (xs : List ((Int × Int × Int) × (Int × Int × Int) × Int × Int × Int)) (d : Nat) : Prop :=
  ∀ (p : (Int × Int × Int) × (Int × Int × Int) × Int × Int × Int) (i : Nat) (S : Nat → Prop) (W : World) (ρ : Env) (vs : List Value), Rels ρ [.a (cP p), iv d, .p 0 0, .p 1 0] vs →
    BRep ρ (fun b => W.heap.size ≤ b) W 0 (.live false false [.v (yv l)]) → BRep ρ (fun b => W.heap.size ≤ b) W 1 (.live false false [.f 142 [.p 0 0, .p 1 0]]) →
    (∀ k, k < 2 → ∀ b o n, ρ k = some (b, o, n) → ¬ S b) → J i S W → (∀ j x, (cutL d p)[j]? = some x → xs[i + j]? = some x) →
    Calls Try.prog 142 vs.toArray W (VR J Jx (i + (cutL d p).length) S W)

noncomputable def OY : Array Oper := match (codeAtD [1, 0, 1, 0, 0] [] (Try.f142.body.getD .skip)).1 with
  | .region _ ops _ => ops
  | _ => #[]
noncomputable def KY : List K := (codeAtD [1, 0, 1, 0, 0] [] (Try.f142.body.getD .skip)).2
noncomputable def OV : Array Oper := match (codeAtD [1, 1, 1, 1, 0, 1, 0, 0, 1, 1, 0, 0, 1, 0] [0] (Try.f142.body.getD .skip)).1 with
  | .region _ ops _ => ops
  | _ => #[]
noncomputable def KV (m : Nat) : List K := (codeAtD [1, 1, 1, 1, 0, 1, 0, 0, 1, 1, 0, 0, 1, 0] [m] (Try.f142.body.getD .skip)).2
noncomputable def oY : Oper := OY.toList.getD 2 default
noncomputable def oV : Oper := OV.toList.getD 4 default
noncomputable def callTs (o : Oper) : Array TypeId := match o.op with
  | .call c => c.argTypes
  | _ => #[]
theorem oY_op : oY.op = .call { callee := .value (.tmp 17), args := #[.tmp 18], argTypes := callTs oY } := by kernel_rfl
theorem oV_op : oV.op = .call { callee := .value (.tmp 66), args := #[.tmp 67, .tmp 69], argTypes := callTs oV } := by kernel_rfl
theorem oY_split : OY.toList = OY.toList.take 2 ++ oY :: OY.toList.drop 3 := by kernel_rfl
theorem oV_split : OV.toList = OV.toList.take 4 ++ oV :: OV.toList.drop 5 := by kernel_rfl
theorem ent142 : Enters Try.prog 142 := ent Try.func142 (by kernel_rfl) rfl
theorem ent141 : Enters Try.prog 141 := ent Try.func141 (by kernel_rfl) rfl

def zY (l : Nat) (p : (Int × Int × Int) × (Int × Int × Int) × Int × Int × Int) : LS := ⟨[.u, .u, .p 0 0, .u, .p 2 0, .u, .u, .u, .u, .u, .u, .u, .u, .u, .u, .u, .u, .u, .u, .u, .u, .u, .u, .u, .u, .u, .u, .u, .u, .u, .u, .u, .u, .u, .u, .u, .u, .u, .u, .u, .u, .u, .u, .u, .u, .u, .u, .u, .u, .u, .u, .u, .u, .u, .u, .u, .u, .u, .u, .u, .u, .u, .u, .u, .u, .u, .u, .u, .u, .u, .u, .u, .u], [.live false false [.v (yv l)], .live false false [.f 142 [.p 0 0, .p 1 0]], .live true false (cP p)]⟩
def zY1 (l : Nat) (p : (Int × Int × Int) × (Int × Int × Int) × Int × Int × Int) : LS := ⟨[.u, .u, .p 0 0, .u, .p 2 0, .u, .u, .u, .u, .u, .u, .u, .u, .u, .u, .u, .u, .v (yv l), .a (cP p), .u, .u, .u, .u, .u, .u, .u, .u, .u, .u, .u, .u, .u, .u, .u, .u, .u, .u, .u, .u, .u, .u, .u, .u, .u, .u, .u, .u, .u, .u, .u, .u, .u, .u, .u, .u, .u, .u, .u, .u, .u, .u, .u, .u, .u, .u, .u, .u, .u, .u, .u, .u, .u, .u], [.live false false [.v (yv l)], .live false false [.f 142 [.p 0 0, .p 1 0]], .live true false (cP p)]⟩
def zY3 (l : Nat) (p : (Int × Int × Int) × (Int × Int × Int) × Int × Int × Int) (b : Bool) : LS := ⟨[.u, .u, .p 0 0, .u, .p 2 0, .u, .v (.bool b), .u, .u, .u, .u, .u, .u, .u, .u, .u, .u, .v (yv l), .a (cP p), .v (.bool b), .u, .u, .u, .u, .u, .u, .u, .u, .u, .u, .u, .u, .u, .u, .u, .u, .u, .u, .u, .u, .u, .u, .u, .u, .u, .u, .u, .u, .u, .u, .u, .u, .u, .u, .u, .u, .u, .u, .u, .u, .u, .u, .u, .u, .u, .u, .u, .u, .u, .u, .u, .u, .u], [.live false false [.v (yv l)], .live false false [.f 142 [.p 0 0, .p 1 0]], .live false false (cP p)]⟩

def zV1 (l : Nat) (p : (Int × Int × Int) × (Int × Int × Int) × Int × Int × Int) (d : Int) : LS := ⟨[.u, iv d, .u, .p 1 0, .u, .u, .u, .u, .u, .u, .u, .u, .u, .u, .p 3 0, .u, .u, .u, .u, .u, .u, .u, .u, .u, .u, .u, .u, .u, .u, .u, .u, .u, .u, .u, .u, .u, .u, .u, .u, .u, .u, .u, .u, .u, .u, .u, .u, .u, .u, .u, .u, .u, .u, .u, .u, .u, .u, .u, .u, .u, .s 2 0 4 9, iv 4, iv 0, .u, .u, .u, .u, .u, .u, .u, .u, .u, .u], [.live false false [.v (yv l)], .live false false [.f 142 [.p 0 0, .p 1 0]], .live true false (cP (q1 p) ++ (cP (q2 p) ++ (cP (q3 p) ++ cP (q4 p)))), .live true false (cP (q1 p))]⟩
def zV11 (l : Nat) (p : (Int × Int × Int) × (Int × Int × Int) × Int × Int × Int) (d : Int) : LS := ⟨[.u, iv d, .u, .p 1 0, .u, .u, .u, .u, .u, .u, .u, .u, .u, .u, .p 3 0, .u, .u, .u, .u, .u, .u, .u, .u, .u, .u, .u, .u, .u, .u, .u, .u, .u, .u, .u, .u, .u, .u, .u, .u, .u, .u, .u, .u, .u, .u, .u, .u, .u, .u, .u, .u, .u, .u, .u, .u, .u, .u, .u, .u, .u, .s 2 0 4 9, iv 4, iv 0, .u, .u, .u, .f 142 [.p 0 0, .p 1 0], .a (cP (q1 p)), iv d, iv (W (d - 1)), .u, .u, .u], [.live false false [.v (yv l)], .live false false [.f 142 [.p 0 0, .p 1 0]], .live true false (cP (q1 p) ++ (cP (q2 p) ++ (cP (q3 p) ++ cP (q4 p)))), .live true false (cP (q1 p))]⟩
def zV13 (l : Nat) (p : (Int × Int × Int) × (Int × Int × Int) × Int × Int × Int) (d : Int) (b : Bool) : LS := ⟨[.u, iv d, .u, .p 1 0, .u, .u, .u, .u, .u, .u, .u, .u, .u, .u, .p 3 0, .u, .u, .u, .u, .u, .u, .u, .u, .u, .u, .u, .u, .u, .u, .u, .u, .u, .u, .u, .u, .u, .u, .u, .u, .u, .u, .u, .u, .u, .u, .u, .u, .u, .u, .u, .u, .u, .u, .u, .u, .u, .u, .u, .u, .u, .s 2 0 4 9, iv 4, iv 0, .u, .u, .u, .f 142 [.p 0 0, .p 1 0], .a (cP (q1 p)), iv d, iv (W (d - 1)), .v (.bool b), .v (.bool (!b)), .u], [.live false false [.v (yv l)], .live false false [.f 142 [.p 0 0, .p 1 0]], .live false false (cP (q1 p) ++ (cP (q2 p) ++ (cP (q3 p) ++ cP (q4 p)))), .live false false (cP (q1 p))]⟩

def zV2 (l : Nat) (p : (Int × Int × Int) × (Int × Int × Int) × Int × Int × Int) (d : Int) : LS := ⟨[.u, iv d, .u, .p 1 0, .u, .u, .u, .u, .u, .u, .u, .u, .u, .u, .p 4 0, .u, .u, .u, .u, .u, .u, .u, .u, .u, .u, .u, .u, .u, .u, .u, .u, .u, .u, .u, .u, .u, .u, .u, .u, .u, .u, .u, .u, .u, .u, .u, .u, .u, .u, .u, .u, .u, .u, .u, .u, .u, .u, .u, .u, .u, .s 2 0 4 9, iv 4, iv 1, .u, .u, .u, .u, .u, .u, .u, .u, .u, .u], [.live false false [.v (yv l)], .live false false [.f 142 [.p 0 0, .p 1 0]], .live false false (cP (q1 p) ++ (cP (q2 p) ++ (cP (q3 p) ++ cP (q4 p)))), .live false false (cP (q1 p)), .live true false (cP (q2 p))]⟩
def zV21 (l : Nat) (p : (Int × Int × Int) × (Int × Int × Int) × Int × Int × Int) (d : Int) : LS := ⟨[.u, iv d, .u, .p 1 0, .u, .u, .u, .u, .u, .u, .u, .u, .u, .u, .p 4 0, .u, .u, .u, .u, .u, .u, .u, .u, .u, .u, .u, .u, .u, .u, .u, .u, .u, .u, .u, .u, .u, .u, .u, .u, .u, .u, .u, .u, .u, .u, .u, .u, .u, .u, .u, .u, .u, .u, .u, .u, .u, .u, .u, .u, .u, .s 2 0 4 9, iv 4, iv 1, .u, .u, .u, .f 142 [.p 0 0, .p 1 0], .a (cP (q2 p)), iv d, iv (W (d - 1)), .u, .u, .u], [.live false false [.v (yv l)], .live false false [.f 142 [.p 0 0, .p 1 0]], .live false false (cP (q1 p) ++ (cP (q2 p) ++ (cP (q3 p) ++ cP (q4 p)))), .live false false (cP (q1 p)), .live true false (cP (q2 p))]⟩
def zV23 (l : Nat) (p : (Int × Int × Int) × (Int × Int × Int) × Int × Int × Int) (d : Int) (b : Bool) : LS := ⟨[.u, iv d, .u, .p 1 0, .u, .u, .u, .u, .u, .u, .u, .u, .u, .u, .p 4 0, .u, .u, .u, .u, .u, .u, .u, .u, .u, .u, .u, .u, .u, .u, .u, .u, .u, .u, .u, .u, .u, .u, .u, .u, .u, .u, .u, .u, .u, .u, .u, .u, .u, .u, .u, .u, .u, .u, .u, .u, .u, .u, .u, .u, .u, .s 2 0 4 9, iv 4, iv 1, .u, .u, .u, .f 142 [.p 0 0, .p 1 0], .a (cP (q2 p)), iv d, iv (W (d - 1)), .v (.bool b), .v (.bool (!b)), .u], [.live false false [.v (yv l)], .live false false [.f 142 [.p 0 0, .p 1 0]], .live false false (cP (q1 p) ++ (cP (q2 p) ++ (cP (q3 p) ++ cP (q4 p)))), .live false false (cP (q1 p)), .live false false (cP (q2 p))]⟩

def zV3 (l : Nat) (p : (Int × Int × Int) × (Int × Int × Int) × Int × Int × Int) (d : Int) : LS := ⟨[.u, iv d, .u, .p 1 0, .u, .u, .u, .u, .u, .u, .u, .u, .u, .u, .p 5 0, .u, .u, .u, .u, .u, .u, .u, .u, .u, .u, .u, .u, .u, .u, .u, .u, .u, .u, .u, .u, .u, .u, .u, .u, .u, .u, .u, .u, .u, .u, .u, .u, .u, .u, .u, .u, .u, .u, .u, .u, .u, .u, .u, .u, .u, .s 2 0 4 9, iv 4, iv 2, .u, .u, .u, .u, .u, .u, .u, .u, .u, .u], [.live false false [.v (yv l)], .live false false [.f 142 [.p 0 0, .p 1 0]], .live false false (cP (q1 p) ++ (cP (q2 p) ++ (cP (q3 p) ++ cP (q4 p)))), .live false false (cP (q1 p)), .live false false (cP (q2 p)), .live true false (cP (q3 p))]⟩
def zV31 (l : Nat) (p : (Int × Int × Int) × (Int × Int × Int) × Int × Int × Int) (d : Int) : LS := ⟨[.u, iv d, .u, .p 1 0, .u, .u, .u, .u, .u, .u, .u, .u, .u, .u, .p 5 0, .u, .u, .u, .u, .u, .u, .u, .u, .u, .u, .u, .u, .u, .u, .u, .u, .u, .u, .u, .u, .u, .u, .u, .u, .u, .u, .u, .u, .u, .u, .u, .u, .u, .u, .u, .u, .u, .u, .u, .u, .u, .u, .u, .u, .u, .s 2 0 4 9, iv 4, iv 2, .u, .u, .u, .f 142 [.p 0 0, .p 1 0], .a (cP (q3 p)), iv d, iv (W (d - 1)), .u, .u, .u], [.live false false [.v (yv l)], .live false false [.f 142 [.p 0 0, .p 1 0]], .live false false (cP (q1 p) ++ (cP (q2 p) ++ (cP (q3 p) ++ cP (q4 p)))), .live false false (cP (q1 p)), .live false false (cP (q2 p)), .live true false (cP (q3 p))]⟩
def zV33 (l : Nat) (p : (Int × Int × Int) × (Int × Int × Int) × Int × Int × Int) (d : Int) (b : Bool) : LS := ⟨[.u, iv d, .u, .p 1 0, .u, .u, .u, .u, .u, .u, .u, .u, .u, .u, .p 5 0, .u, .u, .u, .u, .u, .u, .u, .u, .u, .u, .u, .u, .u, .u, .u, .u, .u, .u, .u, .u, .u, .u, .u, .u, .u, .u, .u, .u, .u, .u, .u, .u, .u, .u, .u, .u, .u, .u, .u, .u, .u, .u, .u, .u, .u, .s 2 0 4 9, iv 4, iv 2, .u, .u, .u, .f 142 [.p 0 0, .p 1 0], .a (cP (q3 p)), iv d, iv (W (d - 1)), .v (.bool b), .v (.bool (!b)), .u], [.live false false [.v (yv l)], .live false false [.f 142 [.p 0 0, .p 1 0]], .live false false (cP (q1 p) ++ (cP (q2 p) ++ (cP (q3 p) ++ cP (q4 p)))), .live false false (cP (q1 p)), .live false false (cP (q2 p)), .live false false (cP (q3 p))]⟩

def zV4 (l : Nat) (p : (Int × Int × Int) × (Int × Int × Int) × Int × Int × Int) (d : Int) : LS := ⟨[.u, iv d, .u, .p 1 0, .u, .u, .u, .u, .u, .u, .u, .u, .u, .u, .p 6 0, .u, .u, .u, .u, .u, .u, .u, .u, .u, .u, .u, .u, .u, .u, .u, .u, .u, .u, .u, .u, .u, .u, .u, .u, .u, .u, .u, .u, .u, .u, .u, .u, .u, .u, .u, .u, .u, .u, .u, .u, .u, .u, .u, .u, .u, .s 2 0 4 9, iv 4, iv 3, .u, .u, .u, .u, .u, .u, .u, .u, .u, .u], [.live false false [.v (yv l)], .live false false [.f 142 [.p 0 0, .p 1 0]], .live false false (cP (q1 p) ++ (cP (q2 p) ++ (cP (q3 p) ++ cP (q4 p)))), .live false false (cP (q1 p)), .live false false (cP (q2 p)), .live false false (cP (q3 p)), .live true false (cP (q4 p))]⟩
def zV41 (l : Nat) (p : (Int × Int × Int) × (Int × Int × Int) × Int × Int × Int) (d : Int) : LS := ⟨[.u, iv d, .u, .p 1 0, .u, .u, .u, .u, .u, .u, .u, .u, .u, .u, .p 6 0, .u, .u, .u, .u, .u, .u, .u, .u, .u, .u, .u, .u, .u, .u, .u, .u, .u, .u, .u, .u, .u, .u, .u, .u, .u, .u, .u, .u, .u, .u, .u, .u, .u, .u, .u, .u, .u, .u, .u, .u, .u, .u, .u, .u, .u, .s 2 0 4 9, iv 4, iv 3, .u, .u, .u, .f 142 [.p 0 0, .p 1 0], .a (cP (q4 p)), iv d, iv (W (d - 1)), .u, .u, .u], [.live false false [.v (yv l)], .live false false [.f 142 [.p 0 0, .p 1 0]], .live false false (cP (q1 p) ++ (cP (q2 p) ++ (cP (q3 p) ++ cP (q4 p)))), .live false false (cP (q1 p)), .live false false (cP (q2 p)), .live false false (cP (q3 p)), .live true false (cP (q4 p))]⟩
def zV43 (l : Nat) (p : (Int × Int × Int) × (Int × Int × Int) × Int × Int × Int) (d : Int) (b : Bool) : LS := ⟨[.u, iv d, .u, .p 1 0, .u, .u, .u, .u, .u, .u, .u, .u, .u, .u, .p 6 0, .u, .u, .u, .u, .u, .u, .u, .u, .u, .u, .u, .u, .u, .u, .u, .u, .u, .u, .u, .u, .u, .u, .u, .u, .u, .u, .u, .u, .u, .u, .u, .u, .u, .u, .u, .u, .u, .u, .u, .u, .u, .u, .u, .u, .u, .s 2 0 4 9, iv 4, iv 3, .u, .u, .u, .f 142 [.p 0 0, .p 1 0], .a (cP (q4 p)), iv d, iv (W (d - 1)), .v (.bool b), .v (.bool (!b)), .u], [.live false false [.v (yv l)], .live false false [.f 142 [.p 0 0, .p 1 0]], .live false false (cP (q1 p) ++ (cP (q2 p) ++ (cP (q3 p) ++ cP (q4 p)))), .live false false (cP (q1 p)), .live false false (cP (q2 p)), .live false false (cP (q3 p)), .live false false (cP (q4 p))]⟩

theorem rels_plain {ρ ρ' : Env} : ∀ {l : List SV} {vs us : List Value}, l.all SV.plain = true → Rels ρ l vs → Rels ρ' l us → vs = us
  | [], [], [], _, _, _ => rfl
  | [], _ :: _, _, _, h, _ => by simp [Rels] at h
  | [], [], _ :: _, _, _, h => by simp [Rels] at h
  | _ :: _, [], _, _, h, _ => by simp [Rels] at h
  | _ :: _, _ :: _, [], _, _, h => by simp [Rels] at h
  | x :: l, y :: vs, z :: us, hp, h1, h2 => by
    simp only [List.all_cons, Bool.and_eq_true] at hp
    simp only [Rels] at h1 h2
    rw [rels_plain hp.2 h1.2 h2.2]
    have : y = z := by
      cases x <;> simp only [SV.plain, Bool.false_eq_true, false_and] at hp
      · have a1 := h1.1; have a2 := h2.1; simp only [Rel] at a1 a2; rw [a1, a2]
      · have a1 := h1.1; have a2 := h2.1; simp only [Rel] at a1 a2; rw [a1, a2]
    rw [this]
theorem rels_cons {ρ : Env} {x : SV} {l : List SV} {y : Value} {m : List Value} (h : Rel ρ x y) (h' : Rels ρ l m) : Rels ρ (x :: l) (y :: m) := by simp only [Rels]; exact ⟨h, h'⟩
theorem sub_app {α : Type} {xs A B : List α} {i : Nat} (h : ∀ j x, (A ++ B)[j]? = some x → xs[i + j]? = some x) : (∀ j x, A[j]? = some x → xs[i + j]? = some x) ∧ (∀ j x, B[j]? = some x → xs[i + A.length + j]? = some x) :=
  ⟨fun j x hj => h j x (by rw [List.getElem?_append_left (List.getElem?_eq_some_iff.1 hj).1]; exact hj), fun j x hj => by
    have := h (A.length + j) x (by rw [List.getElem?_append_right (by omega), Nat.add_sub_cancel_left]; exact hj)
    rwa [← Nat.add_assoc] at this⟩

section
variable {l : Nat} {J : Nat → (Nat → Prop) → World → Prop} {Jx : (Nat → Prop) → World → Prop} {xs : List ((Int × Int × Int) × (Int × Int × Int) × Int × Int × Int)}

/-- the end of a visit -/
theorem visit_end (hJ : GrowsJ J) (hX : GrowsX Jx) {m m' : Nat} {W0 : World} {S : Nat → Prop} {cx : Cx} {b : Bool} (h1 : b = true → ∃ Sc, Seg J W0 S m' cx Sc) (h2 : b = false → SegX Jx W0 S cx) (hm : m' = m) (Wd : World) (hb : Below cx.w.heap.size cx.w Wd) :
    VR J Jx m S W0 (.returned (.bool b)) Wd := by
  subst hm
  cases b with
  | true =>
    obtain ⟨Sc, h⟩ := h1 rfl
    exact .inl ⟨rfl, Sc, hJ _ _ _ _ h.j hb, h.kept.grow hb, h.sub⟩
  | false =>
    have h := h2 rfl
    obtain ⟨Sc, hj⟩ := h.j
    exact .inr ⟨rfl, Sc, hX _ _ _ hj hb, h.kept.grow hb⟩

theorem visit0 (hJ : GrowsJ J) (hX : GrowsX Jx) (hB : BoundJ J) (hY : ∀ i x S W1, xs[i]? = some x → J i S W1 → YieldAt (Fw none) 9 Try.prog l #[encP x] W1 (YR J Jx i S W1)) : VisitAt l J Jx xs 0 := by
  intro p i S Wd ρ vs hargs hb0 hb1 hS hj hxs
  have hx : xs[i]? = some p := by have := hxs 0 p rfl; simpa using this
  refine calls_of_good (n := 9) (bs := [.live false false [.v (yv l)], .live false false [.f 142 [.p 0 0, .p 1 0]]]) Try.func142 rfl (by show 4 ≤ Try.f142.ntmps; decide) (by kernel_rfl) ⟨rfl, rfl, trivial⟩ (by kernel_rfl) (fun i => by rcases i with _ | _ | i <;> simp [BK.own]) hargs (fun i => by rcases i with _ | _ | i <;> first | exact hb0 | exact hb1 | simp [BRep]) (fun i => by rcases i with _ | _ | i <;> simp [BK.pl]) (fun cx hbase hw hρ hown => ?_)
  subst hw; subst hρ
  have hd : ((((0 : Nat) : Int) : Int) == 0) = true := rfl
  refine at_of (T := T0) hT hm (f := 5000) (orc := [.d true, .stop 2]) [] [2, 4] [2] hbase (x := .region 2 OY false) (k' := KY) (s' := zY l p)
    (obs := [.eq ((((0 : Nat) : Int) : Int) == 0) true]) (by kernel_rfl) ⟨hd, trivial⟩ ?_
  have hseg : Seg J cx.w S i cx S := ⟨hj, Kept.refl _ _, fun b h => .inl h, fun k b o n hk h => hS k (by rw [hbase] at hk; exact hk) b o n h, hown⟩
  refine visit_of (Jx := Jx) hT hJ hB (m := i + 1) hseg (OY.toList.take 2) oY (OY.toList.drop 3) oY_split (s1 := zY1 l p) (by kernel_rfl) (by kernel_rfl) 19 (by kernel_rfl) (of_decide_eq_true (by kernel_rfl)) 2 hbase (by kernel_rfl) (by kernel_rfl)
    (fun ρ a W2 hrep hsafe hj2 K Q' hK => ?_) (zY3 l p) (fun b => by kernel_rfl) (fun b cx' hb' h1 h2 => ?_)
  · have e1 := hrep.sl 17
    have e2 := hrep.sl 18
    refine op_yield oY_op (l := l) (vs := #[encP p]) ?_ ?_ (hY i p S W2 hx hj2) hK
    · exact e1
    · have : a.eval (.tmp 18) = encP p := by
        have e3 : Rel ρ (.a (cP p)) (a.tmps.getD 18 undef) := e2
        simp only [Rel] at e3
        obtain ⟨vs, hv, hr⟩ := e3
        have h' := encP_rel ρ p
        simp only [Rel] at h'
        obtain ⟨us, hu, hr'⟩ := h'
        show a.tmps.getD 18 undef = encP p
        rw [hv, hu]
        have : vs = us := rels_plain (by simp [cP, SV.plain, iv]) hr hr'
        rw [this]
      simp [this]
  · have hown' : ∀ c, ¬ cx'.own c := by
      cases b with
      | true => obtain ⟨Sc, h⟩ := h1 rfl; exact h.own
      | false => exact (h2 rfl).own
    exact retB_of (T := T0) hT hm (f := 5000) (orc := []) (b := b) (obs := []) (by cases b <;> kernel_rfl) trivial hown' (fun Wd hW => visit_end hJ hX h1 h2 rfl Wd hW)


/-- a visit within a visit -/
theorem vcall {d : Nat} (ih : VisitAt l J Jx xs d) {cx : Cx} {N : Nat} {D : List Deferred} {ρ : Env} {s : FS} {a : Act} {Wd : World} (hrep : Rep cx N D ρ s a Wd) {p : (Int × Int × Int) × (Int × Int × Int) × Int × Int × Int} {i : Nat} {S : Nat → Prop}
    (hdl : d < 1000) (e1 : s.sl 66 = .f 142 [.p 0 0, .p 1 0]) (e2 : s.sl 67 = .a (cP p)) (e3 : s.sl 69 = iv (W (((d + 1 : Nat) : Int) - 1))) (e4 : s.bk 0 = .live false false [.v (yv l)]) (e5 : s.bk 1 = .live false false [.f 142 [.p 0 0, .p 1 0]])
    (hS : ∀ k, k < 2 → ∀ b o n, ρ k = some (b, o, n) → ¬ S b) (hj : J i S Wd) (hxs : ∀ j x, (cutL d p)[j]? = some x → xs[i + j]? = some x)
    (K : Act → World → Prop) (Q : Exit → Act → World → Prop) (hK : ∀ e Wd', VR J Jx (i + (cutL d p).length) S Wd e Wd' → ∃ v, e = .returned v ∧ K (a.put oV.dst v) Wd') : oV.wpIn (Fw none) 9 Try.prog a Wd K Q := by
  have r1 := hrep.sl 66
  have r2 := hrep.sl 67
  have r3 := hrep.sl 69
  rw [e1] at r1; rw [e2] at r2; rw [e3] at r3
  have hw : W (((d + 1 : Nat) : Int) - 1) = (d : Int) := by rw [W_eq] <;> omega
  rw [hw] at r3
  simp only [Rel] at r1
  obtain ⟨vs, hv, hc⟩ := r1
  have b0 := hrep.bk 0
  have b1 := hrep.bk 1
  rw [e4] at b0; rw [e5] at b1
  refine op_call oV_op (g := 142) (caps := vs) hv ent142 (ih p i S Wd ρ _ ?_ b0.ro b1.ro hS hj hxs) hK
  exact rels_cons r2 (rels_cons r3 hc)

theorem visitS (hJ : GrowsJ J) (hX : GrowsX Jx) (hB : BoundJ J) {d : Nat} (hdl : d < 1000) (ih : VisitAt l J Jx xs d) : VisitAt l J Jx xs (d + 1) := by
  intro p i S Wd ρ vs hargs hb0 hb1 hS hj hxs
  obtain ⟨hx1, hr1⟩ := sub_app hxs
  obtain ⟨hx2, hr2⟩ := sub_app hr1
  obtain ⟨hx3, hx4⟩ := sub_app hr2
  refine calls_of_good (n := 9) (bs := [.live false false [.v (yv l)], .live false false [.f 142 [.p 0 0, .p 1 0]]]) Try.func142 rfl (by show 4 ≤ Try.f142.ntmps; decide) (by kernel_rfl) ⟨rfl, rfl, trivial⟩ (by kernel_rfl) (fun i => by rcases i with _ | _ | i <;> simp [BK.own]) hargs (fun i => by rcases i with _ | _ | i <;> first | exact hb0 | exact hb1 | simp [BRep]) (fun i => by rcases i with _ | _ | i <;> simp [BK.pl]) (fun cx hbase hw hρ hown => ?_)
  subst hw; subst hρ
  have hd : ((((d + 1 : Nat) : Int) : Int) == 0) = false := by rw [beq_eq_false_iff_ne]; omega
  have hseg : Seg J cx.w S i cx S := ⟨hj, Kept.refl _ _, fun b h => .inl h, fun k b o n hk h => hS k (by rw [hbase] at hk; exact hk) b o n h, hown⟩
  refine at_of (T := T0) hT hm (f := 5000) (orc := [.d false, .call [] (.a [(iv (F103 p.1 2).1), (iv (F103 p.1 2).2.1), (iv (F103 p.1 2).2.2)]) [], .call [] (.a [(iv (F103 p.2.1 2).1), (iv (F103 p.2.1 2).2.1), (iv (F103 p.2.1 2).2.2)]) [], .call [] (.a [(iv (F103 p.2.2 2).1), (iv (F103 p.2.2 2).2.1), (iv (F103 p.2.2 2).2.2)]) [], .call [] (.a [(iv (F143 p.1 p.2.1).1), (iv (F143 p.1 p.2.1).2.1), (iv (F143 p.1 p.2.1).2.2)]) [], .call [] (.a [(iv (F143 p.2.1 p.2.2).1), (iv (F143 p.2.1 p.2.2).2.1), (iv (F143 p.2.1 p.2.2).2.2)]) [], .call [] (.a [(iv (F143 p.2.2 p.1).1), (iv (F143 p.2.2 p.1).2.1), (iv (F143 p.2.2 p.1).2.2)]) [], .un 4, .d true, .stop 8]) [] [1, 3, 14, 60, 61, 62] [9, 10] hbase (x := .region 8 OV false) (k' := KV 4) (s' := zV1 l p (d + 1 : Nat))
    (obs := [.eq ((((d + 1 : Nat) : Int) : Int) == 0) false, .call 103 [(.a [(iv p.1.1), (iv p.1.2.1), (iv p.1.2.2)]), (iv 2)] [] (.a [(iv (F103 p.1 2).1), (iv (F103 p.1 2).2.1), (iv (F103 p.1 2).2.2)]) [], .call 103 [(.a [(iv p.2.1.1), (iv p.2.1.2.1), (iv p.2.1.2.2)]), (iv 2)] [] (.a [(iv (F103 p.2.1 2).1), (iv (F103 p.2.1 2).2.1), (iv (F103 p.2.1 2).2.2)]) [], .call 103 [(.a [(iv p.2.2.1), (iv p.2.2.2.1), (iv p.2.2.2.2)]), (iv 2)] [] (.a [(iv (F103 p.2.2 2).1), (iv (F103 p.2.2 2).2.1), (iv (F103 p.2.2 2).2.2)]) [], .call 143 [(.a [(iv p.1.1), (iv p.1.2.1), (iv p.1.2.2)]), (.a [(iv p.2.1.1), (iv p.2.1.2.1), (iv p.2.1.2.2)])] [] (.a [(iv (F143 p.1 p.2.1).1), (iv (F143 p.1 p.2.1).2.1), (iv (F143 p.1 p.2.1).2.2)]) [], .call 143 [(.a [(iv p.2.1.1), (iv p.2.1.2.1), (iv p.2.1.2.2)]), (.a [(iv p.2.2.1), (iv p.2.2.2.1), (iv p.2.2.2.2)])] [] (.a [(iv (F143 p.2.1 p.2.2).1), (iv (F143 p.2.1 p.2.2).2.1), (iv (F143 p.2.1 p.2.2).2.2)]) [], .call 143 [(.a [(iv p.2.2.1), (iv p.2.2.2.1), (iv p.2.2.2.2)]), (.a [(iv p.1.1), (iv p.1.2.1), (iv p.1.2.2)])] [] (.a [(iv (F143 p.2.2 p.1).1), (iv (F143 p.2.2 p.1).2.1), (iv (F143 p.2.2 p.1).2.2)]) [], .eq true true, .pr (0 ≤ (0 : Int) ∧ (0 : Int) < ((4 : Nat) : Int))]) (by kernel_rfl) ⟨hd, (C103 p.1 2), (C103 p.2.1 2), (C103 p.2.2 2), (C143 p.1 p.2.1), (C143 p.2.1 p.2.2), (C143 p.2.2 p.1), rfl, (show 0 ≤ (0 : Int) ∧ (0 : Int) < ((4 : Nat) : Int) from by decide), trivial⟩ ?_
  refine visit_of (Jx := Jx) hT hJ hB (m := i + (cutL d (q1 p)).length) hseg (OV.toList.take 4) oV (OV.toList.drop 5) oV_split (s1 := zV11 l p (d + 1 : Nat)) (by kernel_rfl) (by kernel_rfl) 70 (by kernel_rfl) (of_decide_eq_true (by kernel_rfl)) 2 hbase (by kernel_rfl) (by kernel_rfl)
    (fun ρ a W2 hrep hsafe hj2 K Q' hK => vcall ih hrep hdl rfl rfl rfl rfl rfl (fun k hk b o n h => (match k, hk, h with | 0, _, h => hsafe 0 _ _ _ rfl b o n h | 1, _, h => hsafe 1 _ _ _ rfl b o n h)) hj2 (fun j x hj => hx1 j x hj) K Q' hK) (zV13 l p (d + 1 : Nat)) (fun b => by kernel_rfl) (fun b cx hbase h1 h2 => ?_)
  cases b with
  | false =>
    exact retB_of (T := T0) hT hm (f := 5000) (orc := [.d true]) (b := false) (obs := [.eq (!false) true]) (by kernel_rfl) ⟨rfl, trivial⟩ (h2 rfl).own (fun W hW => visit_end (m' := i + (cutL (d + 1) p).length) hJ hX (fun h => by cases h) h2 rfl W hW)
  | true =>
    obtain ⟨Sc, hseg⟩ := h1 rfl
    refine at_of (T := T0) hT hm (f := 5000) (orc := [.d false, .un 0, .d true, .stop 8]) [] [1, 3, 14, 60, 61, 62] [4] hbase (x := .region 8 OV false) (k' := KV 3) (s' := zV2 l p (d + 1 : Nat))
      (obs := [.eq (!true) false, .eq (decide ((1 : Int) < 4)) true, .pr (0 ≤ (1 : Int) ∧ (1 : Int) < ((4 : Nat) : Int))]) (by kernel_rfl) ⟨rfl, rfl, (show 0 ≤ (1 : Int) ∧ (1 : Int) < ((4 : Nat) : Int) from by decide), trivial⟩ ?_
    refine visit_of (Jx := Jx) hT hJ hB (m := i + (cutL d (q1 p)).length + (cutL d (q2 p)).length) hseg (OV.toList.take 4) oV (OV.toList.drop 5) oV_split (s1 := zV21 l p (d + 1 : Nat)) (by kernel_rfl) (by kernel_rfl) 70 (by kernel_rfl) (of_decide_eq_true (by kernel_rfl)) 4 hbase (by kernel_rfl) (by kernel_rfl)
      (fun ρ a W2 hrep hsafe hj2 K Q' hK => vcall ih hrep hdl rfl rfl rfl rfl rfl (fun k hk b o n h => (match k, hk, h with | 0, _, h => hsafe 0 _ _ _ rfl b o n h | 1, _, h => hsafe 1 _ _ _ rfl b o n h)) hj2 (fun j x hj => hx2 j x hj) K Q' hK) (zV23 l p (d + 1 : Nat)) (fun b => by kernel_rfl) (fun b cx hbase h1 h2 => ?_)
    cases b with
    | false =>
      exact retB_of (T := T0) hT hm (f := 5000) (orc := [.d true]) (b := false) (obs := [.eq (!false) true]) (by kernel_rfl) ⟨rfl, trivial⟩ (h2 rfl).own (fun W hW => visit_end (m' := i + (cutL (d + 1) p).length) hJ hX (fun h => by cases h) h2 rfl W hW)
    | true =>
      obtain ⟨Sc, hseg⟩ := h1 rfl
      refine at_of (T := T0) hT hm (f := 5000) (orc := [.d false, .un 0, .d true, .stop 8]) [] [1, 3, 14, 60, 61, 62] [5] hbase (x := .region 8 OV false) (k' := KV 2) (s' := zV3 l p (d + 1 : Nat))
        (obs := [.eq (!true) false, .eq (decide ((2 : Int) < 4)) true, .pr (0 ≤ (2 : Int) ∧ (2 : Int) < ((4 : Nat) : Int))]) (by kernel_rfl) ⟨rfl, rfl, (show 0 ≤ (2 : Int) ∧ (2 : Int) < ((4 : Nat) : Int) from by decide), trivial⟩ ?_
      refine visit_of (Jx := Jx) hT hJ hB (m := i + (cutL d (q1 p)).length + (cutL d (q2 p)).length + (cutL d (q3 p)).length) hseg (OV.toList.take 4) oV (OV.toList.drop 5) oV_split (s1 := zV31 l p (d + 1 : Nat)) (by kernel_rfl) (by kernel_rfl) 70 (by kernel_rfl) (of_decide_eq_true (by kernel_rfl)) 5 hbase (by kernel_rfl) (by kernel_rfl)
        (fun ρ a W2 hrep hsafe hj2 K Q' hK => vcall ih hrep hdl rfl rfl rfl rfl rfl (fun k hk b o n h => (match k, hk, h with | 0, _, h => hsafe 0 _ _ _ rfl b o n h | 1, _, h => hsafe 1 _ _ _ rfl b o n h)) hj2 (fun j x hj => hx3 j x hj) K Q' hK) (zV33 l p (d + 1 : Nat)) (fun b => by kernel_rfl) (fun b cx hbase h1 h2 => ?_)
      cases b with
      | false =>
        exact retB_of (T := T0) hT hm (f := 5000) (orc := [.d true]) (b := false) (obs := [.eq (!false) true]) (by kernel_rfl) ⟨rfl, trivial⟩ (h2 rfl).own (fun W hW => visit_end (m' := i + (cutL (d + 1) p).length) hJ hX (fun h => by cases h) h2 rfl W hW)
      | true =>
        obtain ⟨Sc, hseg⟩ := h1 rfl
        refine at_of (T := T0) hT hm (f := 5000) (orc := [.d false, .un 0, .d true, .stop 8]) [] [1, 3, 14, 60, 61, 62] [6] hbase (x := .region 8 OV false) (k' := KV 1) (s' := zV4 l p (d + 1 : Nat))
          (obs := [.eq (!true) false, .eq (decide ((3 : Int) < 4)) true, .pr (0 ≤ (3 : Int) ∧ (3 : Int) < ((4 : Nat) : Int))]) (by kernel_rfl) ⟨rfl, rfl, (show 0 ≤ (3 : Int) ∧ (3 : Int) < ((4 : Nat) : Int) from by decide), trivial⟩ ?_
        refine visit_of (Jx := Jx) hT hJ hB (m := i + (cutL d (q1 p)).length + (cutL d (q2 p)).length + (cutL d (q3 p)).length + (cutL d (q4 p)).length) hseg (OV.toList.take 4) oV (OV.toList.drop 5) oV_split (s1 := zV41 l p (d + 1 : Nat)) (by kernel_rfl) (by kernel_rfl) 70 (by kernel_rfl) (of_decide_eq_true (by kernel_rfl)) 6 hbase (by kernel_rfl) (by kernel_rfl)
          (fun ρ a W2 hrep hsafe hj2 K Q' hK => vcall ih hrep hdl rfl rfl rfl rfl rfl (fun k hk b o n h => (match k, hk, h with | 0, _, h => hsafe 0 _ _ _ rfl b o n h | 1, _, h => hsafe 1 _ _ _ rfl b o n h)) hj2 (fun j x hj => hx4 j x hj) K Q' hK) (zV43 l p (d + 1 : Nat)) (fun b => by kernel_rfl) (fun b cx hbase h1 h2 => ?_)
        cases b with
        | false =>
          exact retB_of (T := T0) hT hm (f := 5000) (orc := [.d true]) (b := false) (obs := [.eq (!false) true]) (by kernel_rfl) ⟨rfl, trivial⟩ (h2 rfl).own (fun W hW => visit_end (m' := i + (cutL (d + 1) p).length) hJ hX (fun h => by cases h) h2 rfl W hW)
        | true =>
          exact retB_of (T := T0) hT hm (f := 5000) (orc := [.d false, .un 0, .d false]) (b := true) (obs := [.eq (!true) false, .eq (decide ((4 : Int) < 4)) false]) (by kernel_rfl) ⟨rfl, rfl, trivial⟩ (h1 rfl).choose_spec.own (fun W hW => visit_end hJ hX h1 h2 (by simp only [cutL, List.length_append]; omega) W hW)

theorem visit_all (hJ : GrowsJ J) (hX : GrowsX Jx) (hB : BoundJ J) (hY : ∀ i x S W1, xs[i]? = some x → J i S W1 → YieldAt (Fw none) 9 Try.prog l #[encP x] W1 (YR J Jx i S W1)) : ∀ d, d < 1000 → VisitAt l J Jx xs d
  | 0, _ => visit0 hJ hX hB hY
  | d + 1, h => visitS hJ hX hB (by omega) (visit_all hJ hX hB hY d (by omega))
end

noncomputable def O2 : Array Oper := match (codeAtD [1, 1, 1] [] (Try.f141.body.getD .skip)).1 with
  | .region _ ops _ => ops
  | _ => #[]
noncomputable def o2 : Oper := O2.toList.getD 3 default
theorem o2_op : o2.op = .call { callee := .value (.tmp 6), args := #[.tmp 7, .tmp 8], argTypes := callTs o2 } := by kernel_rfl
theorem o2_split : O2.toList = O2.toList.take 3 ++ [o2] := by kernel_rfl
def z2 (l : Nat) (p : (Int × Int × Int) × (Int × Int × Int) × Int × Int × Int) (d : Int) : LS := ⟨[.u, .p 0 0, .p 1 0, .u, .p 3 0, .u, .u, .u, .u, .u], [.live false false (cP p), .live false false [iv d], .live true false [.v (yv l)], .live true false [.f 142 [.p 2 0, .p 3 0]]]⟩
def z21 (l : Nat) (p : (Int × Int × Int) × (Int × Int × Int) × Int × Int × Int) (d : Int) : LS := ⟨[.u, .p 0 0, .p 1 0, .u, .p 3 0, .u, .f 142 [.p 2 0, .p 3 0], .a (cP p), iv d, .u], [.live false false (cP p), .live false false [iv d], .live true false [.v (yv l)], .live true false [.f 142 [.p 2 0, .p 3 0]]]⟩

/-- cut is an iterator over a panel's parts -/
theorem iter_cut (p : (Int × Int × Int) × (Int × Int × Int) × Int × Int × Int) (d : Nat) (hd : d < 1000) : Iter Try.prog 141 [.p 0 0, .p 1 0] [.live false false (cP p), .live false false [iv (d : Nat)]] encP (cutL d p) := by
  refine ⟨ent141, fun ρ Wd lb hcaps hbs hpl l J Jx S0 hJ hX hB hY h0 => ?_⟩
  have hcon : Calls Try.prog 141 ((Value.func (.yield l) #[] #[]) :: lb).toArray Wd fun e Wd' => (∃ v, e = .returned v) ∧ ∃ S', (J (cutL d p).length S' Wd' ∨ Jx S' Wd') ∧ Kept Wd S0 Wd' := by
    refine calls_of_good (n := 9) (args := [.v (yv l), .p 0 0, .p 1 0]) (bs := [.live false false (cP p), .live false false [iv (d : Nat)]]) Try.func141 rfl (by show 3 ≤ Try.f141.ntmps; decide) (by kernel_rfl) ⟨rfl, rfl, trivial⟩ (by kernel_rfl) (fun i => by rcases i with _ | _ | i <;> simp [BK.own]) ⟨rfl, hcaps⟩ hbs hpl (fun cx hbase hw hρ hown => ?_)
    subst hw; subst hρ
    refine at_of (T := T0) hT hm (f := 5000) (orc := [.stop 3]) [] [1, 2, 4] [2, 3] hbase (x := .region 3 O2 false) (k' := []) (s' := z2 l p d)
      (obs := []) (by kernel_rfl) trivial ?_
    intro ρ a Wd hrep
    simp only [cont]
    refine wpIn_region ?_
    have hsz : O2.size = (O2.toList.take 3).length + (0 + 1) := by kernel_rfl
    have hget : ∀ j, O2[j]? = (O2.toList.take 3 ++ [o2])[j]? := fun j => by rw [← o2_split, Array.getElem?_toList]
    rw [hsz, range_split]
    refine ops_pre hT (O2.toList.take 3) 0 (z2 l p d) (z21 l p d) [] [] _ [] (evS_spec (T := T0) (obs := []) (by kernel_rfl)).choose_spec trivial (fun j o' hj => ?_) ρ a Wd hrep (fun ρ1 a1 W1 hrep1 hl1 => ?_)
    · rw [hget, Nat.zero_add, List.getElem?_append_left (List.getElem?_eq_some_iff.1 hj).1]; exact hj
    rw [wpOpsIn_cons]
    unfold wpOpIn
    have ho : O2[(O2.toList.take 3).length]? = some o2 := by rw [hget, List.getElem?_append_right (Nat.le_refl _)]; simp
    rw [ho]
    have hw : Region.wanted o2 (yielded O2 a1.tmps) = true := by
      have hg : o2.guard = none := by kernel_rfl
      unfold Region.wanted; rw [hg]
    simp only [hw, if_true]
    have hbel : Below cx.w.heap.size cx.w W1 := by
      have := hrep1.kept
      exact ⟨this.os, this.tape, this.output, this.size, fun k hk => this.block k hk (hown k)⟩
    have r1 := hrep1.sl 6
    have r2 := hrep1.sl 7
    have r3 := hrep1.sl 8
    have r1' : Rel ρ1 (.f 142 [.p 2 0, .p 3 0]) (a1.tmps.getD 6 undef) := r1
    have r2' : Rel ρ1 (.a (cP p)) (a1.tmps.getD 7 undef) := r2
    have r3' : Rel ρ1 (iv (d : Nat)) (a1.tmps.getD 8 undef) := r3
    simp only [Rel] at r1'
    obtain ⟨vs, hv, hc⟩ := r1'
    have own2 : ∀ b, cx.mine b → cx.w.heap.size ≤ b := fun b hb => hb.elim id (fun h => (hown b h).elim)
    have b2 := (renB_rep (ks := [2, 3]) (i := 0) (m := false) (x := .live true false [.v (yv l)]) (y := .live false false [.v (yv l)]) (M' := fun b => W1.heap.size ≤ b) rfl rfl trivial (hrep1.bk 2) (fun _ h => by cases h) (fun _ b hlt _ hM => absurd hM (Nat.not_le_of_lt hlt))).1
    have b3 := (renB_rep (ks := [2, 3]) (i := 1) (m := false) (x := .live true false [.f 142 [.p 2 0, .p 3 0]]) (y := .live false false [.f 142 [.p 0 0, .p 1 0]]) (M' := fun b => W1.heap.size ≤ b) rfl rfl trivial (hrep1.bk 3) (fun _ h => by cases h) (fun _ b hlt _ hM => absurd hM (Nat.not_le_of_lt hlt))).1
    have hS2 : ∀ k, k < 2 → ∀ b o n, envOf ρ1 [2, 3] k = some (b, o, n) → ¬ S0 b := fun k hk b o n h hSb => by
      have hlt := hB _ _ _ h0 b hSb
      have own : ∀ j, (z21 l p d).fs.bk j ≠ .un → ((z21 l p d).fs.bk j).own → ρ1 j = some (b, o, n) → False := fun j _ hj hρ => by
        have hb := hrep1.bk j
        cases hx : (z21 l p d).fs.bk j with
        | un => rw [hx] at hj; exact hj
        | dead => rw [hx] at hj; exact hj
        | live ow sy cs => cases ow with
          | false => rw [hx] at hj; exact hj
          | true =>
            rw [hx] at hb
            rcases hb with ⟨q, _⟩ | ⟨b', vs, rest, ty, q1, q2, _⟩
            · rw [hρ] at q; cases q
            · rw [hρ] at q1; cases q1
              have := own2 b q2; omega
      match k, hk with
      | 0, _ => exact own 2 (by simp [z21, LS.fs]) (by trivial) h
      | 1, _ => exact own 3 (by simp [z21, LS.fs]) (by trivial) h
    refine op_call o2_op (g := 142) (caps := vs) hv ent142 ((visit_all (l := l) hJ hX hB hY d hd) p 0 S0 W1 (envOf ρ1 [2, 3]) (a1.tmps.getD 7 undef :: a1.tmps.getD 8 undef :: vs) ?_ b2 b3 hS2 (hJ _ _ _ _ h0 hbel) (fun j x hj => by rw [Nat.zero_add]; exact hj)) (fun e Wd' hR => ?_)
    · exact rels_cons (ren_rel (ks := [2, 3]) (.a (cP p)) (.a (cP p)) _ rfl r2') (rels_cons (ren_rel (ks := [2, 3]) (iv (d : Nat)) (iv (d : Nat)) _ rfl r3') (renL_rel (ks := [2, 3]) [.p 2 0, .p 3 0] [.p 0 0, .p 1 0] vs rfl hc))
    · have fin : ∀ v : Bool, e = .returned (.bool v) → (∃ S', (J (cutL d p).length S' Wd' ∨ Jx S' Wd') ∧ Kept W1 S0 Wd') → ∃ v, e = .returned v ∧ wpOpsIn (Fw none) 9 Try.prog O2 (cont none 9 Try.prog (bodyPost Try.prog Try.f141 (fun e Wd' => (∃ v, e = .returned v) ∧ ∃ S', (J (cutL d p).length S' Wd' ∨ Jx S' Wd') ∧ Kept cx.w S0 Wd')) []) (List.range' ((O2.toList.take 3).length + 1) 0) (a1.put o2.dst v) Wd' := fun v he ⟨S', hj', hk'⟩ => by
        refine ⟨_, he, ?_⟩
        simp only [List.range'_zero, wpOpsIn, cont]
        refine ⟨?_, _, results_nil (by kernel_rfl), ⟨_, rfl⟩, S', hj', ?_⟩
        · exact hrep1.defs
        · exact (Kept.of_below S0 hbel).trans hk' (fun b hb _ => hb)
      rcases hR with ⟨he, S', hj', hk', _⟩ | ⟨he, S', hj', hk'⟩
      · exact fin true he ⟨S', .inl (by rwa [Nat.zero_add] at hj'), hk'⟩
      · exact fin false he ⟨S', .inr hj', hk'⟩
  have e : ((Value.func (.yield l) #[] #[]) :: lb).toArray = #[.func (.yield l) #[] #[]] ++ lb.toArray := by apply Array.ext'; simp
  rw [← e]; exact hcon

theorem iter_cutI (p : (Int × Int × Int) × (Int × Int × Int) × Int × Int × Int) (d : Int) (h : 0 ≤ d ∧ d ≤ 3) : Iter Try.prog 141 [.p 0 0, .p 1 0] [.live false false (cP p), .live false false [iv d]] encP (cutL (Int.toNat d) p) := by
  have := iter_cut p d.toNat (by omega)
  rwa [Int.toNat_of_nonneg h.1] at this
theorem cut_lt {p : (Int × Int × Int) × (Int × Int × Int) × Int × Int × Int} {d : Int} (h : 0 ≤ d ∧ d ≤ 3) {i : Nat} {x : (Int × Int × Int) × (Int × Int × Int) × Int × Int × Int} (hx : (cutL (Int.toNat d) p)[i]? = some x) : i < 64 := by
  have hl := (List.getElem?_eq_some_iff.1 hx).1
  rw [cutL_length] at hl
  have : Int.toNat d ≤ 3 := by omega
  have : 4 ^ Int.toNat d ≤ 4 ^ 3 := Nat.pow_le_pow_right (by omega) this
  omega

end Go.Proofs.Ytopbnnmkdildgaa
