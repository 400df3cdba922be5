/-
  Parts of the proofs of the laws: the executor, what functions of the program compute, and that it is what the statements ask. No premise.
-/
import Derived.Test.YtidhogejnafhaaaVPjo2
import Derived.Test.YtidhogejnafhaaaRows
import Derived.Shelf.Abstract
import Derived.ProofKit
import Derived.Deep.Slices
import Derived.RowKit
namespace Go.Proofs.Ytidhogejnafhaaa
open Go.Proofs Go.Aw Go.RowKit
set_option maxRecDepth 100000
set_option linter.unusedVariables false
set_option linter.unusedSimpArgs false

noncomputable def T0 := conv Try.prog
theorem hT : TOk Try.prog T0 := fun _ _ h => h
theorem hm : Try.prog.follows .mixedOrders = true := by kernel_rfl
def W (n : Int) : Int := IntKind.wrap .i64 n
theorem W_def (n : Int) : W n = if n % 18446744073709551616 ≥ 9223372036854775808 then n % 18446744073709551616 - 18446744073709551616 else n % 18446744073709551616 := by
  unfold W IntKind.wrap
  simp [IntKind.bits, IntKind.signed]
theorem W_eq {n : Int} (h1 : -9223372036854775808 ≤ n) (h2 : n < 9223372036854775808) : W n = n := by
  rw [W_def]; split <;> omega
theorem shr_eq (x : Int) (k : Nat) {m : Nat} (hm : (2 : Int) ^ (min (Int.toNat k) 64) = m) : Int.fdiv x (2 ^ (min (Int.toNat k) 64)) = x / m := by
  rw [hm]; exact Int.fdiv_eq_ediv_of_nonneg _ (by omega)
theorem u64_nn (n : Int) : 0 ≤ IntKind.wrap .u64 n := by
  simp only [IntKind.wrap, IntKind.bits, IntKind.signed]
  simp
  omega
/-- the cells of a panel, of a point, of a span -/
def k9 (x : (Int × Int × Int) × (Int × Int × Int) × Int × Int × Int) : List SV := [(iv x.1.1), (iv x.1.2.1), (iv x.1.2.2), (iv x.2.1.1), (iv x.2.1.2.1), (iv x.2.1.2.2), (iv x.2.2.1), (iv x.2.2.2.1), (iv x.2.2.2.2)]
def k3 (x : Int × Int × Int) : List SV := [(iv x.1), (iv x.2.1), (iv x.2.2)]
def k2 (x : Int × Int) : List SV := [(iv x.1), (iv x.2)]
section
variable {cx : Cx} {k : List K} {s : LS} {base : Nat} {Q : Exit → Act → World → Prop}
theorem rt {fn : Func} (sts : List (St Try.prog)) (ads : List Adj) (ks : List Nat) (hb : cx.base = base) {res : SV} {nb : List BK}
    (h : retOf T0 fn.results.toList base [] ks (adjO ads (run T0 5000 k s (stO sts))) = some (res, nb, [], stB sts)) : Aw.Good Try.prog none 9 (bodyPost Try.prog fn (RR cx res nb [])) cx [] k s := ret_s hT hm sts ads ks hb h
theorem en (sts : List (St Try.prog)) (ads : List Adj) (ts ks : List Nat) (hb : cx.base = base) (body : Code) (k' : List K) (s' : LS) (m : Nat)
    (h : enterOf base ts ks (adjO ads (run T0 5000 k s (stO sts))) = some (body, k', s', stB sts)) (hg : Aw.Good Try.prog none 9 Q cx [] (.l body m :: k') s') : Aw.Good Try.prog none 9 Q cx [] k s := enter_s hT hm sts ads ts ks hb body k' s' m h hg
theorem ba {m : Nat} (sts : List (St Try.prog)) (ads : List Adj) (ts ks : List Nat) (hb : cx.base = base) (body : Code) (k' : List K) (s' : LS)
    (h : backOf base ts ks (adjO ads (run T0 5000 k s (stO sts))) = some (body, m, k', s', stB sts)) (hg : Aw.Good Try.prog none 9 Q cx [] (.l body m :: k') s') : Aw.Good Try.prog none 9 Q cx [] k s := back_s hT hm sts ads ts ks hb body k' s' h hg
theorem ga (sts : List (St Try.prog)) (ads : List Adj) (ts ks : List Nat) (hb : cx.base = base) (x : Code) (k' : List K) (s' : LS)
    (h : atOf base ts ks (adjO ads (run T0 5000 k s (stO sts))) = some (x, k', s', stB sts)) (hg : Aw.Good Try.prog none 9 Q cx [] (.c x :: k') s') : Aw.Good Try.prog none 9 Q cx [] k s := at_s hT hm sts ads ts ks hb x k' s' h hg
end

/-- facet/field.times -/
def F81 (a0 : Int × Int × Int) (a1 : Int) : Int × Int × Int :=
  ((W (a1 * a0.1)), (W (a1 * a0.2.1)), (W (a1 * a0.2.2)))

theorem C81 (a0 : Int × Int × Int) (a1 : Int) : Con Try.prog 81 [(.a (k3 a0)), (iv a1)] [] (.a (k3 (F81 a0 a1))) [] := by
  refine con_s Try.func81 (by kernel_rfl) fun cx hcx => ?_
  have e := Eq.refl (F81 a0 a1); conv at e => rhs; simp only [F81]
  rw [e]
  exact rt [] [] [] hcx (by kernel_rfl)

/-- facet/field.middle -/
def F95 (a0 : Int × Int × Int) (a1 : Int × Int × Int) : Int × Int × Int :=
  ((W (a0.1 + a1.1)), (W (a0.2.1 + a1.2.1)), (W (a0.2.2 + a1.2.2)))

theorem C95 (a0 : Int × Int × Int) (a1 : Int × Int × Int) : Con Try.prog 95 [(.a (k3 a0)), (.a (k3 a1))] [] (.a (k3 (F95 a0 a1))) [] := by
  refine con_s Try.func95 (by kernel_rfl) fun cx hcx => ?_
  have e := Eq.refl (F95 a0 a1); conv at e => rhs; simp only [F95]
  rw [e]
  exact rt [] [] [] hcx (by kernel_rfl)

/-- a panel's cells -/
def cP (x : (Int × Int × Int) × (Int × Int × Int) × Int × Int × Int) : List SV := [iv x.1.1, iv x.1.2.1, iv x.1.2.2, iv x.2.1.1, iv x.2.1.2.1, iv x.2.1.2.2, iv x.2.2.1, iv x.2.2.2.1, iv x.2.2.2.2]
def encP (x : (Int × Int × Int) × (Int × Int × Int) × Int × Int × Int) : Value := .agg #[.int .i64 x.1.1, .int .i64 x.1.2.1, .int .i64 x.1.2.2, .int .i64 x.2.1.1, .int .i64 x.2.1.2.1, .int .i64 x.2.1.2.2, .int .i64 x.2.2.1, .int .i64 x.2.2.2.1, .int .i64 x.2.2.2.2]
theorem encP_rel (ρ : Env) (x : (Int × Int × Int) × (Int × Int × Int) × Int × Int × Int) : Rel ρ (.a (cP x)) (encP x) := by
  simp only [Rel]; exact ⟨_, rfl, by simp [cP, Rels, Rel, iv]⟩
theorem cP_has (x : (Int × Int × Int) × (Int × Int × Int) × Int × Int × Int) (k : Nat) : ¬ (SV.a (cP x)).has k := by
  simp [cP, SV.has, SV.hasl, iv]
def yv (l : Nat) : Value := .func (.yield l) #[] #[]
def q1 (p : (Int × Int × Int) × (Int × Int × Int) × Int × Int × Int) : (Int × Int × Int) × (Int × Int × Int) × Int × Int × Int := (F81 p.1 2, F95 p.1 p.2.1, F95 p.2.2 p.1)
def q2 (p : (Int × Int × Int) × (Int × Int × Int) × Int × Int × Int) : (Int × Int × Int) × (Int × Int × Int) × Int × Int × Int := (F95 p.1 p.2.1, F81 p.2.1 2, F95 p.2.1 p.2.2)
def q3 (p : (Int × Int × Int) × (Int × Int × Int) × Int × Int × Int) : (Int × Int × Int) × (Int × Int × Int) × Int × Int × Int := (F95 p.2.2 p.1, F95 p.2.1 p.2.2, F81 p.2.2 2)
def q4 (p : (Int × Int × Int) × (Int × Int × Int) × Int × Int × Int) : (Int × Int × Int) × (Int × Int × Int) × Int × Int × Int := (F95 p.1 p.2.1, F95 p.2.1 p.2.2, F95 p.2.2 p.1)
/-- the parts of a panel, in the order in which they come -/
def cutL : Nat → (Int × Int × Int) × (Int × Int × Int) × Int × Int × Int → List ((Int × Int × Int) × (Int × Int × Int) × Int × Int × Int)
  | 0, p => [p]
  | d + 1, p => cutL d (q1 p) ++ (cutL d (q2 p) ++ (cutL d (q3 p) ++ cutL d (q4 p)))
theorem cutL_length : ∀ (d : Nat) (p : (Int × Int × Int) × (Int × Int × Int) × Int × Int × Int), (cutL d p).length = 4 ^ d
  | 0, p => rfl
  | d + 1, p => by simp only [cutL, List.length_append, cutL_length d, Nat.pow_succ]; omega

/-- what the visiting function keeps to -/
def VisitAt (l : Nat) (J : Nat → (Nat → Prop) → World → Prop) (Jx : (Nat → Prop) → World → Prop) (xs : List ((Int × Int × Int) × (Int × Int × Int) × Int × Int × Int)) (d : Nat) : Prop :=
  ∀ (p : (Int × Int × Int) × (Int × Int × Int) × Int × Int × Int) (i : Nat) (S : Nat → Prop) (W : World) (ρ : Env) (vs : List Value), Rels ρ [.a (cP p), iv d, .p 0 0, .p 1 0] vs →
    BRep ρ (fun b => W.heap.size ≤ b) W 0 (.live false false [.v (yv l)]) → BRep ρ (fun b => W.heap.size ≤ b) W 1 (.live false false [.f 94 [.p 0 0, .p 1 0]]) →
    (∀ k, k < 2 → ∀ b o n, ρ k = some (b, o, n) → ¬ S b) → J i S W → (∀ j x, (cutL d p)[j]? = some x → xs[i + j]? = some x) →
    Calls Try.prog 94 vs.toArray W (VR J Jx (i + (cutL d p).length) S W)

noncomputable def OY : Array Oper := match (codeAtD [1, 0, 1, 0, 0] [] (Try.f94.body.getD .skip)).1 with
  | .region _ ops _ => ops
  | _ => #[]
noncomputable def KY : List K := (codeAtD [1, 0, 1, 0, 0] [] (Try.f94.body.getD .skip)).2
noncomputable def OV : Array Oper := match (codeAtD [1, 1, 1, 1, 0, 1, 0, 0, 1, 1, 0, 0, 1, 0] [0] (Try.f94.body.getD .skip)).1 with
  | .region _ ops _ => ops
  | _ => #[]
noncomputable def KV (m : Nat) : List K := (codeAtD [1, 1, 1, 1, 0, 1, 0, 0, 1, 1, 0, 0, 1, 0] [m] (Try.f94.body.getD .skip)).2
noncomputable def oY : Oper := OY.toList.getD 2 default
noncomputable def oV : Oper := OV.toList.getD 4 default
noncomputable def callTs (o : Oper) : Array TypeId := match o.op with
  | .call c => c.argTypes
  | _ => #[]
theorem oY_op : oY.op = .call { callee := .value (.tmp 17), args := #[.tmp 18], argTypes := callTs oY } := by kernel_rfl
theorem oV_op : oV.op = .call { callee := .value (.tmp 66), args := #[.tmp 67, .tmp 69], argTypes := callTs oV } := by kernel_rfl
theorem oY_split : OY.toList = OY.toList.take 2 ++ oY :: OY.toList.drop 3 := by kernel_rfl
theorem oV_split : OV.toList = OV.toList.take 4 ++ oV :: OV.toList.drop 5 := by kernel_rfl
theorem ent94 : Enters Try.prog 94 := ent Try.func94 (by kernel_rfl) rfl
theorem ent93 : Enters Try.prog 93 := ent Try.func93 (by kernel_rfl) rfl

def zY (l : Nat) (p : (Int × Int × Int) × (Int × Int × Int) × Int × Int × Int) : LS := ⟨[.u, .u, .p 0 0, .u, .p 2 0, .u, .u, .u, .u, .u, .u, .u, .u, .u, .u, .u, .u, .u, .u, .u, .u, .u, .u, .u, .u, .u, .u, .u, .u, .u, .u, .u, .u, .u, .u, .u, .u, .u, .u, .u, .u, .u, .u, .u, .u, .u, .u, .u, .u, .u, .u, .u, .u, .u, .u, .u, .u, .u, .u, .u, .u, .u, .u, .u, .u, .u, .u, .u, .u, .u, .u, .u, .u], [.live false false [.v (yv l)], .live false false [.f 94 [.p 0 0, .p 1 0]], .live true false (cP p)]⟩
def zY1 (l : Nat) (p : (Int × Int × Int) × (Int × Int × Int) × Int × Int × Int) : LS := ⟨[.u, .u, .p 0 0, .u, .p 2 0, .u, .u, .u, .u, .u, .u, .u, .u, .u, .u, .u, .u, .v (yv l), .a (cP p), .u, .u, .u, .u, .u, .u, .u, .u, .u, .u, .u, .u, .u, .u, .u, .u, .u, .u, .u, .u, .u, .u, .u, .u, .u, .u, .u, .u, .u, .u, .u, .u, .u, .u, .u, .u, .u, .u, .u, .u, .u, .u, .u, .u, .u, .u, .u, .u, .u, .u, .u, .u, .u, .u], [.live false false [.v (yv l)], .live false false [.f 94 [.p 0 0, .p 1 0]], .live true false (cP p)]⟩
def zY3 (l : Nat) (p : (Int × Int × Int) × (Int × Int × Int) × Int × Int × Int) (b : Bool) : LS := ⟨[.u, .u, .p 0 0, .u, .p 2 0, .u, .v (.bool b), .u, .u, .u, .u, .u, .u, .u, .u, .u, .u, .v (yv l), .a (cP p), .v (.bool b), .u, .u, .u, .u, .u, .u, .u, .u, .u, .u, .u, .u, .u, .u, .u, .u, .u, .u, .u, .u, .u, .u, .u, .u, .u, .u, .u, .u, .u, .u, .u, .u, .u, .u, .u, .u, .u, .u, .u, .u, .u, .u, .u, .u, .u, .u, .u, .u, .u, .u, .u, .u, .u], [.live false false [.v (yv l)], .live false false [.f 94 [.p 0 0, .p 1 0]], .live false false (cP p)]⟩

def zV1 (l : Nat) (p : (Int × Int × Int) × (Int × Int × Int) × Int × Int × Int) (d : Int) : LS := ⟨[.u, iv d, .u, .p 1 0, .u, .u, .u, .u, .u, .u, .u, .u, .u, .u, .p 3 0, .u, .u, .u, .u, .u, .u, .u, .u, .u, .u, .u, .u, .u, .u, .u, .u, .u, .u, .u, .u, .u, .u, .u, .u, .u, .u, .u, .u, .u, .u, .u, .u, .u, .u, .u, .u, .u, .u, .u, .u, .u, .u, .u, .u, .u, .s 2 0 4 9, iv 4, iv 0, .u, .u, .u, .u, .u, .u, .u, .u, .u, .u], [.live false false [.v (yv l)], .live false false [.f 94 [.p 0 0, .p 1 0]], .live true false (cP (q1 p) ++ (cP (q2 p) ++ (cP (q3 p) ++ cP (q4 p)))), .live true false (cP (q1 p))]⟩
def zV11 (l : Nat) (p : (Int × Int × Int) × (Int × Int × Int) × Int × Int × Int) (d : Int) : LS := ⟨[.u, iv d, .u, .p 1 0, .u, .u, .u, .u, .u, .u, .u, .u, .u, .u, .p 3 0, .u, .u, .u, .u, .u, .u, .u, .u, .u, .u, .u, .u, .u, .u, .u, .u, .u, .u, .u, .u, .u, .u, .u, .u, .u, .u, .u, .u, .u, .u, .u, .u, .u, .u, .u, .u, .u, .u, .u, .u, .u, .u, .u, .u, .u, .s 2 0 4 9, iv 4, iv 0, .u, .u, .u, .f 94 [.p 0 0, .p 1 0], .a (cP (q1 p)), iv d, iv (W (d - 1)), .u, .u, .u], [.live false false [.v (yv l)], .live false false [.f 94 [.p 0 0, .p 1 0]], .live true false (cP (q1 p) ++ (cP (q2 p) ++ (cP (q3 p) ++ cP (q4 p)))), .live true false (cP (q1 p))]⟩
def zV13 (l : Nat) (p : (Int × Int × Int) × (Int × Int × Int) × Int × Int × Int) (d : Int) (b : Bool) : LS := ⟨[.u, iv d, .u, .p 1 0, .u, .u, .u, .u, .u, .u, .u, .u, .u, .u, .p 3 0, .u, .u, .u, .u, .u, .u, .u, .u, .u, .u, .u, .u, .u, .u, .u, .u, .u, .u, .u, .u, .u, .u, .u, .u, .u, .u, .u, .u, .u, .u, .u, .u, .u, .u, .u, .u, .u, .u, .u, .u, .u, .u, .u, .u, .u, .s 2 0 4 9, iv 4, iv 0, .u, .u, .u, .f 94 [.p 0 0, .p 1 0], .a (cP (q1 p)), iv d, iv (W (d - 1)), .v (.bool b), .v (.bool (!b)), .u], [.live false false [.v (yv l)], .live false false [.f 94 [.p 0 0, .p 1 0]], .live false false (cP (q1 p) ++ (cP (q2 p) ++ (cP (q3 p) ++ cP (q4 p)))), .live false false (cP (q1 p))]⟩

def zV2 (l : Nat) (p : (Int × Int × Int) × (Int × Int × Int) × Int × Int × Int) (d : Int) : LS := ⟨[.u, iv d, .u, .p 1 0, .u, .u, .u, .u, .u, .u, .u, .u, .u, .u, .p 4 0, .u, .u, .u, .u, .u, .u, .u, .u, .u, .u, .u, .u, .u, .u, .u, .u, .u, .u, .u, .u, .u, .u, .u, .u, .u, .u, .u, .u, .u, .u, .u, .u, .u, .u, .u, .u, .u, .u, .u, .u, .u, .u, .u, .u, .u, .s 2 0 4 9, iv 4, iv 1, .u, .u, .u, .u, .u, .u, .u, .u, .u, .u], [.live false false [.v (yv l)], .live false false [.f 94 [.p 0 0, .p 1 0]], .live false false (cP (q1 p) ++ (cP (q2 p) ++ (cP (q3 p) ++ cP (q4 p)))), .live false false (cP (q1 p)), .live true false (cP (q2 p))]⟩
def zV21 (l : Nat) (p : (Int × Int × Int) × (Int × Int × Int) × Int × Int × Int) (d : Int) : LS := ⟨[.u, iv d, .u, .p 1 0, .u, .u, .u, .u, .u, .u, .u, .u, .u, .u, .p 4 0, .u, .u, .u, .u, .u, .u, .u, .u, .u, .u, .u, .u, .u, .u, .u, .u, .u, .u, .u, .u, .u, .u, .u, .u, .u, .u, .u, .u, .u, .u, .u, .u, .u, .u, .u, .u, .u, .u, .u, .u, .u, .u, .u, .u, .u, .s 2 0 4 9, iv 4, iv 1, .u, .u, .u, .f 94 [.p 0 0, .p 1 0], .a (cP (q2 p)), iv d, iv (W (d - 1)), .u, .u, .u], [.live false false [.v (yv l)], .live false false [.f 94 [.p 0 0, .p 1 0]], .live false false (cP (q1 p) ++ (cP (q2 p) ++ (cP (q3 p) ++ cP (q4 p)))), .live false false (cP (q1 p)), .live true false (cP (q2 p))]⟩
def zV23 (l : Nat) (p : (Int × Int × Int) × (Int × Int × Int) × Int × Int × Int) (d : Int) (b : Bool) : LS := ⟨[.u, iv d, .u, .p 1 0, .u, .u, .u, .u, .u, .u, .u, .u, .u, .u, .p 4 0, .u, .u, .u, .u, .u, .u, .u, .u, .u, .u, .u, .u, .u, .u, .u, .u, .u, .u, .u, .u, .u, .u, .u, .u, .u, .u, .u, .u, .u, .u, .u, .u, .u, .u, .u, .u, .u, .u, .u, .u, .u, .u, .u, .u, .u, .s 2 0 4 9, iv 4, iv 1, .u, .u, .u, .f 94 [.p 0 0, .p 1 0], .a (cP (q2 p)), iv d, iv (W (d - 1)), .v (.bool b), .v (.bool (!b)), .u], [.live false false [.v (yv l)], .live false false [.f 94 [.p 0 0, .p 1 0]], .live false false (cP (q1 p) ++ (cP (q2 p) ++ (cP (q3 p) ++ cP (q4 p)))), .live false false (cP (q1 p)), .live false false (cP (q2 p))]⟩

def zV3 (l : Nat) (p : (Int × Int × Int) × (Int × Int × Int) × Int × Int × Int) (d : Int) : LS := ⟨[.u, iv d, .u, .p 1 0, .u, .u, .u, .u, .u, .u, .u, .u, .u, .u, .p 5 0, .u, .u, .u, .u, .u, .u, .u, .u, .u, .u, .u, .u, .u, .u, .u, .u, .u, .u, .u, .u, .u, .u, .u, .u, .u, .u, .u, .u, .u, .u, .u, .u, .u, .u, .u, .u, .u, .u, .u, .u, .u, .u, .u, .u, .u, .s 2 0 4 9, iv 4, iv 2, .u, .u, .u, .u, .u, .u, .u, .u, .u, .u], [.live false false [.v (yv l)], .live false false [.f 94 [.p 0 0, .p 1 0]], .live false false (cP (q1 p) ++ (cP (q2 p) ++ (cP (q3 p) ++ cP (q4 p)))), .live false false (cP (q1 p)), .live false false (cP (q2 p)), .live true false (cP (q3 p))]⟩
def zV31 (l : Nat) (p : (Int × Int × Int) × (Int × Int × Int) × Int × Int × Int) (d : Int) : LS := ⟨[.u, iv d, .u, .p 1 0, .u, .u, .u, .u, .u, .u, .u, .u, .u, .u, .p 5 0, .u, .u, .u, .u, .u, .u, .u, .u, .u, .u, .u, .u, .u, .u, .u, .u, .u, .u, .u, .u, .u, .u, .u, .u, .u, .u, .u, .u, .u, .u, .u, .u, .u, .u, .u, .u, .u, .u, .u, .u, .u, .u, .u, .u, .u, .s 2 0 4 9, iv 4, iv 2, .u, .u, .u, .f 94 [.p 0 0, .p 1 0], .a (cP (q3 p)), iv d, iv (W (d - 1)), .u, .u, .u], [.live false false [.v (yv l)], .live false false [.f 94 [.p 0 0, .p 1 0]], .live false false (cP (q1 p) ++ (cP (q2 p) ++ (cP (q3 p) ++ cP (q4 p)))), .live false false (cP (q1 p)), .live false false (cP (q2 p)), .live true false (cP (q3 p))]⟩
def zV33 (l : Nat) (p : (Int × Int × Int) × (Int × Int × Int) × Int × Int × Int) (d : Int) (b : Bool) : LS := ⟨[.u, iv d, .u, .p 1 0, .u, .u, .u, .u, .u, .u, .u, .u, .u, .u, .p 5 0, .u, .u, .u, .u, .u, .u, .u, .u, .u, .u, .u, .u, .u, .u, .u, .u, .u, .u, .u, .u, .u, .u, .u, .u, .u, .u, .u, .u, .u, .u, .u, .u, .u, .u, .u, .u, .u, .u, .u, .u, .u, .u, .u, .u, .u, .s 2 0 4 9, iv 4, iv 2, .u, .u, .u, .f 94 [.p 0 0, .p 1 0], .a (cP (q3 p)), iv d, iv (W (d - 1)), .v (.bool b), .v (.bool (!b)), .u], [.live false false [.v (yv l)], .live false false [.f 94 [.p 0 0, .p 1 0]], .live false false (cP (q1 p) ++ (cP (q2 p) ++ (cP (q3 p) ++ cP (q4 p)))), .live false false (cP (q1 p)), .live false false (cP (q2 p)), .live false false (cP (q3 p))]⟩

def zV4 (l : Nat) (p : (Int × Int × Int) × (Int × Int × Int) × Int × Int × Int) (d : Int) : LS := ⟨[.u, iv d, .u, .p 1 0, .u, .u, .u, .u, .u, .u, .u, .u, .u, .u, .p 6 0, .u, .u, .u, .u, .u, .u, .u, .u, .u, .u, .u, .u, .u, .u, .u, .u, .u, .u, .u, .u, .u, .u, .u, .u, .u, .u, .u, .u, .u, .u, .u, .u, .u, .u, .u, .u, .u, .u, .u, .u, .u, .u, .u, .u, .u, .s 2 0 4 9, iv 4, iv 3, .u, .u, .u, .u, .u, .u, .u, .u, .u, .u], [.live false false [.v (yv l)], .live false false [.f 94 [.p 0 0, .p 1 0]], .live false false (cP (q1 p) ++ (cP (q2 p) ++ (cP (q3 p) ++ cP (q4 p)))), .live false false (cP (q1 p)), .live false false (cP (q2 p)), .live false false (cP (q3 p)), .live true false (cP (q4 p))]⟩
def zV41 (l : Nat) (p : (Int × Int × Int) × (Int × Int × Int) × Int × Int × Int) (d : Int) : LS := ⟨[.u, iv d, .u, .p 1 0, .u, .u, .u, .u, .u, .u, .u, .u, .u, .u, .p 6 0, .u, .u, .u, .u, .u, .u, .u, .u, .u, .u, .u, .u, .u, .u, .u, .u, .u, .u, .u, .u, .u, .u, .u, .u, .u, .u, .u, .u, .u, .u, .u, .u, .u, .u, .u, .u, .u, .u, .u, .u, .u, .u, .u, .u, .u, .s 2 0 4 9, iv 4, iv 3, .u, .u, .u, .f 94 [.p 0 0, .p 1 0], .a (cP (q4 p)), iv d, iv (W (d - 1)), .u, .u, .u], [.live false false [.v (yv l)], .live false false [.f 94 [.p 0 0, .p 1 0]], .live false false (cP (q1 p) ++ (cP (q2 p) ++ (cP (q3 p) ++ cP (q4 p)))), .live false false (cP (q1 p)), .live false false (cP (q2 p)), .live false false (cP (q3 p)), .live true false (cP (q4 p))]⟩
def zV43 (l : Nat) (p : (Int × Int × Int) × (Int × Int × Int) × Int × Int × Int) (d : Int) (b : Bool) : LS := ⟨[.u, iv d, .u, .p 1 0, .u, .u, .u, .u, .u, .u, .u, .u, .u, .u, .p 6 0, .u, .u, .u, .u, .u, .u, .u, .u, .u, .u, .u, .u, .u, .u, .u, .u, .u, .u, .u, .u, .u, .u, .u, .u, .u, .u, .u, .u, .u, .u, .u, .u, .u, .u, .u, .u, .u, .u, .u, .u, .u, .u, .u, .u, .u, .s 2 0 4 9, iv 4, iv 3, .u, .u, .u, .f 94 [.p 0 0, .p 1 0], .a (cP (q4 p)), iv d, iv (W (d - 1)), .v (.bool b), .v (.bool (!b)), .u], [.live false false [.v (yv l)], .live false false [.f 94 [.p 0 0, .p 1 0]], .live false false (cP (q1 p) ++ (cP (q2 p) ++ (cP (q3 p) ++ cP (q4 p)))), .live false false (cP (q1 p)), .live false false (cP (q2 p)), .live false false (cP (q3 p)), .live false false (cP (q4 p))]⟩

def vb : SV → Bool
  | .v _ | .b _ => true
  | _ => false
theorem rels_plain {ρ ρ' : Env} : ∀ {l : List SV} {vs us : List Value}, l.all vb = true → Rels ρ l vs → Rels ρ' l us → vs = us
  | [], [], [], _, _, _ => rfl
  | [], _ :: _, _, _, h, _ => by simp [Rels] at h
  | [], [], _ :: _, _, _, h => by simp [Rels] at h
  | _ :: _, [], _, _, h, _ => by simp [Rels] at h
  | _ :: _, _ :: _, [], _, _, h => by simp [Rels] at h
  | x :: l, y :: vs, z :: us, hp, h1, h2 => by
    simp only [List.all_cons, Bool.and_eq_true] at hp
    simp only [Rels] at h1 h2
    rw [rels_plain hp.2 h1.2 h2.2]
    have : y = z := by
      cases x <;> simp only [vb, Bool.false_eq_true, false_and] at hp
      · have a1 := h1.1; have a2 := h2.1; simp only [Rel] at a1 a2; rw [a1, a2]
      · have a1 := h1.1; have a2 := h2.1; simp only [Rel] at a1 a2; rw [a1, a2]
    rw [this]
theorem rels_cons {ρ : Env} {x : SV} {l : List SV} {y : Value} {m : List Value} (h : Rel ρ x y) (h' : Rels ρ l m) : Rels ρ (x :: l) (y :: m) := by simp only [Rels]; exact ⟨h, h'⟩
theorem sub_app {α : Type} {xs A B : List α} {i : Nat} (h : ∀ j x, (A ++ B)[j]? = some x → xs[i + j]? = some x) : (∀ j x, A[j]? = some x → xs[i + j]? = some x) ∧ (∀ j x, B[j]? = some x → xs[i + A.length + j]? = some x) :=
  ⟨fun j x hj => h j x (by rw [List.getElem?_append_left (List.getElem?_eq_some_iff.1 hj).1]; exact hj), fun j x hj => by
    have := h (A.length + j) x (by rw [List.getElem?_append_right (by omega), Nat.add_sub_cancel_left]; exact hj)
    rwa [← Nat.add_assoc] at this⟩

section
variable {l : Nat} {J : Nat → (Nat → Prop) → World → Prop} {Jx : (Nat → Prop) → World → Prop} {xs : List ((Int × Int × Int) × (Int × Int × Int) × Int × Int × Int)}

/-- the end of a visit -/
theorem visit_end (hJ : GrowsJ J) (hX : GrowsX Jx) {m m' : Nat} {W0 : World} {S : Nat → Prop} {cx : Cx} {b : Bool} (h1 : b = true → ∃ Sc, Seg J W0 S m' cx Sc) (h2 : b = false → SegX Jx W0 S cx) (hm : m' = m) (Wd : World) (hb : Below cx.w.heap.size cx.w Wd) :
    VR J Jx m S W0 (.returned (.bool b)) Wd := by
  subst hm
  cases b with
  | true =>
    obtain ⟨Sc, h⟩ := h1 rfl
    exact .inl ⟨rfl, Sc, hJ _ _ _ _ h.j hb, h.kept.grow hb, h.sub⟩
  | false =>
    have h := h2 rfl
    obtain ⟨Sc, hj⟩ := h.j
    exact .inr ⟨rfl, Sc, hX _ _ _ hj hb, h.kept.grow hb⟩

theorem visit0 (hJ : GrowsJ J) (hX : GrowsX Jx) (hB : BoundJ J) (hY : ∀ i x S W1, xs[i]? = some x → J i S W1 → YieldAt (Fw none) 9 Try.prog l #[encP x] W1 (YR J Jx i S W1)) : VisitAt l J Jx xs 0 := by
  intro p i S Wd ρ vs hargs hb0 hb1 hS hj hxs
  have hx : xs[i]? = some p := by have := hxs 0 p rfl; simpa using this
  refine calls_of_good (n := 9) (bs := [.live false false [.v (yv l)], .live false false [.f 94 [.p 0 0, .p 1 0]]]) Try.func94 rfl (by show 4 ≤ Try.f94.ntmps; decide) (by kernel_rfl) ⟨rfl, rfl, trivial⟩ (by kernel_rfl) (fun i => by rcases i with _ | _ | i <;> simp [BK.own]) (by kernel_rfl) hargs (fun i => by rcases i with _ | _ | i <;> first | exact hb0 | exact hb1 | simp [BRep]) (fun i => by rcases i with _ | _ | i <;> simp [BK.pl]) (fun cx hbase hw hρ hfz hown => ?_)
  subst hw
  have hd : ((((0 : Nat) : Int) : Int) == 0) = true := rfl
  refine at_of (T := T0) hT hm (f := 5000) (orc := [.d true, .stop 2]) [] [2, 4] [2] hbase (x := .region 2 OY false) (k' := KY) (s' := zY l p)
    (obs := [.eq ((((0 : Nat) : Int) : Int) == 0) true]) (by kernel_rfl) ⟨hd, trivial⟩ ?_
  have hseg : Seg J cx.w S i cx S := ⟨hj, Kept.refl _ _, fun b h => .inl h, fun k b o n hk h => hS k (by rw [hbase] at hk; exact hk) b o n ((hρ k).symm.trans h), hown, fun b o ho => by rw [hfz b] at ho; cases ho⟩
  refine visit_of (Jx := Jx) hT hJ hB (m := i + 1) hseg (OY.toList.take 2) oY (OY.toList.drop 3) oY_split (s1 := zY1 l p) (by kernel_rfl) (by kernel_rfl) 19 (by kernel_rfl) (of_decide_eq_true (by kernel_rfl)) 2 hbase (by kernel_rfl) (by kernel_rfl)
    (fun ρ a W2 hrep hsafe hj2 K Q' hK => ?_) (zY3 l p) (fun b => by kernel_rfl) (fun b cx' hb' h1 h2 => ?_)
  · have e1 := hrep.sl 17
    have e2 := hrep.sl 18
    refine op_yield oY_op (l := l) (vs := #[encP p]) ?_ ?_ (hY i p S W2 hx hj2) hK
    · exact e1
    · have : a.eval (.tmp 18) = encP p := by
        have e3 : Rel ρ (.a (cP p)) (a.tmps.getD 18 undef) := e2
        simp only [Rel] at e3
        obtain ⟨vs, hv, hr⟩ := e3
        have h' := encP_rel ρ p
        simp only [Rel] at h'
        obtain ⟨us, hu, hr'⟩ := h'
        show a.tmps.getD 18 undef = encP p
        rw [hv, hu]
        have : vs = us := rels_plain (by simp [cP, vb, iv]) hr hr'
        rw [this]
      simp [this]
  · have hown' : ∀ c, ¬ cx'.own c := by
      cases b with
      | true => obtain ⟨Sc, h⟩ := h1 rfl; exact h.own
      | false => exact (h2 rfl).own
    exact retB_of (T := T0) hT hm (f := 5000) (orc := []) (b := b) (obs := []) (by cases b <;> kernel_rfl) trivial hown' (fun Wd hW => visit_end hJ hX h1 h2 rfl Wd hW)

/-- a visit within a visit -/
theorem vcall {d : Nat} (ih : VisitAt l J Jx xs d) {cx : Cx} {N : Nat} {D : List Deferred} {ρ : Env} {s : FS} {a : Act} {Wd : World} (hrep : Rep cx N D ρ s a Wd) {p : (Int × Int × Int) × (Int × Int × Int) × Int × Int × Int} {i : Nat} {S : Nat → Prop}
    (hdl : d < 1000) (e1 : s.sl 66 = .f 94 [.p 0 0, .p 1 0]) (e2 : s.sl 67 = .a (cP p)) (e3 : s.sl 69 = iv (W (((d + 1 : Nat) : Int) - 1))) (e4 : s.bk 0 = .live false false [.v (yv l)]) (e5 : s.bk 1 = .live false false [.f 94 [.p 0 0, .p 1 0]])
    (hS : ∀ k, k < 2 → ∀ b o n, ρ k = some (b, o, n) → ¬ S b) (hj : J i S Wd) (hxs : ∀ j x, (cutL d p)[j]? = some x → xs[i + j]? = some x)
    (K : Act → World → Prop) (Q : Exit → Act → World → Prop) (hK : ∀ e Wd', VR J Jx (i + (cutL d p).length) S Wd e Wd' → ∃ v, e = .returned v ∧ K (a.put oV.dst v) Wd') : oV.wpIn (Fw none) 9 Try.prog a Wd K Q := by
  have r1 := hrep.sl 66
  have r2 := hrep.sl 67
  have r3 := hrep.sl 69
  rw [e1] at r1; rw [e2] at r2; rw [e3] at r3
  have hw : W (((d + 1 : Nat) : Int) - 1) = (d : Int) := by rw [W_eq] <;> omega
  rw [hw] at r3
  simp only [Rel] at r1
  obtain ⟨vs, hv, hc⟩ := r1
  have b0 := hrep.bk 0
  have b1 := hrep.bk 1
  rw [e4] at b0; rw [e5] at b1
  refine op_call oV_op (g := 94) (caps := vs) hv ent94 (ih p i S Wd ρ _ ?_ b0.ro b1.ro hS hj hxs) hK
  exact rels_cons r2 (rels_cons r3 hc)

theorem visitS (hJ : GrowsJ J) (hX : GrowsX Jx) (hB : BoundJ J) {d : Nat} (hdl : d < 1000) (ih : VisitAt l J Jx xs d) : VisitAt l J Jx xs (d + 1) := by
  intro p i S Wd ρ vs hargs hb0 hb1 hS hj hxs
  obtain ⟨hx1, hr1⟩ := sub_app hxs
  obtain ⟨hx2, hr2⟩ := sub_app hr1
  obtain ⟨hx3, hx4⟩ := sub_app hr2
  refine calls_of_good (n := 9) (bs := [.live false false [.v (yv l)], .live false false [.f 94 [.p 0 0, .p 1 0]]]) Try.func94 rfl (by show 4 ≤ Try.f94.ntmps; decide) (by kernel_rfl) ⟨rfl, rfl, trivial⟩ (by kernel_rfl) (fun i => by rcases i with _ | _ | i <;> simp [BK.own]) (by kernel_rfl) hargs (fun i => by rcases i with _ | _ | i <;> first | exact hb0 | exact hb1 | simp [BRep]) (fun i => by rcases i with _ | _ | i <;> simp [BK.pl]) (fun cx hbase hw hρ hfz hown => ?_)
  subst hw
  have hd : ((((d + 1 : Nat) : Int) : Int) == 0) = false := by rw [beq_eq_false_iff_ne]; omega
  have hseg : Seg J cx.w S i cx S := ⟨hj, Kept.refl _ _, fun b h => .inl h, fun k b o n hk h => hS k (by rw [hbase] at hk; exact hk) b o n ((hρ k).symm.trans h), hown, fun b o ho => by rw [hfz b] at ho; cases ho⟩
  refine at_of (T := T0) hT hm (f := 5000) (orc := [.d false, .call [] (.a [(iv (F81 p.1 2).1), (iv (F81 p.1 2).2.1), (iv (F81 p.1 2).2.2)]) [], .call [] (.a [(iv (F81 p.2.1 2).1), (iv (F81 p.2.1 2).2.1), (iv (F81 p.2.1 2).2.2)]) [], .call [] (.a [(iv (F81 p.2.2 2).1), (iv (F81 p.2.2 2).2.1), (iv (F81 p.2.2 2).2.2)]) [], .call [] (.a [(iv (F95 p.1 p.2.1).1), (iv (F95 p.1 p.2.1).2.1), (iv (F95 p.1 p.2.1).2.2)]) [], .call [] (.a [(iv (F95 p.2.1 p.2.2).1), (iv (F95 p.2.1 p.2.2).2.1), (iv (F95 p.2.1 p.2.2).2.2)]) [], .call [] (.a [(iv (F95 p.2.2 p.1).1), (iv (F95 p.2.2 p.1).2.1), (iv (F95 p.2.2 p.1).2.2)]) [], .un 4, .d true, .stop 8]) [] [1, 3, 14, 60, 61, 62] [9, 10] hbase (x := .region 8 OV false) (k' := KV 4) (s' := zV1 l p (d + 1 : Nat))
    (obs := [.eq ((((d + 1 : Nat) : Int) : Int) == 0) false, .call 81 [(.a [(iv p.1.1), (iv p.1.2.1), (iv p.1.2.2)]), (iv 2)] [] (.a [(iv (F81 p.1 2).1), (iv (F81 p.1 2).2.1), (iv (F81 p.1 2).2.2)]) [], .call 81 [(.a [(iv p.2.1.1), (iv p.2.1.2.1), (iv p.2.1.2.2)]), (iv 2)] [] (.a [(iv (F81 p.2.1 2).1), (iv (F81 p.2.1 2).2.1), (iv (F81 p.2.1 2).2.2)]) [], .call 81 [(.a [(iv p.2.2.1), (iv p.2.2.2.1), (iv p.2.2.2.2)]), (iv 2)] [] (.a [(iv (F81 p.2.2 2).1), (iv (F81 p.2.2 2).2.1), (iv (F81 p.2.2 2).2.2)]) [], .call 95 [(.a [(iv p.1.1), (iv p.1.2.1), (iv p.1.2.2)]), (.a [(iv p.2.1.1), (iv p.2.1.2.1), (iv p.2.1.2.2)])] [] (.a [(iv (F95 p.1 p.2.1).1), (iv (F95 p.1 p.2.1).2.1), (iv (F95 p.1 p.2.1).2.2)]) [], .call 95 [(.a [(iv p.2.1.1), (iv p.2.1.2.1), (iv p.2.1.2.2)]), (.a [(iv p.2.2.1), (iv p.2.2.2.1), (iv p.2.2.2.2)])] [] (.a [(iv (F95 p.2.1 p.2.2).1), (iv (F95 p.2.1 p.2.2).2.1), (iv (F95 p.2.1 p.2.2).2.2)]) [], .call 95 [(.a [(iv p.2.2.1), (iv p.2.2.2.1), (iv p.2.2.2.2)]), (.a [(iv p.1.1), (iv p.1.2.1), (iv p.1.2.2)])] [] (.a [(iv (F95 p.2.2 p.1).1), (iv (F95 p.2.2 p.1).2.1), (iv (F95 p.2.2 p.1).2.2)]) [], .eq true true, .pr (0 ≤ (0 : Int) ∧ (0 : Int) < ((4 : Nat) : Int))]) (by kernel_rfl) ⟨hd, (C81 p.1 2), (C81 p.2.1 2), (C81 p.2.2 2), (C95 p.1 p.2.1), (C95 p.2.1 p.2.2), (C95 p.2.2 p.1), rfl, (show 0 ≤ (0 : Int) ∧ (0 : Int) < ((4 : Nat) : Int) from by decide), trivial⟩ ?_
  refine visit_of (Jx := Jx) hT hJ hB (m := i + (cutL d (q1 p)).length) hseg (OV.toList.take 4) oV (OV.toList.drop 5) oV_split (s1 := zV11 l p (d + 1 : Nat)) (by kernel_rfl) (by kernel_rfl) 70 (by kernel_rfl) (of_decide_eq_true (by kernel_rfl)) 2 hbase (by kernel_rfl) (by kernel_rfl)
    (fun ρ a W2 hrep hsafe hj2 K Q' hK => vcall ih hrep hdl rfl rfl rfl rfl rfl (fun k hk b o n h => (match k, hk, h with | 0, _, h => hsafe 0 _ _ _ rfl b o n h | 1, _, h => hsafe 1 _ _ _ rfl b o n h)) hj2 (fun j x hj => hx1 j x hj) K Q' hK) (zV13 l p (d + 1 : Nat)) (fun b => by kernel_rfl) (fun b cx hbase h1 h2 => ?_)
  cases b with
  | false =>
    exact retB_of (T := T0) hT hm (f := 5000) (orc := [.d true]) (b := false) (obs := [.eq (!false) true]) (by kernel_rfl) ⟨rfl, trivial⟩ (h2 rfl).own (fun W hW => visit_end (m' := i + (cutL (d + 1) p).length) hJ hX (fun h => by cases h) h2 rfl W hW)
  | true =>
    obtain ⟨Sc, hseg⟩ := h1 rfl
    refine at_of (T := T0) hT hm (f := 5000) (orc := [.d false, .un 0, .d true, .stop 8]) [] [1, 3, 14, 60, 61, 62] [4] hbase (x := .region 8 OV false) (k' := KV 3) (s' := zV2 l p (d + 1 : Nat))
      (obs := [.eq (!true) false, .eq (decide ((1 : Int) < 4)) true, .pr (0 ≤ (1 : Int) ∧ (1 : Int) < ((4 : Nat) : Int))]) (by kernel_rfl) ⟨rfl, rfl, (show 0 ≤ (1 : Int) ∧ (1 : Int) < ((4 : Nat) : Int) from by decide), trivial⟩ ?_
    refine visit_of (Jx := Jx) hT hJ hB (m := i + (cutL d (q1 p)).length + (cutL d (q2 p)).length) hseg (OV.toList.take 4) oV (OV.toList.drop 5) oV_split (s1 := zV21 l p (d + 1 : Nat)) (by kernel_rfl) (by kernel_rfl) 70 (by kernel_rfl) (of_decide_eq_true (by kernel_rfl)) 4 hbase (by kernel_rfl) (by kernel_rfl)
      (fun ρ a W2 hrep hsafe hj2 K Q' hK => vcall ih hrep hdl rfl rfl rfl rfl rfl (fun k hk b o n h => (match k, hk, h with | 0, _, h => hsafe 0 _ _ _ rfl b o n h | 1, _, h => hsafe 1 _ _ _ rfl b o n h)) hj2 (fun j x hj => hx2 j x hj) K Q' hK) (zV23 l p (d + 1 : Nat)) (fun b => by kernel_rfl) (fun b cx hbase h1 h2 => ?_)
    cases b with
    | false =>
      exact retB_of (T := T0) hT hm (f := 5000) (orc := [.d true]) (b := false) (obs := [.eq (!false) true]) (by kernel_rfl) ⟨rfl, trivial⟩ (h2 rfl).own (fun W hW => visit_end (m' := i + (cutL (d + 1) p).length) hJ hX (fun h => by cases h) h2 rfl W hW)
    | true =>
      obtain ⟨Sc, hseg⟩ := h1 rfl
      refine at_of (T := T0) hT hm (f := 5000) (orc := [.d false, .un 0, .d true, .stop 8]) [] [1, 3, 14, 60, 61, 62] [5] hbase (x := .region 8 OV false) (k' := KV 2) (s' := zV3 l p (d + 1 : Nat))
        (obs := [.eq (!true) false, .eq (decide ((2 : Int) < 4)) true, .pr (0 ≤ (2 : Int) ∧ (2 : Int) < ((4 : Nat) : Int))]) (by kernel_rfl) ⟨rfl, rfl, (show 0 ≤ (2 : Int) ∧ (2 : Int) < ((4 : Nat) : Int) from by decide), trivial⟩ ?_
      refine visit_of (Jx := Jx) hT hJ hB (m := i + (cutL d (q1 p)).length + (cutL d (q2 p)).length + (cutL d (q3 p)).length) hseg (OV.toList.take 4) oV (OV.toList.drop 5) oV_split (s1 := zV31 l p (d + 1 : Nat)) (by kernel_rfl) (by kernel_rfl) 70 (by kernel_rfl) (of_decide_eq_true (by kernel_rfl)) 5 hbase (by kernel_rfl) (by kernel_rfl)
        (fun ρ a W2 hrep hsafe hj2 K Q' hK => vcall ih hrep hdl rfl rfl rfl rfl rfl (fun k hk b o n h => (match k, hk, h with | 0, _, h => hsafe 0 _ _ _ rfl b o n h | 1, _, h => hsafe 1 _ _ _ rfl b o n h)) hj2 (fun j x hj => hx3 j x hj) K Q' hK) (zV33 l p (d + 1 : Nat)) (fun b => by kernel_rfl) (fun b cx hbase h1 h2 => ?_)
      cases b with
      | false =>
        exact retB_of (T := T0) hT hm (f := 5000) (orc := [.d true]) (b := false) (obs := [.eq (!false) true]) (by kernel_rfl) ⟨rfl, trivial⟩ (h2 rfl).own (fun W hW => visit_end (m' := i + (cutL (d + 1) p).length) hJ hX (fun h => by cases h) h2 rfl W hW)
      | true =>
        obtain ⟨Sc, hseg⟩ := h1 rfl
        refine at_of (T := T0) hT hm (f := 5000) (orc := [.d false, .un 0, .d true, .stop 8]) [] [1, 3, 14, 60, 61, 62] [6] hbase (x := .region 8 OV false) (k' := KV 1) (s' := zV4 l p (d + 1 : Nat))
          (obs := [.eq (!true) false, .eq (decide ((3 : Int) < 4)) true, .pr (0 ≤ (3 : Int) ∧ (3 : Int) < ((4 : Nat) : Int))]) (by kernel_rfl) ⟨rfl, rfl, (show 0 ≤ (3 : Int) ∧ (3 : Int) < ((4 : Nat) : Int) from by decide), trivial⟩ ?_
        refine visit_of (Jx := Jx) hT hJ hB (m := i + (cutL d (q1 p)).length + (cutL d (q2 p)).length + (cutL d (q3 p)).length + (cutL d (q4 p)).length) hseg (OV.toList.take 4) oV (OV.toList.drop 5) oV_split (s1 := zV41 l p (d + 1 : Nat)) (by kernel_rfl) (by kernel_rfl) 70 (by kernel_rfl) (of_decide_eq_true (by kernel_rfl)) 6 hbase (by kernel_rfl) (by kernel_rfl)
          (fun ρ a W2 hrep hsafe hj2 K Q' hK => vcall ih hrep hdl rfl rfl rfl rfl rfl (fun k hk b o n h => (match k, hk, h with | 0, _, h => hsafe 0 _ _ _ rfl b o n h | 1, _, h => hsafe 1 _ _ _ rfl b o n h)) hj2 (fun j x hj => hx4 j x hj) K Q' hK) (zV43 l p (d + 1 : Nat)) (fun b => by kernel_rfl) (fun b cx hbase h1 h2 => ?_)
        cases b with
        | false =>
          exact retB_of (T := T0) hT hm (f := 5000) (orc := [.d true]) (b := false) (obs := [.eq (!false) true]) (by kernel_rfl) ⟨rfl, trivial⟩ (h2 rfl).own (fun W hW => visit_end (m' := i + (cutL (d + 1) p).length) hJ hX (fun h => by cases h) h2 rfl W hW)
        | true =>
          exact retB_of (T := T0) hT hm (f := 5000) (orc := [.d false, .un 0, .d false]) (b := true) (obs := [.eq (!true) false, .eq (decide ((4 : Int) < 4)) false]) (by kernel_rfl) ⟨rfl, rfl, trivial⟩ (h1 rfl).choose_spec.own (fun W hW => visit_end hJ hX h1 h2 (by simp only [cutL, List.length_append]; omega) W hW)

theorem visit_all (hJ : GrowsJ J) (hX : GrowsX Jx) (hB : BoundJ J) (hY : ∀ i x S W1, xs[i]? = some x → J i S W1 → YieldAt (Fw none) 9 Try.prog l #[encP x] W1 (YR J Jx i S W1)) : ∀ d, d < 1000 → VisitAt l J Jx xs d
  | 0, _ => visit0 hJ hX hB hY
  | d + 1, h => visitS hJ hX hB (by omega) (visit_all hJ hX hB hY d (by omega))
end

noncomputable def O2 : Array Oper := match (codeAtD [1, 1, 1] [] (Try.f93.body.getD .skip)).1 with
  | .region _ ops _ => ops
  | _ => #[]
noncomputable def o2 : Oper := O2.toList.getD 3 default
theorem o2_op : o2.op = .call { callee := .value (.tmp 6), args := #[.tmp 7, .tmp 8], argTypes := callTs o2 } := by kernel_rfl
theorem o2_split : O2.toList = O2.toList.take 3 ++ [o2] := by kernel_rfl
def z2 (l : Nat) (p : (Int × Int × Int) × (Int × Int × Int) × Int × Int × Int) (d : Int) : LS := ⟨[.u, .p 0 0, .p 1 0, .u, .p 3 0, .u, .u, .u, .u, .u], [.live false false (cP p), .live false false [iv d], .live true false [.v (yv l)], .live true false [.f 94 [.p 2 0, .p 3 0]]]⟩
def z21 (l : Nat) (p : (Int × Int × Int) × (Int × Int × Int) × Int × Int × Int) (d : Int) : LS := ⟨[.u, .p 0 0, .p 1 0, .u, .p 3 0, .u, .f 94 [.p 2 0, .p 3 0], .a (cP p), iv d, .u], [.live false false (cP p), .live false false [iv d], .live true false [.v (yv l)], .live true false [.f 94 [.p 2 0, .p 3 0]]]⟩

/-- cut is an iterator over a panel's parts -/
theorem iter_cut (p : (Int × Int × Int) × (Int × Int × Int) × Int × Int × Int) (d : Nat) (hd : d < 1000) : Iter Try.prog 93 [.p 0 0, .p 1 0] [.live false false (cP p), .live false false [iv (d : Nat)]] encP (cutL d p) := by
  refine ⟨ent93, fun ρ Wd lb hcaps hbs hpl l J Jx S0 hJ hX hB hY h0 => ?_⟩
  have hcon : Calls Try.prog 93 ((Value.func (.yield l) #[] #[]) :: lb).toArray Wd fun e Wd' => (∃ v, e = .returned v) ∧ ∃ S', (J (cutL d p).length S' Wd' ∨ Jx S' Wd') ∧ Kept Wd S0 Wd' := by
    refine calls_of_good (n := 9) (args := [.v (yv l), .p 0 0, .p 1 0]) (bs := [.live false false (cP p), .live false false [iv (d : Nat)]]) Try.func93 rfl (by show 3 ≤ Try.f93.ntmps; decide) (by kernel_rfl) ⟨rfl, rfl, trivial⟩ (by kernel_rfl) (fun i => by rcases i with _ | _ | i <;> simp [BK.own]) (by kernel_rfl) ⟨rfl, hcaps⟩ hbs hpl (fun cx hbase hw hρ hfz hown => ?_)
    subst hw
    refine at_of (T := T0) hT hm (f := 5000) (orc := [.stop 3]) [] [1, 2, 4] [2, 3] hbase (x := .region 3 O2 false) (k' := []) (s' := z2 l p d)
      (obs := []) (by kernel_rfl) trivial ?_
    intro ρ a Wd hrep
    simp only [cont]
    refine wpIn_region ?_
    have hsz : O2.size = (O2.toList.take 3).length + (0 + 1) := by kernel_rfl
    have hget : ∀ j, O2[j]? = (O2.toList.take 3 ++ [o2])[j]? := fun j => by rw [← o2_split, Array.getElem?_toList]
    rw [hsz, range_split]
    refine ops_pre hT (O2.toList.take 3) 0 (z2 l p d) (z21 l p d) [] [] _ [] (evS_spec (T := T0) (obs := []) (by kernel_rfl)).choose_spec trivial (fun j o' hj => ?_) ρ a Wd hrep (fun ρ1 a1 W1 hrep1 hl1 => ?_)
    · rw [hget, Nat.zero_add, List.getElem?_append_left (List.getElem?_eq_some_iff.1 hj).1]; exact hj
    rw [wpOpsIn_cons]
    unfold wpOpIn
    have ho : O2[(O2.toList.take 3).length]? = some o2 := by rw [hget, List.getElem?_append_right (Nat.le_refl _)]; simp
    rw [ho]
    have hw : Region.wanted o2 (yielded O2 a1.tmps) = true := by
      have hg : o2.guard = none := by kernel_rfl
      unfold Region.wanted; rw [hg]
    simp only [hw, if_true]
    have hbel : Below cx.w.heap.size cx.w W1 := by
      have := hrep1.kept
      exact ⟨this.os, this.tape, this.output, this.size, fun k hk => this.block k hk (hown k)⟩
    have r1 := hrep1.sl 6
    have r2 := hrep1.sl 7
    have r3 := hrep1.sl 8
    have r1' : Rel ρ1 (.f 94 [.p 2 0, .p 3 0]) (a1.tmps.getD 6 undef) := r1
    have r2' : Rel ρ1 (.a (cP p)) (a1.tmps.getD 7 undef) := r2
    have r3' : Rel ρ1 (iv (d : Nat)) (a1.tmps.getD 8 undef) := r3
    simp only [Rel] at r1'
    obtain ⟨vs, hv, hc⟩ := r1'
    have own2 : ∀ b, cx.mine b → cx.w.heap.size ≤ b := fun b hb => hb.elim id (fun h => (hown b h).elim)
    have b2 := (renB_rep (ks := [2, 3]) (i := 0) (m := false) (x := .live true false [.v (yv l)]) (y := .live false false [.v (yv l)]) (M' := fun b => W1.heap.size ≤ b) rfl rfl trivial (hrep1.bk 2) (fun _ h => by cases h) (fun _ b hlt _ hM => absurd hM (Nat.not_le_of_lt hlt))).1
    have b3 := (renB_rep (ks := [2, 3]) (i := 1) (m := false) (x := .live true false [.f 94 [.p 2 0, .p 3 0]]) (y := .live false false [.f 94 [.p 0 0, .p 1 0]]) (M' := fun b => W1.heap.size ≤ b) rfl rfl trivial (hrep1.bk 3) (fun _ h => by cases h) (fun _ b hlt _ hM => absurd hM (Nat.not_le_of_lt hlt))).1
    have hS2 : ∀ k, k < 2 → ∀ b o n, envOf ρ1 [2, 3] k = some (b, o, n) → ¬ S0 b := fun k hk b o n h hSb => by
      have hlt := hB _ _ _ h0 b hSb
      have own : ∀ j, (z21 l p d).fs.bk j ≠ .un → ((z21 l p d).fs.bk j).own → ρ1 j = some (b, o, n) → False := fun j _ hj hρ => by
        have hb := hrep1.bk j
        cases hx : (z21 l p d).fs.bk j with
        | un => rw [hx] at hj; exact hj
        | dead => rw [hx] at hj; exact hj
        | map es =>
          rw [hx] at hb
          obtain ⟨b', n', arr, q1, q2, _⟩ := hb
          rw [hρ] at q1; cases q1
          have := own2 b q2; omega
        | live ow sy cs => cases ow with
          | false => rw [hx] at hj; exact hj
          | true =>
            rw [hx] at hb
            rcases hb with ⟨q, _⟩ | ⟨b', vs, rest, ty, q1, q2, _⟩
            · rw [hρ] at q; cases q
            · rw [hρ] at q1; cases q1
              have := own2 b q2; omega
      match k, hk with
      | 0, _ => exact own 2 (by simp [z21, LS.fs]) (by trivial) h
      | 1, _ => exact own 3 (by simp [z21, LS.fs]) (by trivial) h
    refine op_call o2_op (g := 94) (caps := vs) hv ent94 ((visit_all (l := l) hJ hX hB hY d hd) p 0 S0 W1 (envOf ρ1 [2, 3]) (a1.tmps.getD 7 undef :: a1.tmps.getD 8 undef :: vs) ?_ b2 b3 hS2 (hJ _ _ _ _ h0 hbel) (fun j x hj => by rw [Nat.zero_add]; exact hj)) (fun e Wd' hR => ?_)
    · exact rels_cons (ren_rel (ks := [2, 3]) (.a (cP p)) (.a (cP p)) _ rfl r2') (rels_cons (ren_rel (ks := [2, 3]) (iv (d : Nat)) (iv (d : Nat)) _ rfl r3') (renL_rel (ks := [2, 3]) [.p 2 0, .p 3 0] [.p 0 0, .p 1 0] vs rfl hc))
    · have fin : ∀ v : Bool, e = .returned (.bool v) → (∃ S', (J (cutL d p).length S' Wd' ∨ Jx S' Wd') ∧ Kept W1 S0 Wd') → ∃ v, e = .returned v ∧ wpOpsIn (Fw none) 9 Try.prog O2 (cont none 9 Try.prog (bodyPost Try.prog Try.f93 (fun e Wd' => (∃ v, e = .returned v) ∧ ∃ S', (J (cutL d p).length S' Wd' ∨ Jx S' Wd') ∧ Kept cx.w S0 Wd')) []) (List.range' ((O2.toList.take 3).length + 1) 0) (a1.put o2.dst v) Wd' := fun v he ⟨S', hj', hk'⟩ => by
        refine ⟨_, he, ?_⟩
        simp only [List.range'_zero, wpOpsIn, cont]
        refine ⟨?_, _, results_nil (by kernel_rfl), ⟨_, rfl⟩, S', hj', ?_⟩
        · exact hrep1.defs
        · exact (Kept.of_below S0 hbel).trans hk' (fun b hb _ => hb)
      rcases hR with ⟨he, S', hj', hk', _⟩ | ⟨he, S', hj', hk'⟩
      · exact fin true he ⟨S', .inl (by rwa [Nat.zero_add] at hj'), hk'⟩
      · exact fin false he ⟨S', .inr hj', hk'⟩
  have e : ((Value.func (.yield l) #[] #[]) :: lb).toArray = #[.func (.yield l) #[] #[]] ++ lb.toArray := by apply Array.ext'; simp
  rw [← e]; exact hcon

theorem iter_cutI (p : (Int × Int × Int) × (Int × Int × Int) × Int × Int × Int) (d : Int) (h : 0 ≤ d ∧ d ≤ 3) : Iter Try.prog 93 [.p 0 0, .p 1 0] [.live false false (cP p), .live false false [iv d]] encP (cutL (Int.toNat d) p) := by
  have := iter_cut p d.toNat (by omega)
  rwa [Int.toNat_of_nonneg h.1] at this
theorem cut_lt {p : (Int × Int × Int) × (Int × Int × Int) × Int × Int × Int} {d : Int} (h : 0 ≤ d ∧ d ≤ 3) {i : Nat} {x : (Int × Int × Int) × (Int × Int × Int) × Int × Int × Int} (hx : (cutL (Int.toNat d) p)[i]? = some x) : i < 64 := by
  have hl := (List.getElem?_eq_some_iff.1 hx).1
  rw [cutL_length] at hl
  have : Int.toNat d ≤ 3 := by omega
  have : 4 ^ Int.toNat d ≤ 4 ^ 3 := Nat.pow_le_pow_right (by omega) this
  omega

end Go.Proofs.Ytidhogejnafhaaa

namespace Go.Proofs.Ytidhogejnafhaaa
open Go.Proofs Go.Aw Go.RowKit
set_option maxRecDepth 100000
set_option linter.unusedVariables false
set_option linter.unusedSimpArgs false

/-- facet/shape.from -/
def F101 (a0 : Int) (a1 : Int) (a2 : Int) : Bool :=
  (bif (decide ((a1 : Int) ≤ a0)) then
   (decide ((a0 : Int) ≤ a2))
  else
   false)

theorem C101 (a0 : Int) (a1 : Int) (a2 : Int) : Con Try.prog 101 [(iv a0), (iv a1), (iv a2)] [] (.v (.bool (F101 a0 a1 a2))) [] := by
  refine con_s Try.func101 (by kernel_rfl) fun cx hcx => ?_
  cases h0 : (decide ((a1 : Int) ≤ a0)) with
  | true =>
   have q0 := of_decide_eq_true h0
   have e := Eq.refl (F101 a0 a1 a2); conv at e => rhs; simp only [F101, h0, cond_true, cond_false]
   rw [e]
   exact rt [.d h0] [] [] hcx (by kernel_rfl)
  | false =>
   have q0 := of_decide_eq_false h0
   have e := Eq.refl (F101 a0 a1 a2); conv at e => rhs; simp only [F101, h0, cond_true, cond_false]
   rw [e]
   exact rt [.d h0] [] [] hcx (by kernel_rfl)

/-- facet/shape.inRange -/
def F91 (a0 : Int × Int × Int) (a1 : Int) : Bool :=
  (bif (F101 a0.1 (W (0 - a1)) a1) then
   (bif (F101 a0.2.1 (W (0 - a1)) a1) then
    (F101 a0.2.2 (W (0 - a1)) a1)
   else
    false)
  else
   false)

theorem C91 (a0 : Int × Int × Int) (a1 : Int) : Con Try.prog 91 [(.a (k3 a0)), (iv a1)] [] (.v (.bool (F91 a0 a1))) [] := by
  refine con_s Try.func91 (by kernel_rfl) fun cx hcx => ?_
  let t0 : List (St Try.prog) := [.c [] (C101 a0.1 (W (0 - a1)) a1)]
  cases h0 : (F101 a0.1 (W (0 - a1)) a1) with
  | true =>
   let t1 : List (St Try.prog) := (t0 ++ [.d h0, .c [] (C101 a0.2.1 (W (0 - a1)) a1)])
   cases h1 : (F101 a0.2.1 (W (0 - a1)) a1) with
   | true =>
    have e := Eq.refl (F91 a0 a1); conv at e => rhs; simp only [F91, h0, h1, cond_true, cond_false]
    rw [e]
    exact rt (t1 ++ [.d h1, .c [] (C101 a0.2.2 (W (0 - a1)) a1)]) [] [] hcx (by kernel_rfl)
   | false =>
    have e := Eq.refl (F91 a0 a1); conv at e => rhs; simp only [F91, h0, h1, cond_true, cond_false]
    rw [e]
    exact rt (t1 ++ [.d h1]) [] [] hcx (by kernel_rfl)
  | false =>
   have e := Eq.refl (F91 a0 a1); conv at e => rhs; simp only [F91, h0, cond_true, cond_false]
   rw [e]
   exact rt (t0 ++ [.d h0]) [] [] hcx (by kernel_rfl)

/-- facet/shape.plus -/
def F105 (a0 : Int × Int × Int) (a1 : Int) (a2 : Int × Int × Int) : Int × Int × Int :=
  ((W (a0.1 + (W (a1 * a2.1)))), (W (a0.2.1 + (W (a1 * a2.2.1)))), (W (a0.2.2 + (W (a1 * a2.2.2)))))

theorem C105 (a0 : Int × Int × Int) (a1 : Int) (a2 : Int × Int × Int) : Con Try.prog 105 [(.a (k3 a0)), (iv a1), (.a (k3 a2))] [] (.a (k3 (F105 a0 a1 a2))) [] := by
  refine con_s Try.func105 (by kernel_rfl) fun cx hcx => ?_
  have e := Eq.refl (F105 a0 a1 a2); conv at e => rhs; simp only [F105]
  rw [e]
  exact rt [] [] [] hcx (by kernel_rfl)

/-- facet/shape.minus -/
def F103 (a0 : Int × Int × Int) (a1 : Int × Int × Int) : Int × Int × Int :=
  (F105 a0 (-1) a1)

theorem C103 (a0 : Int × Int × Int) (a1 : Int × Int × Int) : Con Try.prog 103 [(.a (k3 a0)), (.a (k3 a1))] [] (.a (k3 (F103 a0 a1))) [] := by
  refine con_s Try.func103 (by kernel_rfl) fun cx hcx => ?_
  have e := Eq.refl (F103 a0 a1); conv at e => rhs; simp only [F103]
  rw [e]
  exact rt [.c [] (C105 a0 (-1) a1)] [] [] hcx (by kernel_rfl)

/-- facet/shape.cross -/
def F102 (a0 : Int × Int × Int) (a1 : Int × Int × Int) : Int × Int × Int :=
  ((W ((W (a0.2.1 * a1.2.2)) - (W (a0.2.2 * a1.2.1)))), (W ((W (a0.2.2 * a1.1)) - (W (a0.1 * a1.2.2)))), (W ((W (a0.1 * a1.2.1)) - (W (a0.2.1 * a1.1)))))

theorem C102 (a0 : Int × Int × Int) (a1 : Int × Int × Int) : Con Try.prog 102 [(.a (k3 a0)), (.a (k3 a1))] [] (.a (k3 (F102 a0 a1))) [] := by
  refine con_s Try.func102 (by kernel_rfl) fun cx hcx => ?_
  have e := Eq.refl (F102 a0 a1); conv at e => rhs; simp only [F102]
  rw [e]
  exact rt [] [] [] hcx (by kernel_rfl)

/-- facet/shape.normal -/
def F92 (a0 : (Int × Int × Int) × (Int × Int × Int) × Int × Int × Int) : Int × Int × Int :=
  (F102 (F103 a0.2.1 a0.1) (F103 a0.2.2 a0.1))

theorem C92 (a0 : (Int × Int × Int) × (Int × Int × Int) × Int × Int × Int) : Con Try.prog 92 [(.a (k9 a0))] [] (.a (k3 (F92 a0))) [] := by
  refine con_s Try.func92 (by kernel_rfl) fun cx hcx => ?_
  have e := Eq.refl (F92 a0); conv at e => rhs; simp only [F92]
  rw [e]
  exact rt [.c [] (C103 a0.2.1 a0.1), .c [] (C103 a0.2.2 a0.1), .c [] (C102 (F103 a0.2.1 a0.1) (F103 a0.2.2 a0.1))] [] [] hcx (by kernel_rfl)

/-- facet/shape.ValidatePanel -/
def F78 (a0 : (Int × Int × Int) × (Int × Int × Int) × Int × Int × Int) : Int :=
  (bif (!(F91 a0.1 64)) then
   1
  else
   (bif (!(F91 a0.2.1 64)) then
    1
   else
    (bif (!(F91 a0.2.2 64)) then
     1
    else
     (bif ((((F92 a0).1 : Int) == 0) && ((((F92 a0).2.1 : Int) == 0) && ((((F92 a0).2.2 : Int) == 0) && true))) then
      6
     else
      0))))

theorem C78 (a0 : (Int × Int × Int) × (Int × Int × Int) × Int × Int × Int) : Con Try.prog 78 [(.a (k9 a0))] [] (iv (F78 a0)) [] := by
  refine con_s Try.func78 (by kernel_rfl) fun cx hcx => ?_
  let t0 : List (St Try.prog) := [.c [] (C91 a0.1 64)]
  cases h0 : (!(F91 a0.1 64)) with
  | true =>
   have e := Eq.refl (F78 a0); conv at e => rhs; simp only [F78, h0, cond_true, cond_false]
   rw [e]
   exact rt (t0 ++ [.d h0]) [] [] hcx (by kernel_rfl)
  | false =>
   let t1 : List (St Try.prog) := (t0 ++ [.d h0, .c [] (C91 a0.2.1 64)])
   cases h1 : (!(F91 a0.2.1 64)) with
   | true =>
    have e := Eq.refl (F78 a0); conv at e => rhs; simp only [F78, h0, h1, cond_true, cond_false]
    rw [e]
    exact rt (t1 ++ [.d h1]) [] [] hcx (by kernel_rfl)
   | false =>
    let t2 : List (St Try.prog) := (t1 ++ [.d h1, .c [] (C91 a0.2.2 64)])
    cases h2 : (!(F91 a0.2.2 64)) with
    | true =>
     have e := Eq.refl (F78 a0); conv at e => rhs; simp only [F78, h0, h1, h2, cond_true, cond_false]
     rw [e]
     exact rt (t2 ++ [.d h2]) [] [] hcx (by kernel_rfl)
    | false =>
     let t3 : List (St Try.prog) := (t2 ++ [.d h2, .c [] (C92 a0)])
     cases h3 : ((((F92 a0).1 : Int) == 0) && ((((F92 a0).2.1 : Int) == 0) && ((((F92 a0).2.2 : Int) == 0) && true))) with
     | true =>
      have e := Eq.refl (F78 a0); conv at e => rhs; simp only [F78, h0, h1, h2, h3, cond_true, cond_false]
      rw [e]
      exact rt (t3 ++ [.d h3]) [] [] hcx (by kernel_rfl)
     | false =>
      have e := Eq.refl (F78 a0); conv at e => rhs; simp only [F78, h0, h1, h2, h3, cond_true, cond_false]
      rw [e]
      exact rt (t3 ++ [.d h3]) [] [] hcx (by kernel_rfl)

/-- facet/field.within -/
def F80 (a0 : Int) (a1 : Int) (a2 : Int) : Bool :=
  (bif (decide ((a0 : Int) ≥ a1)) then
   (decide ((a0 : Int) ≤ a2))
  else
   false)

theorem C80 (a0 : Int) (a1 : Int) (a2 : Int) : Con Try.prog 80 [(iv a0), (iv a1), (iv a2)] [] (.v (.bool (F80 a0 a1 a2))) [] := by
  refine con_s Try.func80 (by kernel_rfl) fun cx hcx => ?_
  cases h0 : (decide ((a0 : Int) ≥ a1)) with
  | true =>
   have q0 := of_decide_eq_true h0
   have e := Eq.refl (F80 a0 a1 a2); conv at e => rhs; simp only [F80, h0, cond_true, cond_false]
   rw [e]
   exact rt [.d h0] [] [] hcx (by kernel_rfl)
  | false =>
   have q0 := of_decide_eq_false h0
   have e := Eq.refl (F80 a0 a1 a2); conv at e => rhs; simp only [F80, h0, cond_true, cond_false]
   rw [e]
   exact rt [.d h0] [] [] hcx (by kernel_rfl)

/-- facet/field.seen -/
def F79 (a0 : Int × Int × Int) : Bool :=
  (bif (F80 a0.1 (-256) 256) then
   (bif (F80 a0.2.1 (-256) 256) then
    (F80 a0.2.2 (-256) 256)
   else
    false)
  else
   false)

theorem C79 (a0 : Int × Int × Int) : Con Try.prog 79 [(.a (k3 a0))] [] (.v (.bool (F79 a0))) [] := by
  refine con_s Try.func79 (by kernel_rfl) fun cx hcx => ?_
  let t0 : List (St Try.prog) := [.c [] (C80 a0.1 (-256) 256)]
  cases h0 : (F80 a0.1 (-256) 256) with
  | true =>
   let t1 : List (St Try.prog) := (t0 ++ [.d h0, .c [] (C80 a0.2.1 (-256) 256)])
   cases h1 : (F80 a0.2.1 (-256) 256) with
   | true =>
    have e := Eq.refl (F79 a0); conv at e => rhs; simp only [F79, h0, h1, cond_true, cond_false]
    rw [e]
    exact rt (t1 ++ [.d h1, .c [] (C80 a0.2.2 (-256) 256)]) [] [] hcx (by kernel_rfl)
   | false =>
    have e := Eq.refl (F79 a0); conv at e => rhs; simp only [F79, h0, h1, cond_true, cond_false]
    rw [e]
    exact rt (t1 ++ [.d h1]) [] [] hcx (by kernel_rfl)
  | false =>
   have e := Eq.refl (F79 a0); conv at e => rhs; simp only [F79, h0, cond_true, cond_false]
   rw [e]
   exact rt (t0 ++ [.d h0]) [] [] hcx (by kernel_rfl)

/-- facet/field.check -/
def F60 (a0 : (Int × Int × Int) × (Int × Int × Int) × Int × Int × Int) (a1 : Int × Int × Int) (a2 : Int) : Int :=
  (bif (((F78 a0) : Int) != 0) then
   (F78 a0)
  else
   (bif (!(F79 a1)) then
    1
   else
    (bif (!(F80 a2 0 3)) then
     1
    else
     0)))

theorem C60 (a0 : (Int × Int × Int) × (Int × Int × Int) × Int × Int × Int) (a1 : Int × Int × Int) (a2 : Int) : Con Try.prog 60 [(.a (k9 a0)), (.a (k3 a1)), (iv a2)] [] (iv (F60 a0 a1 a2)) [] := by
  refine con_s Try.func60 (by kernel_rfl) fun cx hcx => ?_
  let t0 : List (St Try.prog) := [.c [] (C78 a0)]
  cases h0 : (((F78 a0) : Int) != 0) with
  | true =>
   have q0 := bne_iff_ne.1 h0
   have e := Eq.refl (F60 a0 a1 a2); conv at e => rhs; simp only [F60, h0, cond_true, cond_false]
   rw [e]
   exact rt (t0 ++ [.d h0]) [] [] hcx (by kernel_rfl)
  | false =>
   have q0 := bne_eq_false_iff_eq.1 h0
   let t1 : List (St Try.prog) := (t0 ++ [.d h0, .c [] (C79 a1)])
   cases h1 : (!(F79 a1)) with
   | true =>
    have e := Eq.refl (F60 a0 a1 a2); conv at e => rhs; simp only [F60, h0, h1, cond_true, cond_false]
    rw [e]
    exact rt (t1 ++ [.d h1]) [] [] hcx (by kernel_rfl)
   | false =>
    let t2 : List (St Try.prog) := (t1 ++ [.d h1, .c [] (C80 a2 0 3)])
    cases h2 : (!(F80 a2 0 3)) with
    | true =>
     have e := Eq.refl (F60 a0 a1 a2); conv at e => rhs; simp only [F60, h0, h1, h2, cond_true, cond_false]
     rw [e]
     exact rt (t2 ++ [.d h2]) [] [] hcx (by kernel_rfl)
    | false =>
     have e := Eq.refl (F60 a0 a1 a2); conv at e => rhs; simp only [F60, h0, h1, h2, cond_true, cond_false]
     rw [e]
     exact rt (t2 ++ [.d h2]) [] [] hcx (by kernel_rfl)

noncomputable def B35_0 : Code := match (codeAtD [1] [] (bodyOf Try.f35)).1 with
  | .scope c => c
  | _ => .skip
noncomputable def K35_0 : List K := (codeAtD [1] [] (bodyOf Try.f35)).2
noncomputable def R35_0 : Code := (findLabel B35_0 0).getD .skip

def st35_0 (a0 : Int) (v1 : Int) (v2 : Int) : LS := ⟨slN 22 [(0, (iv a0)), (3, (iv v1)), (4, (iv v2))], []⟩

/-- a round of loop 0 of facet/span.root; the variables: v1 = s3, v2 = s4 -/
def S35_0 (a0 : Int) : Int × Int → (Int × Int) ⊕ (Int)
  | (v1, v2) =>
   (bif ((v2 : Int) == 0) then
    (.inr v1)
   else
    (bif (decide (((W ((W (v1 + v2)) * (W (v1 + v2)))) : Int) ≤ a0)) then
     (.inl ((W (v1 + v2)), (v2 / 2)))
    else
     (.inl (v1, (v2 / 2)))))

set_option maxHeartbeats 4000000 in
theorem L35_0 (a0 : Int) {cx : Cx} (hcx : cx.base = 0) : ∀ (n : Nat) (v1 : Int) (v2 : Int), 0 ≤ v2 → Int.toNat v2 < n → Aw.Good Try.prog none 9 (bodyPost Try.prog Try.f35 (RR cx (iv (loopF (S35_0 a0) n (v1, v2))) [] [])) cx [] (.c (.goto 0) :: .s B35_0 n :: K35_0) (st35_0 a0 v1 v2) := by
  intro n
  induction n with
  | zero => intro v1 v2 hi hn; exact absurd hn (Nat.not_lt_zero _)
  | succ n ih =>
    intro v1 v2 hi hn
    refine good_jump (rest := R35_0) (by kernel_rfl) ?_
    cases h0 : ((v2 : Int) == 0) with
    | true =>
     have q0 := eq_of_beq h0
     have e := Eq.refl (S35_0 a0 (v1, v2)); conv at e => rhs; simp only [S35_0, h0, cond_true, cond_false]
     rw [loopF_s, e]
     exact rt [.d h0] [] [] hcx (by kernel_rfl)
    | false =>
     have q0 := ne_of_beq_false h0
     let t1 : List (St Try.prog) := [.d h0]
     cases h1 : (decide (((W ((W (v1 + v2)) * (W (v1 + v2)))) : Int) ≤ a0)) with
     | true =>
      have q1 := of_decide_eq_true h1
      have e := Eq.refl (S35_0 a0 (v1, v2)); conv at e => rhs; simp only [S35_0, h0, h1, cond_true, cond_false]
      rw [loopF_inl e]
      refine ga (t1 ++ [.d h1, .p (show 0 ≤ (1 : Int) from by decide)]) [] [0, 3, 4] [] hcx (.goto 0) (.s B35_0 n :: K35_0) (st35_0 a0 (W (v1 + v2)) (Int.fdiv v2 (2 ^ (min (Int.toNat 1) 64)))) (by kernel_rfl) ?_
      have z0 : (Int.fdiv v2 (2 ^ (min (Int.toNat 1) 64))) = (v2 / 2) := shr_eq _ 1 (by decide)
      rw [z0]
      exact ih (W (v1 + v2)) (v2 / 2) (by (try simp only [List.length_append, List.length_cons, List.length_nil, Int.toNat_zero]); omega) (by omega)
     | false =>
      have q1 := of_decide_eq_false h1
      have e := Eq.refl (S35_0 a0 (v1, v2)); conv at e => rhs; simp only [S35_0, h0, h1, cond_true, cond_false]
      rw [loopF_inl e]
      refine ga (t1 ++ [.d h1, .p (show 0 ≤ (1 : Int) from by decide)]) [] [0, 3, 4] [] hcx (.goto 0) (.s B35_0 n :: K35_0) (st35_0 a0 v1 (Int.fdiv v2 (2 ^ (min (Int.toNat 1) 64)))) (by kernel_rfl) ?_
      have z0 : (Int.fdiv v2 (2 ^ (min (Int.toNat 1) 64))) = (v2 / 2) := shr_eq _ 1 (by decide)
      rw [z0]
      exact ih v1 (v2 / 2) (by (try simp only [List.length_append, List.length_cons, List.length_nil, Int.toNat_zero]); omega) (by omega)

/-- facet/span.root -/
def F35 (a0 : Int) : Int :=
  (bif (decide ((4611686018427387904 : Int) ≤ a0)) then
   (loopF (S35_0 a0) (Int.toNat 1073741824 + 1) (2147483648, 1073741824))
  else
   (loopF (S35_0 a0) (Int.toNat 1073741824 + 1) (0, 1073741824)))

theorem C35 (a0 : Int) : Con Try.prog 35 [(iv a0)] [] (iv (F35 a0)) [] := by
  refine con_s Try.func35 (by kernel_rfl) fun cx hcx => ?_
  cases h0 : (decide ((4611686018427387904 : Int) ≤ a0)) with
  | true =>
   have q0 := of_decide_eq_true h0
   have e := Eq.refl (F35 a0); conv at e => rhs; simp only [F35, h0, cond_true, cond_false]
   rw [e]
   refine ga [.u (Int.toNat 1073741824 + 1), .F, .d h0, .p (show 0 ≤ (1 : Int) from by decide)] [] [0, 3, 4] [] hcx (.goto 0) (.s B35_0 (Int.toNat 1073741824 + 1) :: K35_0) (st35_0 a0 2147483648 1073741824) (by kernel_rfl) ?_
   exact L35_0 a0 hcx (Int.toNat 1073741824 + 1) 2147483648 1073741824 (by (try simp only [List.length_append, List.length_cons, List.length_nil, Int.toNat_zero]); omega) (by omega)
  | false =>
   have q0 := of_decide_eq_false h0
   have e := Eq.refl (F35 a0); conv at e => rhs; simp only [F35, h0, cond_true, cond_false]
   rw [e]
   refine ga [.u (Int.toNat 1073741824 + 1), .F, .d h0, .p (show 0 ≤ (1 : Int) from by decide)] [] [0, 3, 4] [] hcx (.goto 0) (.s B35_0 (Int.toNat 1073741824 + 1) :: K35_0) (st35_0 a0 0 1073741824) (by kernel_rfl) ?_
   exact L35_0 a0 hcx (Int.toNat 1073741824 + 1) 0 1073741824 (by (try simp only [List.length_append, List.length_cons, List.length_nil, Int.toNat_zero]); omega) (by omega)

/-- facet/span.Valid -/
def F51 (a0 : Int × Int) : Bool :=
  (bif (decide ((a0.1 : Int) ≥ (-1099511627776))) then
   (bif (decide ((a0.1 : Int) ≤ a0.2)) then
    (decide ((a0.2 : Int) ≤ 1099511627776))
   else
    false)
  else
   false)

theorem C51 (a0 : Int × Int) : Con Try.prog 51 [(.a [(iv a0.1), (iv a0.2)])] [] (.v (.bool (F51 a0))) [] := by
  refine con_s Try.func51 (by kernel_rfl) fun cx hcx => ?_
  cases h0 : (decide ((a0.1 : Int) ≥ (-1099511627776))) with
  | true =>
   have q0 := of_decide_eq_true h0
   let t1 : List (St Try.prog) := [.d h0]
   cases h1 : (decide ((a0.1 : Int) ≤ a0.2)) with
   | true =>
    have q1 := of_decide_eq_true h1
    have e := Eq.refl (F51 a0); conv at e => rhs; simp only [F51, h0, h1, cond_true, cond_false]
    rw [e]
    exact rt (t1 ++ [.d h1]) [] [] hcx (by kernel_rfl)
   | false =>
    have q1 := of_decide_eq_false h1
    have e := Eq.refl (F51 a0); conv at e => rhs; simp only [F51, h0, h1, cond_true, cond_false]
    rw [e]
    exact rt (t1 ++ [.d h1]) [] [] hcx (by kernel_rfl)
  | false =>
   have q0 := of_decide_eq_false h0
   have e := Eq.refl (F51 a0); conv at e => rhs; simp only [F51, h0, cond_true, cond_false]
   rw [e]
   exact rt [.d h0] [] [] hcx (by kernel_rfl)

/-- facet/span.result -/
def F26 (a0 : Int) (a1 : Int) : (Int × Int) × Int :=
  (bif (!(F51 (a0, a1))) then
   ((0, 0), 4)
  else
   ((a0, a1), 0))

theorem C26 (a0 : Int) (a1 : Int) : Con Try.prog 26 [(iv a0), (iv a1)] [] (.t [(.a (k2 (F26 a0 a1).1)), (iv (F26 a0 a1).2)]) [] := by
  refine con_s Try.func26 (by kernel_rfl) fun cx hcx => ?_
  let t0 : List (St Try.prog) := [.c [] (C51 (a0, a1))]
  cases h0 : (!(F51 (a0, a1))) with
  | true =>
   have e := Eq.refl (F26 a0 a1); conv at e => rhs; simp only [F26, h0, cond_true, cond_false]
   rw [e]
   exact rt (t0 ++ [.d h0]) [] [] hcx (by kernel_rfl)
  | false =>
   have e := Eq.refl (F26 a0 a1); conv at e => rhs; simp only [F26, h0, cond_true, cond_false]
   rw [e]
   exact rt (t0 ++ [.d h0]) [] [] hcx (by kernel_rfl)

/-- facet/span.inverse -/
def F87 (a0 : Int) (a1 : Int) : (Int × Int) × Int :=
  (bif (((W ((W ((F35 (W (Int.tdiv a0 a1))) * (F35 (W (Int.tdiv a0 a1))))) * a1)) : Int) == a0) then
   ((F26 (F35 (W (Int.tdiv a0 a1))) (F35 (W (Int.tdiv a0 a1)))).1, (F26 (F35 (W (Int.tdiv a0 a1))) (F35 (W (Int.tdiv a0 a1)))).2)
  else
   ((F26 (F35 (W (Int.tdiv a0 a1))) (W ((F35 (W (Int.tdiv a0 a1))) + 1))).1, (F26 (F35 (W (Int.tdiv a0 a1))) (W ((F35 (W (Int.tdiv a0 a1))) + 1))).2))

theorem C87 (a0 : Int) (a1 : Int) (ha : a1 ≠ 0) : Con Try.prog 87 [(iv a0), (iv a1)] [] (.t [(.a (k2 (F87 a0 a1).1)), (iv (F87 a0 a1).2)]) [] := by
  refine con_s Try.func87 (by kernel_rfl) fun cx hcx => ?_
  let t0 : List (St Try.prog) := [.p (show (a1 : Int) ≠ 0 from by first | omega | (rw [W_eq] <;> omega) | exact u64_nn _), .c [] (C35 (W (Int.tdiv a0 a1)))]
  cases h0 : (((W ((W ((F35 (W (Int.tdiv a0 a1))) * (F35 (W (Int.tdiv a0 a1))))) * a1)) : Int) == a0) with
  | true =>
   have q0 := eq_of_beq h0
   have e := Eq.refl (F87 a0 a1); conv at e => rhs; simp only [F87, h0, cond_true, cond_false]
   rw [e]
   exact rt (t0 ++ [.d h0, .c [] (C26 (F35 (W (Int.tdiv a0 a1))) (F35 (W (Int.tdiv a0 a1))))]) [] [] hcx (by kernel_rfl)
  | false =>
   have q0 := ne_of_beq_false h0
   have e := Eq.refl (F87 a0 a1); conv at e => rhs; simp only [F87, h0, cond_true, cond_false]
   rw [e]
   exact rt (t0 ++ [.d h0, .c [] (C26 (F35 (W (Int.tdiv a0 a1))) (W ((F35 (W (Int.tdiv a0 a1))) + 1)))]) [] [] hcx (by kernel_rfl)

/-- facet/span.Inverse -/
def F62 (a0 : Int) (a1 : Int) : (Int × Int) × Int :=
  (bif (decide ((a0 : Int) < 1)) then
   ((0, 0), 1)
  else
   (bif (decide ((a0 : Int) > 1099511627776)) then
    ((0, 0), 1)
   else
    (bif (decide ((a1 : Int) < 1)) then
     ((0, 0), 1)
    else
     (bif (decide ((a1 : Int) > 8)) then
      ((0, 0), 1)
     else
      ((F87 (W ((W (a1 * a1)) * 2 ^ (min (Int.toNat 40) 64))) a0).1, (F87 (W ((W (a1 * a1)) * 2 ^ (min (Int.toNat 40) 64))) a0).2)))))

theorem C62 (a0 : Int) (a1 : Int) : Con Try.prog 62 [(iv a0), (iv a1)] [] (.t [(.a (k2 (F62 a0 a1).1)), (iv (F62 a0 a1).2)]) [] := by
  refine con_s Try.func62 (by kernel_rfl) fun cx hcx => ?_
  cases h0 : (decide ((a0 : Int) < 1)) with
  | true =>
   have q0 := of_decide_eq_true h0
   have e := Eq.refl (F62 a0 a1); conv at e => rhs; simp only [F62, h0, cond_true, cond_false]
   rw [e]
   exact rt [.d h0] [] [] hcx (by kernel_rfl)
  | false =>
   have q0 := of_decide_eq_false h0
   let t1 : List (St Try.prog) := [.d h0]
   cases h1 : (decide ((a0 : Int) > 1099511627776)) with
   | true =>
    have q1 := of_decide_eq_true h1
    have e := Eq.refl (F62 a0 a1); conv at e => rhs; simp only [F62, h0, h1, cond_true, cond_false]
    rw [e]
    exact rt (t1 ++ [.d h1]) [] [] hcx (by kernel_rfl)
   | false =>
    have q1 := of_decide_eq_false h1
    let t2 : List (St Try.prog) := (t1 ++ [.d h1])
    cases h2 : (decide ((a1 : Int) < 1)) with
    | true =>
     have q2 := of_decide_eq_true h2
     have e := Eq.refl (F62 a0 a1); conv at e => rhs; simp only [F62, h0, h1, h2, cond_true, cond_false]
     rw [e]
     exact rt (t2 ++ [.d h2]) [] [] hcx (by kernel_rfl)
    | false =>
     have q2 := of_decide_eq_false h2
     let t3 : List (St Try.prog) := (t2 ++ [.d h2])
     cases h3 : (decide ((a1 : Int) > 8)) with
     | true =>
      have q3 := of_decide_eq_true h3
      have e := Eq.refl (F62 a0 a1); conv at e => rhs; simp only [F62, h0, h1, h2, h3, cond_true, cond_false]
      rw [e]
      exact rt (t3 ++ [.d h3]) [] [] hcx (by kernel_rfl)
     | false =>
      have q3 := of_decide_eq_false h3
      have e := Eq.refl (F62 a0 a1); conv at e => rhs; simp only [F62, h0, h1, h2, h3, cond_true, cond_false]
      rw [e]
      exact rt (t3 ++ [.d h3, .p (show 0 ≤ (40 : Int) from by decide), .c [] (C87 (W ((W (a1 * a1)) * 2 ^ (min (Int.toNat 40) 64))) a0  (by (try simp only [List.length_append, List.length_cons, List.length_nil, Int.toNat_zero]); omega))]) [] [] hcx (by kernel_rfl)

/-- facet/span.check at (1,) -/
def F30_1 (a0 : Int × Int) : Int :=
  (bif (!(F51 a0)) then
   1
  else
   0)

theorem C30_1 (a0 : Int × Int) : Con Try.prog 30 [(.s 0 0 1 2)] [(.live false false [(iv a0.1), (iv a0.2)])] (iv (F30_1 a0)) [] := by
  refine con_s Try.func30 (by kernel_rfl) fun cx hcx => ?_
  let t0 : List (St Try.prog) := [.u 200, .T, .i 0 1 (by decide), .c [] (C51 a0)]
  cases h0 : (!(F51 a0)) with
  | true =>
   have e := Eq.refl (F30_1 a0); conv at e => rhs; simp only [F30_1, h0, cond_true, cond_false]
   rw [e]
   exact rt (t0 ++ [.d h0]) [] [] hcx (by kernel_rfl)
  | false =>
   have e := Eq.refl (F30_1 a0); conv at e => rhs; simp only [F30_1, h0, cond_true, cond_false]
   rw [e]
   exact rt (t0 ++ [.d h0, .u 0, .F]) [] [] hcx (by kernel_rfl)

/-- facet/span.down -/
def F27 (a0 : Int) (a1 : Int) : Int :=
  (bif (((Int.tmod a0 a1) : Int) != 0) then
   (bif (!((decide ((a0 : Int) < 0)) == (decide ((a1 : Int) < 0)))) then
    (W ((W (Int.tdiv a0 a1)) - 1))
   else
    (W (Int.tdiv a0 a1)))
  else
   (W (Int.tdiv a0 a1)))

theorem C27 (a0 : Int) (a1 : Int) (ha : a1 ≠ 0) : Con Try.prog 27 [(iv a0), (iv a1)] [] (iv (F27 a0 a1)) [] := by
  refine con_s Try.func27 (by kernel_rfl) fun cx hcx => ?_
  let t0 : List (St Try.prog) := [.p (show (a1 : Int) ≠ 0 from by first | omega | (rw [W_eq] <;> omega) | exact u64_nn _), .p (show (a1 : Int) ≠ 0 from by first | omega | (rw [W_eq] <;> omega) | exact u64_nn _)]
  cases h0 : (((Int.tmod a0 a1) : Int) != 0) with
  | true =>
   have q0 := bne_iff_ne.1 h0
   let t1 : List (St Try.prog) := (t0 ++ [.d h0])
   cases h1 : (!((decide ((a0 : Int) < 0)) == (decide ((a1 : Int) < 0)))) with
   | true =>
    have e := Eq.refl (F27 a0 a1); conv at e => rhs; simp only [F27, h0, h1, cond_true, cond_false]
    rw [e]
    exact rt (t1 ++ [.d h1]) [] [] hcx (by kernel_rfl)
   | false =>
    have e := Eq.refl (F27 a0 a1); conv at e => rhs; simp only [F27, h0, h1, cond_true, cond_false]
    rw [e]
    exact rt (t1 ++ [.d h1]) [] [] hcx (by kernel_rfl)
  | false =>
   have q0 := bne_eq_false_iff_eq.1 h0
   have e := Eq.refl (F27 a0 a1); conv at e => rhs; simp only [F27, h0, cond_true, cond_false]
   rw [e]
   exact rt (t0 ++ [.d h0]) [] [] hcx (by kernel_rfl)

/-- facet/span.up -/
def F28 (a0 : Int) (a1 : Int) : Int :=
  (W (0 - (F27 (W (0 - a0)) a1)))

theorem C28 (a0 : Int) (a1 : Int) (ha : a1 ≠ 0) : Con Try.prog 28 [(iv a0), (iv a1)] [] (iv (F28 a0 a1)) [] := by
  refine con_s Try.func28 (by kernel_rfl) fun cx hcx => ?_
  have e := Eq.refl (F28 a0 a1); conv at e => rhs; simp only [F28]
  rw [e]
  exact rt [.c [] (C27 (W (0 - a0)) a1  (by (try simp only [List.length_append, List.length_cons, List.length_nil, Int.toNat_zero]); omega))] [] [] hcx (by kernel_rfl)

/-- api.Span, as cells -/
def c23 (x : Int × Int) : List SV := [(iv x.1), (iv x.2)]
theorem c23_len (x : Int × Int) : (c23 x).length = 2 := rfl

noncomputable def B30_L_0 : Code := (loopAtD [1, 0, 1] [] (bodyOf Try.f30) []).1
noncomputable def K30_L_0 : List K := (loopAtD [1, 0, 1] [] (bodyOf Try.f30) []).2

def st30_L_0 (a0 : List (Int × Int)) (v1 : Int) : LS := ⟨slN 15 [(5, (.s 0 0 a0.length 2)), (6, (iv ((a0.length : Nat) : Int))), (7, (iv v1))], [(.live false true (flat c23 a0))]⟩

/-- a round of loop 0 of facet/span.check; the variables: v1 = s7 -/
def S30_L_0 (a0 : List (Int × Int)) : Int → (Int) ⊕ (Int)
  | v1 =>
   (bif (decide ((v1 : Int) < ((a0.length : Nat) : Int))) then
    (bif (!(F51 (a0.getD (Int.toNat v1) default))) then
     (.inr 1)
    else
     (.inl (v1 + 1)))
   else
    (.inr 0))

set_option maxHeartbeats 4000000 in
theorem L30_L_0 (a0 : List (Int × Int)) (l0 : a0.length ≤ 9223372036854775807) {cx : Cx} (hcx : cx.base = 1) : ∀ (n : Nat) (v1 : Int), 0 ≤ v1 → Int.toNat (((a0.length : Nat) : Int) - v1) < n → Aw.Good Try.prog none 9 (bodyPost Try.prog Try.f30 (RR cx (iv (loopF (S30_L_0 a0) n v1)) [] [])) cx [] (.l B30_L_0 n :: K30_L_0) (st30_L_0 a0 v1) := by
  intro n
  induction n with
  | zero => intro v1 hi hn; exact absurd hn (Nat.not_lt_zero _)
  | succ n ih =>
    intro v1 hi hn
    refine good_round ?_
    cases h0 : (decide ((v1 : Int) < ((a0.length : Nat) : Int))) with
    | true =>
     have q0 := of_decide_eq_true h0
     let t1 : List (St Try.prog) := [.d h0, .i v1 (a0.length), .L c23_len a0 v1 0 2, .c [] (C51 (a0.getD (Int.toNat v1) default))]
     cases h1 : (!(F51 (a0.getD (Int.toNat v1) default))) with
     | true =>
      have e := Eq.refl (S30_L_0 a0 v1); conv at e => rhs; simp only [S30_L_0, h0, h1, cond_true, cond_false]
      rw [loopF_s, e]
      exact rt (t1 ++ [.d h1]) [] [] hcx (by kernel_rfl)
     | false =>
      have e := Eq.refl (S30_L_0 a0 v1); conv at e => rhs; simp only [S30_L_0, h0, h1, cond_true, cond_false]
      rw [loopF_inl e]
      refine ba (t1 ++ [.d h1]) [] [5, 6, 7] [] hcx (m := n) B30_L_0 (K30_L_0) (st30_L_0 a0 (W (v1 + 1))) (by kernel_rfl) ?_
      have z0 : (W (v1 + 1)) = (v1 + 1) := W_eq (by omega) (by omega)
      rw [z0]
      exact ih (v1 + 1) (by (try simp only [List.length_append, List.length_cons, List.length_nil, Int.toNat_zero]); omega) (by (try simp only [List.length_append, List.length_cons, List.length_nil, Int.toNat_zero]); omega)
    | false =>
     have q0 := of_decide_eq_false h0
     have e := Eq.refl (S30_L_0 a0 v1); conv at e => rhs; simp only [S30_L_0, h0, cond_true, cond_false]
     rw [loopF_s, e]
     exact rt [.d h0] [] [] hcx (by kernel_rfl)

/-- facet/span.check at ('L',) -/
def F30_L (a0 : List (Int × Int)) : Int :=
  (loopF (S30_L_0 a0) (Int.toNat (((a0.length : Nat) : Int) - 0) + 1) 0)

theorem C30_L (a0 : List (Int × Int)) (l0 : a0.length ≤ 9223372036854775807) : Con Try.prog 30 [(.s 0 0 a0.length 2)] [(.live false true (flat c23 a0))] (iv (F30_L a0)) [] := by
  refine con_s Try.func30 (by kernel_rfl) fun cx hcx => ?_
  have e := Eq.refl (F30_L a0); conv at e => rhs; simp only [F30_L]
  rw [e]
  refine en [] [] [5, 6, 7] [] hcx B30_L_0 (K30_L_0) (st30_L_0 a0 0) (Int.toNat (((a0.length : Nat) : Int) - 0) + 1) (by kernel_rfl) ?_
  exact L30_L_0 a0 l0 hcx (Int.toNat (((a0.length : Nat) : Int) - 0) + 1) 0 (by (try simp only [List.length_append, List.length_cons, List.length_nil, Int.toNat_zero]); omega) (by (try simp only [List.length_append, List.length_cons, List.length_nil, Int.toNat_zero]); omega)

noncomputable def B34_L_0 : Code := (loopAtD [1, 1, 1, 0, 1] [] (bodyOf Try.f34) []).1
noncomputable def K34_L_0 : List K := (loopAtD [1, 1, 1, 0, 1] [] (bodyOf Try.f34) []).2

def st34_L_0 (a0 : List (Int × Int)) (v1 : Int) (v2 : Int) (v3 : Int) : LS := ⟨slN 33 [(2, (iv v1)), (3, (iv v2)), (16, (.s 0 0 a0.length 2)), (17, (iv ((a0.length : Nat) : Int))), (18, (iv v3))], [(.live false true (flat c23 a0))]⟩

/-- a round of loop 0 of facet/span.total; the variables: v1 = s2, v2 = s3, v3 = s18 -/
def S34_L_0 (a0 : List (Int × Int)) : Int × Int × Int → (Int × Int × Int) ⊕ (Int × Int × Int)
  | (v1, v2, v3) =>
   (bif (decide ((v3 : Int) < ((a0.length : Nat) : Int))) then
    (.inl ((W (v1 + (a0.getD (Int.toNat v3) default).1)), (W (v2 + (a0.getD (Int.toNat v3) default).2)), (v3 + 1)))
   else
    (.inr (v1, v2, 0)))

set_option maxHeartbeats 4000000 in
theorem L34_L_0 (a0 : List (Int × Int)) (l0 : a0.length ≤ 9223372036854775807) {cx : Cx} (hcx : cx.base = 1) : ∀ (n : Nat) (v1 : Int) (v2 : Int) (v3 : Int), 0 ≤ v3 → Int.toNat (((a0.length : Nat) : Int) - v3) < n → Aw.Good Try.prog none 9 (bodyPost Try.prog Try.f34 (RR cx (.t (k3 (loopF (S34_L_0 a0) n (v1, v2, v3)))) [] [])) cx [] (.l B34_L_0 n :: K34_L_0) (st34_L_0 a0 v1 v2 v3) := by
  intro n
  induction n with
  | zero => intro v1 v2 v3 hi hn; exact absurd hn (Nat.not_lt_zero _)
  | succ n ih =>
    intro v1 v2 v3 hi hn
    refine good_round ?_
    cases h0 : (decide ((v3 : Int) < ((a0.length : Nat) : Int))) with
    | true =>
     have q0 := of_decide_eq_true h0
     have e := Eq.refl (S34_L_0 a0 (v1, v2, v3)); conv at e => rhs; simp only [S34_L_0, h0, cond_true, cond_false]
     rw [loopF_inl e]
     refine ba [.d h0, .i v3 (a0.length), .L c23_len a0 v3 0 2] [] [2, 3, 16, 17, 18] [] hcx (m := n) B34_L_0 (K34_L_0) (st34_L_0 a0 (W (v1 + (a0.getD (Int.toNat v3) default).1)) (W (v2 + (a0.getD (Int.toNat v3) default).2)) (W (v3 + 1))) (by kernel_rfl) ?_
     have z0 : (W (v3 + 1)) = (v3 + 1) := W_eq (by omega) (by omega)
     rw [z0]
     exact ih (W (v1 + (a0.getD (Int.toNat v3) default).1)) (W (v2 + (a0.getD (Int.toNat v3) default).2)) (v3 + 1) (by (try simp only [List.length_append, List.length_cons, List.length_nil, Int.toNat_zero]); omega) (by (try simp only [List.length_append, List.length_cons, List.length_nil, Int.toNat_zero]); omega)
    | false =>
     have q0 := of_decide_eq_false h0
     have e := Eq.refl (S34_L_0 a0 (v1, v2, v3)); conv at e => rhs; simp only [S34_L_0, h0, cond_true, cond_false]
     rw [loopF_s, e]
     exact rt [.d h0] [] [] hcx (by kernel_rfl)

/-- facet/span.total at ('L',) -/
def F34_L (a0 : List (Int × Int)) : Int × Int × Int :=
  (bif (decide ((((a0.length : Nat) : Int) : Int) > 10000)) then
   (0, 0, 4)
  else
   (bif (((F30_L a0) : Int) != 0) then
    (0, 0, (F30_L a0))
   else
    (loopF (S34_L_0 a0) (Int.toNat (((a0.length : Nat) : Int) - 0) + 1) (0, 0, 0))))

theorem C34_L (a0 : List (Int × Int)) (l0 : a0.length ≤ 9223372036854775807) : Con Try.prog 34 [(.s 0 0 a0.length 2)] [(.live false true (flat c23 a0))] (.t (k3 (F34_L a0))) [] := by
  refine con_s Try.func34 (by kernel_rfl) fun cx hcx => ?_
  cases h0 : (decide ((((a0.length : Nat) : Int) : Int) > 10000)) with
  | true =>
   have q0 := of_decide_eq_true h0
   have e := Eq.refl (F34_L a0); conv at e => rhs; simp only [F34_L, h0, cond_true, cond_false]
   rw [e]
   exact rt [.d h0] [] [] hcx (by kernel_rfl)
  | false =>
   have q0 := of_decide_eq_false h0
   let t1 : List (St Try.prog) := [.d h0, .c [0] (C30_L a0 (by (try simp only [List.length_append, List.length_cons, List.length_nil, Int.toNat_zero]); omega))]
   cases h1 : (((F30_L a0) : Int) != 0) with
   | true =>
    have q1 := bne_iff_ne.1 h1
    have e := Eq.refl (F34_L a0); conv at e => rhs; simp only [F34_L, h0, h1, cond_true, cond_false]
    rw [e]
    exact rt (t1 ++ [.d h1]) [] [] hcx (by kernel_rfl)
   | false =>
    have q1 := bne_eq_false_iff_eq.1 h1
    have e := Eq.refl (F34_L a0); conv at e => rhs; simp only [F34_L, h0, h1, cond_true, cond_false]
    rw [e]
    refine en (t1 ++ [.d h1]) [] [2, 3, 16, 17, 18] [] hcx B34_L_0 (K34_L_0) (st34_L_0 a0 0 0 0) (Int.toNat (((a0.length : Nat) : Int) - 0) + 1) (by kernel_rfl) ?_
    exact L34_L_0 a0 l0 hcx (Int.toNat (((a0.length : Nat) : Int) - 0) + 1) 0 0 0 (by (try simp only [List.length_append, List.length_cons, List.length_nil, Int.toNat_zero]); omega) (by (try simp only [List.length_append, List.length_cons, List.length_nil, Int.toNat_zero]); omega)

/-- facet/span.Sum at ('L',) -/
def F11_L (a0 : List (Int × Int)) : (Int × Int) × Int :=
  (bif (((F34_L a0).2.2 : Int) != 0) then
   ((0, 0), (F34_L a0).2.2)
  else
   ((F26 (F34_L a0).1 (F34_L a0).2.1).1, (F26 (F34_L a0).1 (F34_L a0).2.1).2))

theorem C11_L (a0 : List (Int × Int)) (l0 : a0.length ≤ 9223372036854775807) : Con Try.prog 11 [(.s 0 0 a0.length 2)] [(.live false true (flat c23 a0))] (.t [(.a (k2 (F11_L a0).1)), (iv (F11_L a0).2)]) [] := by
  refine con_s Try.func11 (by kernel_rfl) fun cx hcx => ?_
  let t0 : List (St Try.prog) := [.c [0] (C34_L a0 (by (try simp only [List.length_append, List.length_cons, List.length_nil, Int.toNat_zero]); omega))]
  cases h0 : (((F34_L a0).2.2 : Int) != 0) with
  | true =>
   have q0 := bne_iff_ne.1 h0
   have e := Eq.refl (F11_L a0); conv at e => rhs; simp only [F11_L, h0, cond_true, cond_false]
   rw [e]
   exact rt (t0 ++ [.d h0]) [] [] hcx (by kernel_rfl)
  | false =>
   have q0 := bne_eq_false_iff_eq.1 h0
   have e := Eq.refl (F11_L a0); conv at e => rhs; simp only [F11_L, h0, cond_true, cond_false]
   rw [e]
   exact rt (t0 ++ [.d h0, .c [] (C26 (F34_L a0).1 (F34_L a0).2.1)]) [] [] hcx (by kernel_rfl)

/-- facet/span.Mean at ('L',) -/
def F15_L (a0 : List (Int × Int)) : (Int × Int) × Int :=
  (bif (((F34_L a0).2.2 : Int) != 0) then
   ((0, 0), (F34_L a0).2.2)
  else
   (bif ((((a0.length : Nat) : Int) : Int) == 0) then
    ((0, 0), 1)
   else
    ((F26 (F27 (F34_L a0).1 ((a0.length : Nat) : Int)) (F28 (F34_L a0).2.1 ((a0.length : Nat) : Int))).1, (F26 (F27 (F34_L a0).1 ((a0.length : Nat) : Int)) (F28 (F34_L a0).2.1 ((a0.length : Nat) : Int))).2)))

theorem C15_L (a0 : List (Int × Int)) (l0 : a0.length ≤ 9223372036854775807) : Con Try.prog 15 [(.s 0 0 a0.length 2)] [(.live false true (flat c23 a0))] (.t [(.a (k2 (F15_L a0).1)), (iv (F15_L a0).2)]) [] := by
  refine con_s Try.func15 (by kernel_rfl) fun cx hcx => ?_
  let t0 : List (St Try.prog) := [.c [0] (C34_L a0 (by (try simp only [List.length_append, List.length_cons, List.length_nil, Int.toNat_zero]); omega))]
  cases h0 : (((F34_L a0).2.2 : Int) != 0) with
  | true =>
   have q0 := bne_iff_ne.1 h0
   have e := Eq.refl (F15_L a0); conv at e => rhs; simp only [F15_L, h0, cond_true, cond_false]
   rw [e]
   exact rt (t0 ++ [.d h0]) [] [] hcx (by kernel_rfl)
  | false =>
   have q0 := bne_eq_false_iff_eq.1 h0
   let t1 : List (St Try.prog) := (t0 ++ [.d h0])
   cases h1 : ((((a0.length : Nat) : Int) : Int) == 0) with
   | true =>
    have q1 := eq_of_beq h1
    have e := Eq.refl (F15_L a0); conv at e => rhs; simp only [F15_L, h0, h1, cond_true, cond_false]
    rw [e]
    exact rt (t1 ++ [.d h1]) [] [] hcx (by kernel_rfl)
   | false =>
    have q1 := ne_of_beq_false h1
    have e := Eq.refl (F15_L a0); conv at e => rhs; simp only [F15_L, h0, h1, cond_true, cond_false]
    rw [e]
    exact rt (t1 ++ [.d h1, .c [] (C27 (F34_L a0).1 ((a0.length : Nat) : Int)  (by (try simp only [List.length_append, List.length_cons, List.length_nil, Int.toNat_zero]); omega)), .c [] (C28 (F34_L a0).2.1 ((a0.length : Nat) : Int)  (by (try simp only [List.length_append, List.length_cons, List.length_nil, Int.toNat_zero]); omega)), .c [] (C26 (F27 (F34_L a0).1 ((a0.length : Nat) : Int)) (F28 (F34_L a0).2.1 ((a0.length : Nat) : Int)))]) [] [] hcx (by kernel_rfl)

/-- facet/span.check at (2,) -/
def F30_2 (a0 : (Int × Int) × (Int × Int)) : Int :=
  (bif (!(F51 a0.1)) then
   1
  else
   (bif (!(F51 a0.2)) then
    1
   else
    0))

theorem C30_2 (a0 : (Int × Int) × (Int × Int)) : Con Try.prog 30 [(.s 0 0 2 2)] [(.live false false [(iv a0.1.1), (iv a0.1.2), (iv a0.2.1), (iv a0.2.2)])] (iv (F30_2 a0)) [] := by
  refine con_s Try.func30 (by kernel_rfl) fun cx hcx => ?_
  let t0 : List (St Try.prog) := [.u 200, .T, .i 0 2 (by decide), .c [] (C51 a0.1)]
  cases h0 : (!(F51 a0.1)) with
  | true =>
   have e := Eq.refl (F30_2 a0); conv at e => rhs; simp only [F30_2, h0, cond_true, cond_false]
   rw [e]
   exact rt (t0 ++ [.d h0]) [] [] hcx (by kernel_rfl)
  | false =>
   let t1 : List (St Try.prog) := (t0 ++ [.d h0, .u 0, .T, .i 1 2 (by decide), .c [] (C51 a0.2)])
   cases h1 : (!(F51 a0.2)) with
   | true =>
    have e := Eq.refl (F30_2 a0); conv at e => rhs; simp only [F30_2, h0, h1, cond_true, cond_false]
    rw [e]
    exact rt (t1 ++ [.d h1]) [] [] hcx (by kernel_rfl)
   | false =>
    have e := Eq.refl (F30_2 a0); conv at e => rhs; simp only [F30_2, h0, h1, cond_true, cond_false]
    rw [e]
    exact rt (t1 ++ [.d h1, .u 0, .F]) [] [] hcx (by kernel_rfl)

/-- facet/span.product -/
def F33 (a0 : Int) (a1 : Int) : Int :=
  (bif ((a0 : Int) != 0) then
   (bif ((a1 : Int) != 0) then
    (bif (decide (((if (a1 : Int) < (W (0 - a1)) then (W (0 - a1)) else a1) : Int) > (W (Int.tdiv 1099511627776 (if (a0 : Int) < (W (0 - a0)) then (W (0 - a0)) else a0))))) then
     (bif (!((decide ((a0 : Int) < 0)) == (decide ((a1 : Int) < 0)))) then
      (-1099511627777)
     else
      1099511627777)
    else
     (W (a0 * a1)))
   else
    (W (a0 * a1)))
  else
   (W (a0 * a1)))

theorem C33 (a0 : Int) (a1 : Int) (ha : -1099511627776 ≤ a0 ∧ a0 ≤ 1099511627776) : Con Try.prog 33 [(iv a0), (iv a1)] [] (iv (F33 a0 a1)) [] := by
  refine con_s Try.func33 (by kernel_rfl) fun cx hcx => ?_
  cases h0 : ((a0 : Int) != 0) with
  | true =>
   have q0 := bne_iff_ne.1 h0
   let t1 : List (St Try.prog) := [.d h0]
   cases h1 : ((a1 : Int) != 0) with
   | true =>
    have q1 := bne_iff_ne.1 h1
    let t2 : List (St Try.prog) := (t1 ++ [.d h1, .p (show ((if (a0 : Int) < (W (0 - a0)) then (W (0 - a0)) else a0) : Int) ≠ 0 from by (have hw := W_eq (n := 0 - a0) (by omega) (by omega); rw [hw]; split <;> omega))])
    cases h2 : (decide (((if (a1 : Int) < (W (0 - a1)) then (W (0 - a1)) else a1) : Int) > (W (Int.tdiv 1099511627776 (if (a0 : Int) < (W (0 - a0)) then (W (0 - a0)) else a0))))) with
    | true =>
     have q2 := of_decide_eq_true h2
     let t3 : List (St Try.prog) := (t2 ++ [.d h2])
     cases h3 : (!((decide ((a0 : Int) < 0)) == (decide ((a1 : Int) < 0)))) with
     | true =>
      have e := Eq.refl (F33 a0 a1); conv at e => rhs; simp only [F33, h0, h1, h2, h3, cond_true, cond_false]
      rw [e]
      exact rt (t3 ++ [.d h3]) [] [] hcx (by kernel_rfl)
     | false =>
      have e := Eq.refl (F33 a0 a1); conv at e => rhs; simp only [F33, h0, h1, h2, h3, cond_true, cond_false]
      rw [e]
      exact rt (t3 ++ [.d h3]) [] [] hcx (by kernel_rfl)
    | false =>
     have q2 := of_decide_eq_false h2
     have e := Eq.refl (F33 a0 a1); conv at e => rhs; simp only [F33, h0, h1, h2, cond_true, cond_false]
     rw [e]
     exact rt (t2 ++ [.d h2]) [] [] hcx (by kernel_rfl)
   | false =>
    have q1 := bne_eq_false_iff_eq.1 h1
    have e := Eq.refl (F33 a0 a1); conv at e => rhs; simp only [F33, h0, h1, cond_true, cond_false]
    rw [e]
    exact rt (t1 ++ [.d h1]) [] [] hcx (by kernel_rfl)
  | false =>
   have q0 := bne_eq_false_iff_eq.1 h0
   have e := Eq.refl (F33 a0 a1); conv at e => rhs; simp only [F33, h0, cond_true, cond_false]
   rw [e]
   exact rt [.d h0] [] [] hcx (by kernel_rfl)

end Go.Proofs.Ytidhogejnafhaaa

namespace Go.Proofs.Ytidhogejnafhaaa
open Go.Proofs Go.Aw Go.RowKit
set_option maxRecDepth 100000
set_option linter.unusedVariables false
set_option linter.unusedSimpArgs false

end Go.Proofs.Ytidhogejnafhaaa

namespace Go.Proofs.Ytidhogejnafhaaa
open Go.Proofs Go.Aw Go.RowKit
set_option maxRecDepth 100000
set_option linter.unusedVariables false
set_option linter.unusedSimpArgs false

/-! ### Roots -/
theorem sq_unique {n a b : Int} (ha : 0 ≤ a) (hb : 0 ≤ b) (h1 : a * a ≤ n) (h2 : n < (a + 1) * (a + 1)) (h3 : b * b ≤ n) (h4 : n < (b + 1) * (b + 1)) : a = b := by
  rcases Int.lt_trichotomy a b with h | h | h
  · have : (a + 1) * (a + 1) ≤ b * b := Int.mul_le_mul (by omega) (by omega) (by omega) hb
    omega
  · exact h
  · have : (b + 1) * (b + 1) ≤ a * a := Int.mul_le_mul (by omega) (by omega) (by omega) ha
    omega
/-- r is the root of n, rounded down -/
def IsRt (n r : Int) : Prop := 0 ≤ r ∧ r * r ≤ n ∧ n < (r + 1) * (r + 1)
theorem IsRt.eq {n a b : Int} (h : IsRt n a) (h' : IsRt n b) : a = b := sq_unique h.1 h'.1 h.2.1 h.2.2 h'.2.1 h'.2.2
theorem IsRt.le {n r m : Int} (h : IsRt n r) (hm : 0 ≤ m) (hn : n < (m + 1) * (m + 1)) : r ≤ m := by
  rcases Int.lt_or_le m r with hlt | hle
  · have : (m + 1) * (m + 1) ≤ r * r := Int.mul_le_mul (by omega) (by omega) (by omega) h.1
    have := h.2.1; omega
  · exact hle
theorem IsRt.ge {n r m : Int} (h : IsRt n r) (hm : 0 ≤ m) (hn : m * m ≤ n) : m ≤ r := by
  rcases Int.lt_or_le r m with hlt | hle
  · have : (r + 1) * (r + 1) ≤ m * m := Int.mul_le_mul (by omega) (by omega) (by have := h.1; omega) hm
    have := h.2.2; omega
  · exact hle
theorem IsRt.mono {n m a b : Int} (h : IsRt n a) (h' : IsRt m b) (hnm : n ≤ m) : a ≤ b := h'.ge h.1 (Int.le_trans h.2.1 hnm)

theorem bits_spec {n : Int} {S : Int × Int → (Int × Int) ⊕ Int} (hS : ∀ k b, 0 ≤ k → 0 < b → k + b ≤ 2147483648 → S (k, b) = if (k + b) * (k + b) ≤ n then .inl (k + b, b / 2) else .inl (k, b / 2)) (h0 : ∀ k, S (k, 0) = .inr k) :
    ∀ (j f : Nat) (k : Int), j + 2 ≤ f → 0 ≤ k → k + 2 * 2 ^ j ≤ 2147483648 → k * k ≤ n → n < (k + 2 * 2 ^ j) * (k + 2 * 2 ^ j) → IsRt n (loopF S f (k, 2 ^ j)) := by
  intro j
  induction j with
  | zero =>
    intro f k hf hk hb h1 h2
    obtain ⟨f, rfl⟩ : ∃ g, f = g + 2 := ⟨f - 2, by omega⟩
    simp only [Int.pow_zero] at h2 hb ⊢
    have hs := hS k 1 hk (by omega) (by omega)
    by_cases hc : (k + 1) * (k + 1) ≤ n
    · rw [if_pos hc] at hs
      rw [loopF_inl hs, show ((1 : Int) / 2) = 0 by omega, loopF_inr (h0 _)]
      refine ⟨by omega, hc, ?_⟩
      rw [show k + 1 + 1 = k + 2 * 1 by omega]; exact h2
    · rw [if_neg hc] at hs
      rw [loopF_inl hs, show ((1 : Int) / 2) = 0 by omega, loopF_inr (h0 _)]
      exact ⟨hk, h1, by omega⟩
  | succ j ih =>
    intro f k hf hk hb h1 h2
    obtain ⟨f, rfl⟩ : ∃ g, f = g + 1 := ⟨f - 1, by omega⟩
    have hp : (0 : Int) < 2 ^ j := Int.pow_pos (by omega)
    rw [Int.pow_succ] at h2 hb ⊢
    have hs := hS k (2 ^ j * 2) hk (by omega) (by omega)
    have hd : (2 : Int) ^ j * 2 / 2 = 2 ^ j := Int.mul_ediv_cancel _ (by omega)
    rw [hd] at hs
    by_cases hc : (k + 2 ^ j * 2) * (k + 2 ^ j * 2) ≤ n
    · rw [if_pos hc] at hs
      rw [loopF_inl hs]
      refine ih f _ (by omega) (by omega) (by omega) hc ?_
      rw [show k + 2 ^ j * 2 + 2 * 2 ^ j = k + 2 * ((2 : Int) ^ j * 2) by omega]; exact h2
    · rw [if_neg hc] at hs
      rw [loopF_inl hs]
      refine ih f _ (by omega) hk (by omega) h1 ?_
      rw [show k + 2 * (2 : Int) ^ j = k + 2 ^ j * 2 by omega]; omega

theorem sq_bd {a : Int} (h : 0 ≤ a) (h' : a ≤ 2147483648) : 0 ≤ a * a ∧ a * a ≤ 4611686018427387904 := ⟨Int.mul_nonneg h h, Int.le_trans (Int.mul_le_mul h' h' h (by omega)) (by omega)⟩

theorem rtSpan {n : Int} (h0 : 0 ≤ n) (h : n < 4611686018427387904) : IsRt n (F35 n) := by
  unfold F35
  rw [show decide ((4611686018427387904 : Int) ≤ n) = false by simpa using h]
  simp only [cond_false]
  refine bits_spec (n := n) (fun k b hk hb hkb => ?_) (fun k => ?_) 30 _ 0 (by decide) (by omega) (by decide) (by omega) (by simpa using h)
  · have h2 : ((b : Int) == 0) = false := by rw [beq_eq_false_iff_ne]; omega
    have hw : W (k + b) = k + b := W_eq (by omega) (by omega)
    have hq := sq_bd (a := k + b) (by omega) hkb
    have hw2 : W ((k + b) * (k + b)) = (k + b) * (k + b) := W_eq (by omega) (by omega)
    simp only [S35_0, h2, cond_false, hw, hw2]
    by_cases hc : (k + b) * (k + b) ≤ n <;> simp [hc]
  · simp [S35_0]

/-! ### Points, in whole numbers -/
abbrev P3 := Int × Int × Int
abbrev PN := P3 × P3 × P3
def bd (m : Int) (p : P3) : Prop := (-m ≤ p.1 ∧ p.1 ≤ m) ∧ (-m ≤ p.2.1 ∧ p.2.1 ≤ m) ∧ (-m ≤ p.2.2 ∧ p.2.2 ≤ m)
def bdP (m : Int) (p : PN) : Prop := bd m p.1 ∧ bd m p.2.1 ∧ bd m p.2.2
def sb (p q : P3) : P3 := (p.1 - q.1, p.2.1 - q.2.1, p.2.2 - q.2.2)
def dt (p q : P3) : Int := p.1 * q.1 + p.2.1 * q.2.1 + p.2.2 * q.2.2
def cr (p q : P3) : P3 := (p.2.1 * q.2.2 - p.2.2 * q.2.1, p.2.2 * q.1 - p.1 * q.2.2, p.1 * q.2.1 - p.2.1 * q.1)
def nrm (p : PN) : P3 := cr (sb p.2.1 p.1) (sb p.2.2 p.1)

theorem mul_bd {a b x y : Int} (hx : -a ≤ x ∧ x ≤ a) (hy : -b ≤ y ∧ y ≤ b) : -(a * b) ≤ x * y ∧ x * y ≤ a * b := by
  have h1 := Int.mul_nonneg (show 0 ≤ a - x by omega) (show 0 ≤ b - y by omega)
  have h2 := Int.mul_nonneg (show 0 ≤ a + x by omega) (show 0 ≤ b + y by omega)
  have h3 := Int.mul_nonneg (show 0 ≤ a - x by omega) (show 0 ≤ b + y by omega)
  have h4 := Int.mul_nonneg (show 0 ≤ a + x by omega) (show 0 ≤ b - y by omega)
  rw [Int.sub_mul, Int.mul_sub, Int.mul_sub] at h1
  rw [Int.add_mul, Int.mul_add, Int.mul_add] at h2
  rw [Int.sub_mul, Int.mul_add, Int.mul_add] at h3
  rw [Int.add_mul, Int.mul_sub, Int.mul_sub] at h4
  omega

theorem bd_sb {a b : Int} {p q : P3} (hp : bd a p) (hq : bd b q) : bd (a + b) (sb p q) := by
  unfold bd at *; simp only [sb]; omega
theorem sq_nn (x : Int) : 0 ≤ x * x := by
  rcases Int.le_total 0 x with h | h
  · exact Int.mul_nonneg h h
  · exact Int.mul_nonneg_of_nonpos_of_nonpos h h
theorem dt_self (p : P3) : 0 ≤ dt p p := by
  have := sq_nn p.1; have := sq_nn p.2.1; have := sq_nn p.2.2
  simp only [dt]; omega
theorem dt_pos {p : P3} (h : ¬ (p.1 = 0 ∧ p.2.1 = 0 ∧ p.2.2 = 0)) : 1 ≤ dt p p := by
  have := sq_nn p.1; have := sq_nn p.2.1; have := sq_nn p.2.2
  have key : ∀ x : Int, x ≠ 0 → 1 ≤ x * x := fun x hx => by
    have h0 := sq_nn x
    have : x * x ≠ 0 := Int.mul_ne_zero hx hx
    omega
  simp only [dt]
  by_cases h1 : p.1 = 0
  · by_cases h2 : p.2.1 = 0
    · have := key p.2.2 (fun h3 => h ⟨h1, h2, h3⟩); omega
    · have := key _ h2; omega
  · have := key _ h1; omega
theorem dt_bd {a : Int} {p q : P3} (hp : bd a p) (hq : bd a q) : -(3 * (a * a)) ≤ dt p q ∧ dt p q ≤ 3 * (a * a) := by
  have := mul_bd hp.1 hq.1; have := mul_bd hp.2.1 hq.2.1; have := mul_bd hp.2.2 hq.2.2
  simp only [dt]; omega
theorem W0 {n : Int} (h : -9223372036854775808 ≤ n ∧ n < 9223372036854775808) : W n = n := W_eq h.1 h.2
theorem cr_W {p q : P3} (hp : bd 1000000000 p) (hq : bd 1000000000 q) :
    ((W ((W (p.2.1 * q.2.2)) - (W (p.2.2 * q.2.1)))), (W ((W (p.2.2 * q.1)) - (W (p.1 * q.2.2)))), (W ((W (p.1 * q.2.1)) - (W (p.2.1 * q.1))))) = cr p q := by
  have h1 := mul_bd hp.2.1 hq.2.2; have h2 := mul_bd hp.2.2 hq.2.1; have h3 := mul_bd hp.2.2 hq.1; have h4 := mul_bd hp.1 hq.2.2; have h5 := mul_bd hp.1 hq.2.1; have h6 := mul_bd hp.2.1 hq.1
  simp only [cr]
  rw [W_eq (n := p.2.1 * q.2.2) (by omega) (by omega), W_eq (n := p.2.2 * q.2.1) (by omega) (by omega), W_eq (n := p.2.2 * q.1) (by omega) (by omega), W_eq (n := p.1 * q.2.2) (by omega) (by omega), W_eq (n := p.1 * q.2.1) (by omega) (by omega), W_eq (n := p.2.1 * q.1) (by omega) (by omega),
    W_eq (by omega) (by omega), W_eq (by omega) (by omega), W_eq (by omega) (by omega)]
theorem scr {p q : P3} (hp : bd 1000000000 p) (hq : bd 1000000000 q) : F102 p q = cr p q := cr_W hp hq
theorem ssb {p q : P3} (hp : bd 100000 p) (hq : bd 100000 q) : F103 p q = sb p q := by
  unfold bd at *; simp only [F103, F105, sb]
  rw [W_eq (n := -1 * q.1) (by omega) (by omega), W_eq (n := -1 * q.2.1) (by omega) (by omega), W_eq (n := -1 * q.2.2) (by omega) (by omega), W_eq (by omega) (by omega), W_eq (by omega) (by omega), W_eq (by omega) (by omega)]
  refine Prod.ext (by simp only; omega) (Prod.ext (by simp only; omega) (by simp only; omega))
theorem bd.mono {a b : Int} {p : P3} (h : bd a p) (hab : a ≤ b) : bd b p := by unfold bd at *; omega
theorem bdP.mono {a b : Int} {p : PN} (h : bdP a p) (hab : a ≤ b) : bdP b p := ⟨h.1.mono hab, h.2.1.mono hab, h.2.2.mono hab⟩

/-! ### Valid panels -/
theorem within_eq (n a b : Int) : F80 n a b = decide (a ≤ n ∧ n ≤ b) := by
  unfold F80
  by_cases h1 : n ≥ a <;> by_cases h2 : n ≤ b <;> simp [h1, h2] <;> omega
theorem from_eq (n a b : Int) : F101 n a b = decide (a ≤ n ∧ n ≤ b) := by
  unfold F101
  by_cases h1 : a ≤ n <;> by_cases h2 : n ≤ b <;> simp [h1, h2]
theorem and3 {a b c d : Prop} [Decidable a] [Decidable b] [Decidable c] [Decidable d] (h : (a ∧ b ∧ c) ↔ d) : (bif decide a then (bif decide b then decide c else false) else false) = decide d := by
  by_cases h1 : a
  · by_cases h2 : b
    · rw [decide_eq_true h1, decide_eq_true h2, cond_true, cond_true]
      by_cases h3 : c
      · rw [decide_eq_true h3, decide_eq_true (h.1 ⟨h1, h2, h3⟩)]
      · rw [decide_eq_false h3, decide_eq_false (fun hd => h3 (h.2 hd).2.2)]
    · rw [decide_eq_true h1, decide_eq_false h2, cond_true, cond_false, decide_eq_false (fun hd => h2 (h.2 hd).2.1)]
  · rw [decide_eq_false h1, cond_false, decide_eq_false (fun hd => h1 (h.2 hd).1)]
theorem eq3 (x y z a b : Int) : (bif (((x : Int) == 0) && (((y : Int) == 0) && (((z : Int) == 0) && true))) then a else b) = if x = 0 ∧ y = 0 ∧ z = 0 then a else b := by
  have key : ∀ t : Int, (t == 0) = decide (t = 0) := fun t => by
    by_cases h : t = 0
    · rw [decide_eq_true h]; simpa using h
    · rw [decide_eq_false h]; simpa using h
  rw [key, key, key, Bool.and_true, ← Bool.decide_and, ← Bool.decide_and]
  by_cases h : x = 0 ∧ y = 0 ∧ z = 0
  · rw [if_pos h, decide_eq_true h, cond_true]
  · rw [if_neg h, decide_eq_false h, cond_false]
open Classical in
theorem inRange_eq (p : P3) : F91 p 64 = decide (bd 64 p) := by
  unfold F91
  rw [from_eq, from_eq, from_eq, W_eq (by omega) (by omega)]
  exact and3 (by unfold bd; omega)
open Classical in
noncomputable def vp (p : PN) : Int := if bdP 64 p then (if (nrm p).1 = 0 ∧ (nrm p).2.1 = 0 ∧ (nrm p).2.2 = 0 then 6 else 0) else 1
theorem nrm_s {p : PN} (h : bdP 64 p) : F92 p = nrm p := by
  have h1 := h.1.mono (show (64 : Int) ≤ 100000 by omega); have h2 := h.2.1.mono (show (64 : Int) ≤ 100000 by omega); have h3 := h.2.2.mono (show (64 : Int) ≤ 100000 by omega)
  unfold F92 nrm
  rw [ssb h2 h1, ssb h3 h1]
  exact scr ((bd_sb h.2.1 h.1).mono (by omega)) ((bd_sb h.2.2 h.1).mono (by omega))
theorem vp_s (p : PN) : F78 p = vp p := by
  unfold F78 vp
  rw [inRange_eq, inRange_eq, inRange_eq]
  by_cases h1 : bd 64 p.1
  · by_cases h2 : bd 64 p.2.1
    · by_cases h3 : bd 64 p.2.2
      · have hb : bdP 64 p := ⟨h1, h2, h3⟩
        rw [nrm_s hb, if_pos hb]
        rw [eq3]; simp [h1, h2, h3]
      · simp [h1, h2, h3, bdP]
    · simp [h1, h2, bdP]
  · simp [h1, bdP]
/-- a valid panel -/
theorem vp_ok {p : PN} (h : vp p = 0) : bdP 64 p ∧ 1 ≤ dt (nrm p) (nrm p) := by
  unfold vp at h
  split at h
  · rename_i hb
    split at h
    · cases h
    · rename_i hn; exact ⟨hb, dt_pos hn⟩
  · cases h
end Go.Proofs.Ytidhogejnafhaaa

namespace Go.Proofs.Ytidhogejnafhaaa
open Go.Proofs Go.Aw Go.RowKit
set_option maxRecDepth 100000
set_option linter.unusedVariables false
set_option linter.unusedSimpArgs false

/-! ### The reference's list of parts -/
/-! ### It is the program's -/
def quad (x : PN) : List PN := [q1 x, q2 x, q3 x, q4 x]
theorem times_f {p : P3} (h : bd 100000 p) : F81 p 2 = (2 * p.1, 2 * p.2.1, 2 * p.2.2) := by
  unfold bd at h; simp only [F81]; rw [W_eq (by omega) (by omega), W_eq (by omega) (by omega), W_eq (by omega) (by omega)]
theorem mid_f {p q : P3} (hp : bd 100000 p) (hq : bd 100000 q) : F95 p q = (p.1 + q.1, p.2.1 + q.2.1, p.2.2 + q.2.2) := by
  unfold bd at hp hq; simp only [F95]; rw [W_eq (by omega) (by omega), W_eq (by omega) (by omega), W_eq (by omega) (by omega)]
theorem quad_bd {m : Int} {x y : PN} (h : bdP m x) (hm : m ≤ 100000) (hy : y ∈ quad x) : bdP (2 * m) y := by
  have h1 := h.1.mono hm; have h2 := h.2.1.mono hm; have h3 := h.2.2.mono hm
  unfold quad q1 q2 q3 q4 at hy
  rw [mid_f h1 h2, mid_f h3 h1, mid_f h2 h3, times_f h1, times_f h2, times_f h3] at hy
  have ha := h.1; have hb := h.2.1; have hc := h.2.2
  unfold bd at ha hb hc
  simp only [List.mem_cons, List.mem_nil_iff, or_false] at hy
  unfold bdP bd
  rcases hy with rfl | rfl | rfl | rfl <;> simp only <;> omega
theorem cutL_quad : ∀ (d : Nat) (p : PN), cutL (d + 1) p = (cutL d p).flatMap quad
  | 0, p => by simp [cutL, quad]
  | d + 1, p => by
    rw [show cutL (d + 1 + 1) p = cutL (d + 1) (q1 p) ++ (cutL (d + 1) (q2 p) ++ (cutL (d + 1) (q3 p) ++ cutL (d + 1) (q4 p))) from rfl]
    rw [cutL_quad d (q1 p), cutL_quad d (q2 p), cutL_quad d (q3 p), cutL_quad d (q4 p)]
    simp only [cutL, List.flatMap_append]
theorem cutL_bd : ∀ (d : Nat) {m : Int} {p x : PN}, bdP m p → m * 2 ^ d ≤ 100000 → 0 ≤ m → x ∈ cutL d p → bdP (m * 2 ^ d) x
  | 0, m, p, x, h, _, _, hx => by simp [cutL] at hx; subst hx; simpa using h
  | d + 1, m, p, x, h, hm, h0, hx => by
    rw [cutL_quad, List.mem_flatMap] at hx
    obtain ⟨y, hy, hx⟩ := hx
    have hp : (0 : Int) < 2 ^ d := Int.pow_pos (by omega)
    have hle : m * 2 ^ d ≤ m * 2 ^ (d + 1) := Int.mul_le_mul_of_nonneg_left (by rw [Int.pow_succ]; omega) h0
    have := quad_bd (cutL_bd d h (by omega) h0 hy) (by omega) hx
    rw [Int.pow_succ, ← Int.mul_assoc, Int.mul_comm]; exact this
end Go.Proofs.Ytidhogejnafhaaa

namespace Go.Proofs.Ytidhogejnafhaaa
open Go.Proofs Go.Aw Go.RowKit
set_option maxRecDepth 100000
set_option linter.unusedVariables false
set_option linter.unusedSimpArgs false

/-- facet/field.cut -/
theorem C82 (a0 : (Int × Int × Int) × (Int × Int × Int) × Int × Int × Int) (a1 : Int) : Con Try.prog 82 [(.a (k9 a0)), (iv a1)] [] (.f 93 [(.p 0 0), (.p 1 0)]) [(.live true false (k9 a0)), (.live true false [(iv a1)])] := by
  refine con_s Try.func82 (by kernel_rfl) fun cx hcx => ?_
  exact rt [] [] [0, 1] hcx (by kernel_rfl)

/-- api.Panel, as cells -/
def c45 (x : (Int × Int × Int) × (Int × Int × Int) × Int × Int × Int) : List SV := [(iv x.1.1), (iv x.1.2.1), (iv x.1.2.2), (iv x.2.1.1), (iv x.2.1.2.1), (iv x.2.1.2.2), (iv x.2.2.1), (iv x.2.2.2.1), (iv x.2.2.2.2)]
theorem c45_len (x : (Int × Int × Int) × (Int × Int × Int) × Int × Int × Int) : (c45 x).length = 9 := rfl

noncomputable def RA100_n_c93 : Code := match (codeAtD [1, 0, 1, 0] [] (Try.f100.body.getD .skip)).1 with
  | .rangeFunc _ _ a b => a
  | _ => .skip

noncomputable def RB100_n_c93 : Code := match (codeAtD [1, 0, 1, 0] [] (Try.f100.body.getD .skip)).1 with
  | .rangeFunc _ _ a b => b
  | _ => .skip

noncomputable def RK100_n_c93 : List K := (codeAtD [1, 0, 1, 0] [] (Try.f100.body.getD .skip)).2

/-- between two rounds of the range of slices.AppendSeq[[]facet/api.Panel,facet/api.Panel]; the variables: v1 = h2_0 -/
def st100_n_c93 (a1_0 : (Int × Int × Int) × (Int × Int × Int) × Int × Int × Int) (a1_1 : Int) : List ((Int × Int × Int) × (Int × Int × Int) × Int × Int × Int) → LS
  | v1 => ⟨[.u, .u, (.p 2 0), .u, .u, .u, (.f 93 [(.p 0 0), (.p 1 0)]), .u, .u, .u, .u, .u, .u], [(.live false false (k9 a1_0)), (.live false false [(iv a1_1)]), (.live true false [(.s 3 0 v1.length 9)]), (.live true true (flat c45 v1))]⟩

def sA100_n_c93 (a1_0 : (Int × Int × Int) × (Int × Int × Int) × Int × Int × Int) (a1_1 : Int) : List ((Int × Int × Int) × (Int × Int × Int) × Int × Int × Int) → (Int × Int × Int) × (Int × Int × Int) × Int × Int × Int → LS
  | v1, x => ⟨[.u, .u, (.p 2 0), .u, .u, (.p 3 0), .u, .u, .u, .u, .u, .u, .u], [(.live false false (k9 a1_0)), (.live false false [(iv a1_1)]), (.live true false [(.s 4 0 v1.length 9)]), (.live true false (k9 x)), (.live true true (flat c45 v1))]⟩

def S100_n_c93_r (a1_0 : (Int × Int × Int) × (Int × Int × Int) × Int × Int × Int) (a1_1 : Int) : List ((Int × Int × Int) × (Int × Int × Int) × Int × Int × Int) → (Int × Int × Int) × (Int × Int × Int) × Int × Int × Int → List ((Int × Int × Int) × (Int × Int × Int) × Int × Int × Int)
  | v1, x =>
   (v1 ++ [x])

def G100_n_c93 (a1_0 : (Int × Int × Int) × (Int × Int × Int) × Int × Int × Int) (a1_1 : Int) : List ((Int × Int × Int) × (Int × Int × Int) × Int × Int × Int) → List ((Int × Int × Int) × (Int × Int × Int) × Int × Int × Int)
  | v1 =>
   v1

def inv100_n_c93 (a1_0 : (Int × Int × Int) × (Int × Int × Int) × Int × Int × Int) (a1_1 : Int) : Nat → List ((Int × Int × Int) × (Int × Int × Int) × Int × Int × Int) → Prop
  | i, v1 => (v1.length = i)

/-- slices.AppendSeq[[]facet/api.Panel,facet/api.Panel] at ('n', 'c93') -/
def F100_n_c93 (a1_0 : (Int × Int × Int) × (Int × Int × Int) × Int × Int × Int) (a1_1 : Int) : List ((Int × Int × Int) × (Int × Int × Int) × Int × Int × Int) :=
  (G100_n_c93 a1_0 a1_1 ((cutL (Int.toNat a1_1) a1_0).foldl (S100_n_c93_r a1_0 a1_1) ([] : List ((Int × Int × Int) × (Int × Int × Int) × Int × Int × Int))))

theorem C100_n_c93 (a1_0 : (Int × Int × Int) × (Int × Int × Int) × Int × Int × Int) (a1_1 : Int) (ha : 0 ≤ a1_1 ∧ a1_1 ≤ 3) : Con Try.prog 100 [(.v (.slice none 0 0)), (.f 93 [(.p 0 0), (.p 1 0)])] [(.live false false (k9 a1_0)), (.live false false [(iv a1_1)])] (.s 2 0 (F100_n_c93 a1_0 a1_1).length 9) [(.live true true (flat c45 (F100_n_c93 a1_0 a1_1)))] := by
  have e : (F100_n_c93 a1_0 a1_1) = (G100_n_c93 a1_0 a1_1 ((cutL (Int.toNat a1_1) a1_0).foldl (S100_n_c93_r a1_0 a1_1) ([] : List ((Int × Int × Int) × (Int × Int × Int) × Int × Int × Int)))) := by simp only [F100_n_c93]
  rw [e]
  refine con_of_mark (n := 9) Try.func100 rfl (ent Try.func100 (by kernel_rfl) rfl) (by show 2 ≤ Try.f100.ntmps; decide) (by kernel_rfl) ⟨rfl, rfl, trivial⟩ (fun cx hcx => ?_)
  refine at_of (T := T0) hT hm (f := 5000) (orc := []) [.cell 2 0 9] [2, 6] [2, 3] hcx (x := .rangeFunc (.tmp 6) #[7] RA100_n_c93 RB100_n_c93) (k' := RK100_n_c93) (s' := st100_n_c93 a1_0 a1_1 ([] : List ((Int × Int × Int) × (Int × Int × Int) × Int × Int × Int)))
    (obs := []) (by kernel_rfl) trivial ?_
  refine range_of (xs := cutL (Int.toNat a1_1) a1_0) (enc := encP) (V := List ((Int × Int × Int) × (Int × Int × Int) × Int × Int × Int)) (R' := Empty) hcx rfl [0, 1] [(.p 0 0), (.p 1 0)] [(.live false false (k9 a1_0)), (.live false false [(iv a1_1)])] rfl rfl (iter_cutI a1_0 a1_1 (by first | omega | exact pair_le h0)) (fun x => SV.a (cP x)) encP_rel cP_has 3 (Nat.le_of_ble_eq_true rfl) (of_decide_eq_true (by kernel_rfl))
    (st100_n_c93 a1_0 a1_1) ([] : List ((Int × Int × Int) × (Int × Int × Int) × Int × Int × Int)) rfl (fun v1 => (by kernel_rfl)) (by kernel_rfl) (fun v v' => (roSub_ro (roSub_ro (roSub_own (roSub_own roSub_nil))))) (fun v1 => (by kernel_rfl)) (fun v1 => (by kernel_rfl)) (fun v1 => (Nat.le_of_ble_eq_true (by kernel_rfl)))
    (fun v x => .inl (S100_n_c93_r a1_0 a1_1 v x)) (fun r => r.elim) (fun v r => r.elim) (fun r => r.elim)
    (inv100_n_c93 a1_0 a1_1) (by simp [inv100_n_c93]) (sA100_n_c93 a1_0 a1_1) (fun v1 x => (by kernel_rfl)) (fun v1 x => (by kernel_rfl)) (fun v1 x => (Nat.le_of_ble_eq_true (by kernel_rfl)))
    (fun cx' l i v1 x QA hcx' hx hinv hg => norm_of (T := T0) hT hm (f := 5000) (orc := []) [] [2, 5] [4, 3] hcx' (obs := []) (by kernel_rfl) trivial hg)
    (fun cx' l i v1 x QB hcx' hx hinv hb1 hb2 => ?_) (fun cx' d v1 hh hv hinv => ?_) (fun cx' d r hh hv => ?_)
  · show Aw.Good _ _ _ _ _ _ _ (sA100_n_c93 a1_0 a1_1 v1 x)
    simp only [inv100_n_c93] at hinv
    have hlt := cut_lt ha hx
    have e : (Sum.inl (S100_n_c93_r a1_0 a1_1 v1 x) : (List ((Int × Int × Int) × (Int × Int × Int) × Int × Int × Int)) ⊕ Empty) = .inl (v1 ++ [x]) := by simp only [S100_n_c93_r]
    refine norm_of (T := T0) hT hm (f := 5000) (orc := []) [] [] [6] hcx' (s' := ⟨List.replicate 13 .u, [(.live false false (k9 a1_0)), (.live false false [(iv a1_1)]), (.live true false [(.s 3 0 (v1.length + 1) 9)]), (.live true true (flat c45 v1 ++ (k9 x)))]⟩)
      (obs := [.pr ((flat c45 v1).length = v1.length * 9 ∧ v1.length + 1 ≤ 2 ^ 40 ∧ (v1.length + 1) * 72 ≤ 2 ^ 47)]) (by kernel_rfl) ⟨(show ((flat c45 v1).length = v1.length * 9 ∧ v1.length + 1 ≤ 2 ^ 40 ∧ (v1.length + 1) * 72 ≤ 2 ^ 47) from app_ok c45_len (by omega) (by omega)), trivial⟩ ?_
    have z0 : (flat c45 v1 ++ (k9 x)) = (flat c45 (v1 ++ [x])) := (flat_append (c := c45) (l := v1) (m := [x])).symm
    have z1 : (v1.length + 1) = (v1 ++ [x]).length := len_app v1 [x] rfl
    rw [z0, z1]
    exact hb1 _ e (by simp only [inv100_n_c93, List.length_append, List.length_cons, List.length_nil]; omega)
  · rw [runL_foldl, Sum.inl.injEq] at hv; rw [hv]
    show Aw.Good _ _ _ _ _ _ _ (st100_n_c93 a1_0 a1_1 v1)
    simp only [inv100_n_c93] at hinv
    have e : G100_n_c93 a1_0 a1_1 v1 = v1 := by simp only [G100_n_c93]
    rw [e]
    exact retH_of (T := T0) hT hm (f := 5000) (orc := []) [] [] [3] hh hcx
      (obs := []) (by kernel_rfl) trivial
  · exact r.elim

/-- slices.Collect[facet/api.Panel] at ('c93',) -/
def F89_c93 (a0_0 : (Int × Int × Int) × (Int × Int × Int) × Int × Int × Int) (a0_1 : Int) : List ((Int × Int × Int) × (Int × Int × Int) × Int × Int × Int) :=
  (F100_n_c93 a0_0 a0_1)

theorem C89_c93 (a0_0 : (Int × Int × Int) × (Int × Int × Int) × Int × Int × Int) (a0_1 : Int) (ha : 0 ≤ a0_1 ∧ a0_1 ≤ 3) : Con Try.prog 89 [(.f 93 [(.p 0 0), (.p 1 0)])] [(.live false false (k9 a0_0)), (.live false false [(iv a0_1)])] (.s 2 0 (F89_c93 a0_0 a0_1).length 9) [(.live true true (flat c45 (F89_c93 a0_0 a0_1)))] := by
  refine con_s Try.func89 (by kernel_rfl) fun cx hcx => ?_
  have e := Eq.refl (F89_c93 a0_0 a0_1); conv at e => rhs; simp only [F89_c93]
  rw [e]
  exact rt [.c [0, 1] (C100_n_c93 a0_0 a0_1  (by (try simp only [List.length_append, List.length_cons, List.length_nil, Int.toNat_zero]); omega))] [] [2] hcx (by kernel_rfl)

end Go.Proofs.Ytidhogejnafhaaa

namespace Go.Proofs.Ytidhogejnafhaaa
open Go.Proofs Go.Aw Go.RowKit
set_option maxRecDepth 100000
set_option linter.unusedVariables false
set_option linter.unusedSimpArgs false

end Go.Proofs.Ytidhogejnafhaaa

namespace Go.Proofs.Ytidhogejnafhaaa
open Go.Proofs Go.Aw Go.RowKit
set_option maxRecDepth 100000
set_option linter.unusedVariables false
set_option linter.unusedSimpArgs false

/-! ### How far, how near -/
def mx (a b : Int) : Int := if a < b then b else a
theorem mx_le {a b c : Int} (h : a ≤ c) (h' : b ≤ c) : mx a b ≤ c := by unfold mx; split <;> assumption
theorem le_mx1 (a b : Int) : a ≤ mx a b := by unfold mx; split <;> omega
theorem le_mx2 (a b : Int) : b ≤ mx a b := by unfold mx; split <;> omega
def ds (p q : P3) : Int := dt (sb p q) (sb p q)
/-! boxes -/
def lo3 (a b c : Int) : Int := if c < (if b < (if a < a then a else a) then b else (if a < a then a else a)) then c else (if b < (if a < a then a else a) then b else (if a < a then a else a))
def hi3 (a b c : Int) : Int := if (if (if a < a then a else a) < b then b else (if a < a then a else a)) < c then c else (if (if a < a then a else a) < b then b else (if a < a then a else a))
theorem lo3_le (a b c : Int) : lo3 a b c ≤ a ∧ lo3 a b c ≤ b ∧ lo3 a b c ≤ c := by
  unfold lo3; simp only [Int.lt_irrefl, if_false]; split <;> split at * <;> omega
theorem le_hi3 (a b c : Int) : a ≤ hi3 a b c ∧ b ≤ hi3 a b c ∧ c ≤ hi3 a b c := by
  unfold hi3; simp only [Int.lt_irrefl, if_false]; split <;> split at * <;> omega
theorem lo3_in (a b c : Int) : lo3 a b c = a ∨ lo3 a b c = b ∨ lo3 a b c = c := by
  unfold lo3; simp only [Int.lt_irrefl, if_false]; split <;> split at * <;> omega
theorem hi3_in (a b c : Int) : hi3 a b c = a ∨ hi3 a b c = b ∨ hi3 a b c = c := by
  unfold hi3; simp only [Int.lt_irrefl, if_false]; split <;> split at * <;> omega
/-- the gap between two intervals -/
def gp (a b c d : Int) : Int := mx (mx 0 (c - b)) (a - d)
theorem gp_nn (a b c d : Int) : 0 ≤ gp a b c d := Int.le_trans (le_mx1 0 _) (le_mx1 _ _)
/-- the squared distance of two boxes -/
def nr (a b c d : P3) : Int := gp a.1 b.1 c.1 d.1 * gp a.1 b.1 c.1 d.1 + gp a.2.1 b.2.1 c.2.1 d.2.1 * gp a.2.1 b.2.1 c.2.1 d.2.1 + gp a.2.2 b.2.2 c.2.2 d.2.2 * gp a.2.2 b.2.2 c.2.2 d.2.2
def blo (c : PN) : P3 := (lo3 c.1.1 c.2.1.1 c.2.2.1, lo3 c.1.2.1 c.2.1.2.1 c.2.2.2.1, lo3 c.1.2.2 c.2.1.2.2 c.2.2.2.2)
def bhi (c : PN) : P3 := (hi3 c.1.1 c.2.1.1 c.2.2.1, hi3 c.1.2.1 c.2.1.2.1 c.2.2.2.1, hi3 c.1.2.2 c.2.1.2.2 c.2.2.2.2)
theorem blo_bd {m : Int} {c : PN} (h : bdP m c) : bd m (blo c) := by
  have h1 := lo3_in c.1.1 c.2.1.1 c.2.2.1; have h2 := lo3_in c.1.2.1 c.2.1.2.1 c.2.2.2.1; have h3 := lo3_in c.1.2.2 c.2.1.2.2 c.2.2.2.2
  have ha := h.1; have hb := h.2.1; have hc := h.2.2
  unfold bd at *; simp only [blo]; omega
theorem bhi_bd {m : Int} {c : PN} (h : bdP m c) : bd m (bhi c) := by
  have h1 := hi3_in c.1.1 c.2.1.1 c.2.2.1; have h2 := hi3_in c.1.2.1 c.2.1.2.1 c.2.2.2.1; have h3 := hi3_in c.1.2.2 c.2.1.2.2 c.2.2.2.2
  have ha := h.1; have hb := h.2.1; have hc := h.2.2
  unfold bd at *; simp only [bhi]; omega
theorem gp_bd {a b c d : Int} (ha : -5000 ≤ a ∧ a ≤ 5000) (hb : -5000 ≤ b ∧ b ≤ 5000) (hc : -5000 ≤ c ∧ c ≤ 5000) (hd : -5000 ≤ d ∧ d ≤ 5000) : 0 ≤ gp a b c d ∧ gp a b c d ≤ 10000 :=
  ⟨gp_nn _ _ _ _, mx_le (mx_le (by omega) (by omega)) (by omega)⟩
/-! the reference's -/
theorem sum3 {a b c : Int} (ha : 0 ≤ a ∧ a ≤ 100000000) (hb : 0 ≤ b ∧ b ≤ 100000000) (hc : 0 ≤ c ∧ c ≤ 100000000) : W ((W (a + b)) + c) = a + b + c := by
  rw [W_eq (n := a + b) (by omega) (by omega), W_eq (by omega) (by omega)]
end Go.Proofs.Ytidhogejnafhaaa

namespace Go.Proofs.Ytidhogejnafhaaa
open Go.Proofs Go.Aw Go.RowKit
set_option maxRecDepth 100000
set_option linter.unusedVariables false
set_option linter.unusedSimpArgs false

/-! ### What is asked -/
open Classical in
theorem seen_f (x : P3) : F79 x = decide (bd 256 x) := by
  unfold F79
  rw [within_eq, within_eq, within_eq]
  exact and3 (by unfold bd; omega)
open Classical in
noncomputable def ck (p : PN) (x : P3) (d : Int) : Int := if vp p = 0 then (if bd 256 x ∧ (0 ≤ d ∧ d ≤ 3) then 0 else 1) else vp p
open Classical in
theorem ck_aux (v : Int) (a b : Prop) [Decidable a] [Decidable b] : (bif (v != 0) then v else (bif (!(decide a)) then 1 else (bif (!(decide b)) then (1 : Int) else 0))) = if v = 0 then (if a ∧ b then 0 else 1) else v := by
  by_cases hv : v = 0
  · subst hv
    by_cases ha : a <;> by_cases hb : b <;> simp [ha, hb]
  · rw [bne_iff_ne.2 hv, cond_true, if_neg hv]
open Classical in
theorem chk_eq (p : PN) (x : P3) (d : Int) : F60 p x d = ck p x d := by
  unfold F60 ck
  rw [vp_s, seen_f, within_eq]
  exact ck_aux _ _ _
theorem ck_ok {p : PN} {x : P3} {d : Int} (h : ck p x d = 0) : vp p = 0 ∧ bd 256 x ∧ 0 ≤ d ∧ d ≤ 3 := by
  unfold ck at h
  split at h
  · rename_i h0
    split at h
    · rename_i h1; exact ⟨h0, h1⟩
    · cases h
  · rename_i h0; exact absurd h h0
theorem chk_ok {p : PN} {x : P3} {d : Int} (h : ((F60 p x d : Int) != 0) = false) : vp p = 0 ∧ bd 256 x ∧ 0 ≤ d ∧ d ≤ 3 :=
  ck_ok (by rw [← chk_eq]; simpa using h)
theorem chk_le {p : PN} {x : P3} {d : Int} (h : ((F60 p x d : Int) != 0) = false) : 0 ≤ d ∧ d ≤ 3 := (chk_ok h).2.2
/-- facet/field.Parts -/
def F75 (a0 : (Int × Int × Int) × (Int × Int × Int) × Int × Int × Int) (a1 : Int) : (List ((Int × Int × Int) × (Int × Int × Int) × Int × Int × Int)) × Int :=
  (bif (((F60 a0 (0, 0, 0) a1) : Int) != 0) then
   (([] : List ((Int × Int × Int) × (Int × Int × Int) × Int × Int × Int)), (F60 a0 (0, 0, 0) a1))
  else
   ((F89_c93 a0 a1), 0))

theorem C75 (a0 : (Int × Int × Int) × (Int × Int × Int) × Int × Int × Int) (a1 : Int) : Con Try.prog 75 [(.a (k9 a0)), (iv a1)] [] (.t [(.s 0 0 (F75 a0 a1).1.length 9), (iv (F75 a0 a1).2)]) [(.live true true (flat c45 (F75 a0 a1).1))] := by
  refine con_s Try.func75 (by kernel_rfl) fun cx hcx => ?_
  let t0 : List (St Try.prog) := [.c [] (C60 a0 (0, 0, 0) a1)]
  cases h0 : (((F60 a0 (0, 0, 0) a1) : Int) != 0) with
  | true =>
   have q0 := bne_iff_ne.1 h0
   have e := Eq.refl (F75 a0 a1); conv at e => rhs; simp only [F75, h0, cond_true, cond_false]
   rw [e]
   exact rt (t0 ++ [.d h0]) [.slot 4 9] [1] hcx (by kernel_rfl)
  | false =>
   have q0 := bne_eq_false_iff_eq.1 h0
   have e := Eq.refl (F75 a0 a1); conv at e => rhs; simp only [F75, h0, cond_true, cond_false]
   rw [e]
   exact rt (t0 ++ [.d h0, .c [] (C82 a0 a1), .c [1, 2] (C89_c93 a0 a1  (chk_le h0))]) [] [3] hcx (by kernel_rfl)

end Go.Proofs.Ytidhogejnafhaaa

namespace Go.Proofs.Ytidhogejnafhaaa
open Go.Proofs Go.Aw Go.RowKit
set_option maxRecDepth 100000
set_option linter.unusedVariables false
set_option linter.unusedSimpArgs false

/-! ### The parts -/
theorem foldl_snoc {α : Type} : ∀ (l a : List α), l.foldl (fun v x => v ++ [x]) a = a ++ l
  | [], a => by simp
  | x :: l, a => by rw [List.foldl_cons, foldl_snoc l]; simp
theorem collect_eq (p : PN) (d : Int) : F89_c93 p d = cutL d.toNat p := by
  have h := foldl_snoc (cutL d.toNat p) []
  rw [List.nil_append] at h
  exact h
open Classical in
theorem parts_f (p : PN) (d : Int) : F75 p d = if vp p = 0 then (if 0 ≤ d ∧ d ≤ 3 then (cutL d.toNat p, 0) else ([], 1)) else ([], vp p) := by
  have h0 : bd 256 (0, 0, 0) := by unfold bd; simp only; omega
  unfold F75
  rw [chk_eq, collect_eq]
  unfold ck
  by_cases hv : vp p = 0
  · by_cases hd : 0 ≤ d ∧ d ≤ 3
    · rw [if_pos hv, if_pos ⟨h0, hd⟩, if_pos hv, if_pos hd]; rfl
    · rw [if_pos hv, if_neg (fun h => hd h.2), if_pos hv, if_neg hd]; rfl
  · rw [if_neg hv, if_neg hv, bne_iff_ne.2 hv, cond_true]
theorem cutL_len : ∀ (d : Nat) (p : PN), (cutL d p).length = 4 ^ d
  | 0, p => rfl
  | d + 1, p => by
    rw [cutL_quad]
    have : ∀ l : List PN, (l.flatMap quad).length = 4 * l.length := fun l => by
      induction l with
      | nil => rfl
      | cons x l ih => rw [List.flatMap_cons, List.length_append, ih]; show 4 + _ = _; simp only [List.length_cons]; omega
    rw [this, cutL_len d p, Nat.pow_succ]; omega
end Go.Proofs.Ytidhogejnafhaaa

namespace Go.Proofs.Ytidhogejnafhaaa
open Go.Proofs Go.Aw Go.RowKit
set_option maxRecDepth 100000
set_option linter.unusedVariables false
set_option linter.unusedSimpArgs false

/-! ### From the contract to the row -/
open Go.ChangeShapes Go.WideShapes Go.ChangeAt
/-- the fields lie behind one another, up to place n -/
def contB (P : Program) (ok : TypeId → Bool) (n : Nat) : List Field → Nat → Bool
  | [], o => o == n
  | f :: l, o => f.offset == o && ok f.type && contB P ok n l (o + P.cellsOf f.type)
/-- a type of numbers alone (int, and structs of these) -/
def flatB (P : Program) : Nat → TypeId → Bool
  | 0, _ => false
  | k + 1, t => match P.underlying t with
    | some (.int .i64) => true
    | some (.struct fs) => contB P (flatB P k) (P.cellsOf t) fs.toList 0
    | _ => false
section
variable {H : Type} {enc : TypeId × Value → H} {P : Program} {w : World} {base : Nat} {spare : Nat → Bool} {held : Bool}
theorem cont_trod {ok : TypeId → Bool} {n fuel : Nat} {cs : List Value}
    (hok : ∀ t cs x, ok t = true → DataW.trod enc P w base spare held fuel t cs = some x → x.2 = [] ∧ ∃ ns : List Int, cs = ns.map (Value.int .i64)) (hn : cs.length = n) :
    ∀ (l : List Field) (o : Nat) (ys : List (DataW H × List MemPlace)), contB P ok n l o = true → ys.length = l.length →
      (∀ (j : Nat) (f : Field), l[j]? = some f → DataW.trod enc P w base spare held fuel f.type ((cs.drop f.offset).take (P.cellsOf f.type)) = ys[j]?) →
      (∀ y ∈ ys, y.2 = []) ∧ ∃ ns : List Int, cs.drop o = ns.map (Value.int .i64)
  | [], o, ys, hc, hl, _ => by
    have : ys = [] := List.length_eq_zero_iff.1 hl
    subst this
    simp only [contB, beq_iff_eq] at hc
    exact ⟨fun y hy => by simp at hy, [], by rw [hc, ← hn, List.drop_length]; rfl⟩
  | f :: l, o, ys, hc, hl, hf => by
    cases ys with
    | nil => simp at hl
    | cons y ys =>
      simp only [contB, Bool.and_eq_true, beq_iff_eq] at hc
      obtain ⟨⟨h1, h2⟩, h3⟩ := hc
      have g0 := hf 0 f rfl
      rw [h1] at g0
      obtain ⟨e1, n1, e2⟩ := hok f.type _ y h2 g0
      obtain ⟨e3, n2, e4⟩ := cont_trod hok hn l _ ys h3 (by simpa using hl) (fun j g hg => hf (j + 1) g hg)
      refine ⟨fun z hz => ?_, n1 ++ n2, ?_⟩
      · rcases List.mem_cons.1 hz with rfl | hz
        · exact e1
        · exact e3 z hz
      · rw [List.map_append, ← e2, ← e4, ← List.drop_drop, List.take_append_drop]
theorem flat_trod : ∀ (k : Nat) (t : TypeId) (fuel : Nat) (cs : List Value) (x : DataW H × List MemPlace), flatB P k t = true → DataW.trod enc P w base spare held fuel t cs = some x →
    x.2 = [] ∧ ∃ ns : List Int, cs = ns.map (Value.int .i64)
  | 0, _, _, _, _, h, _ => by simp [flatB] at h
  | k + 1, t, fuel, cs, x, h, hx => by
    unfold flatB at h
    split at h
    · rename_i ht
      obtain ⟨n, rfl, rfl, _⟩ := DataW.trod_int ht hx
      exact ⟨rfl, [n], rfl⟩
    · rename_i fs ht
      obtain ⟨xs, m, rfl, rfl, hl, hlen, hf⟩ := DataW.trod_struct ht hx
      obtain ⟨e1, ns, e2⟩ := cont_trod (fun t cs x h hx => flat_trod k t m cs x h hx) hl fs.toList 0 xs h (by simpa using hlen) (fun j f hj => hf j f (by simpa using hj))
      refine ⟨?_, ns, by simpa using e2⟩
      simp only
      induction xs with
      | nil => rfl
      | cons y l _ => rw [List.flatMap_eq_nil_iff]; exact e1
    · cases h
theorem open_flat {r : Reach} {b0 : Nat} {t : TypeId} {fs : Array Field} {v : Value} {d : DataW H} {ps : List MemPlace} (ht : P.underlying t = some (.struct fs)) (hf : flatB P 6 t = true)
    (hval : Value.okWide P w r b0 t v) (hd : DataW.Trod enc P w base spare held t v d ps) :
    ps = [] ∧ ∃ ns : List Int, v = .agg (ns.map (Value.int .i64)).toArray ∧ ns.length = P.cellsOf t := by
  obtain ⟨cs, rfl, hs⟩ := okWide_struct ht hval
  obtain ⟨fuel, hx⟩ := hd
  obtain ⟨e1, ns, e2⟩ := flat_trod 6 t fuel _ _ hf hx
  have e3 : cs = (ns.map (Value.int .i64)).toArray := by
    have : cs.toList = ns.map (Value.int .i64) := by simpa [Value.cells] using e2
    rw [← this]
  refine ⟨e1, ns, by rw [e3], ?_⟩
  rw [← hs, e3]; simp
end
theorem rels_iv {ρ : Env} : ∀ ns : List Int, Rels ρ (ns.map iv) (ns.map (Value.int .i64))
  | [] => trivial
  | n :: l => ⟨rfl, rels_iv l⟩
theorem rel_agg {ρ : Env} (ns : List Int) : Rel ρ (.a (ns.map iv)) (.agg (ns.map (Value.int .i64)).toArray) := ⟨_, rfl, rels_iv ns⟩
theorem post_below {H : Type} {enc : TypeId × Value → H} {P : Program} {f : Func} {s : ChangeSpec} {apart fresh handsOn : Bool} {W W' : World} {args : Array Value} {v : Value} {ds gs : List (DataW H)} {before : List MemPlace}
    (hW : DataW.Whole enc P f.params.toList s.vars apart W args.toList ds gs before) (hb : Below W.heap.size W W')
    (hres : ∀ (b : Nat) (sp : Nat → Bool) (hd : Bool), DataW.TrodAll enc P W' b sp hd f.resultTypes.toList (v.resultList f.resultTypes.size) (s.fn H (ds ++ gs)).results [])
    (hargs : DataW.TrodAll enc P W' 0 (fun b => decide (b < W.heap.size)) true f.params.toList args.toList (s.fn H (ds ++ gs)).args before)
    (hvars : DataW.TrodVars enc P W' (fun b => decide (b < W.heap.size)) s.vars (s.fn H (ds ++ gs)).vars []) :
    s.post enc P f apart fresh handsOn false W args v W' :=
  ⟨ds, gs, before, [], before, [], hW, hres _ _ _, hargs, hvars, hb.frame _, fun h => by cases h⟩
theorem all_mk {H : Type} {enc : TypeId × Value → H} {P : Program} {w : World} {base : Nat} {spare : Nat → Bool} {held : Bool} {t : TypeId} {ts : List TypeId} {v : Value} {vs : List Value} {d : DataW H} {ds : List (DataW H)} {p p' : List MemPlace}
    (h : DataW.Trod enc P w base spare held t v d p) (h' : DataW.TrodAll enc P w base spare held ts vs ds p') : DataW.TrodAll enc P w base spare held (t :: ts) (v :: vs) (d :: ds) (p ++ p') := ⟨p, p', h, h', rfl⟩
theorem own : ownKnob Try.prog.godebug = none := by kernel_rfl
theorem laidOut : laidOutB Try.prog = true := by kernel_rfl

end Go.Proofs.Ytidhogejnafhaaa

namespace Go.Proofs.Ytidhogejnafhaaa
open Go.Proofs Go.Aw Go.RowKit
set_option maxRecDepth 100000
set_option linter.unusedVariables false
set_option linter.unusedSimpArgs false

/-! ### Scales -/
def sc (d : Int) : Int := if d = 0 then 1 else if d = 1 then 2 else if d = 2 then 4 else 8
theorem d4 {d : Int} (h : 0 ≤ d ∧ d ≤ 3) : d = 0 ∨ d = 1 ∨ d = 2 ∨ d = 3 := by omega
theorem sc_f {d : Int} (h : 0 ≤ d ∧ d ≤ 3) : W (1 * 2 ^ (min (Int.toNat d) 64)) = sc d := by
  rcases d4 h with rfl | rfl | rfl | rfl <;> kernel_rfl
theorem cnt_len {d : Int} (h : 0 ≤ d ∧ d ≤ 3) (p : PN) : (((cutL d.toNat p).length : Nat) : Int) = sc d * sc d := by
  rw [cutL_len]; rcases d4 h with rfl | rfl | rfl | rfl <;> kernel_rfl
theorem sc_in (d : Int) : sc d = 1 ∨ sc d = 2 ∨ sc d = 4 ∨ sc d = 8 := by unfold sc; (repeat' split) <;> simp
theorem sc_bd (d : Int) : 1 ≤ sc d ∧ sc d ≤ 8 := by have := sc_in d; omega
def tm (s : Int) (p : P3) : P3 := (s * p.1, s * p.2.1, s * p.2.2)
theorem bd_tm {s m : Int} {p : P3} (hs : 1 ≤ s ∧ s ≤ 8) (hm : 0 ≤ m) (hp : bd m p) : bd (8 * m) (tm s p) := by
  have h1 := mul_bd (a := 8) (b := m) (x := s) (y := p.1) (by omega) hp.1
  have h2 := mul_bd (a := 8) (b := m) (x := s) (y := p.2.1) (by omega) hp.2.1
  have h3 := mul_bd (a := 8) (b := m) (x := s) (y := p.2.2) (by omega) hp.2.2
  exact ⟨h1, h2, h3⟩
theorem tm_W {s : Int} {p : P3} (hs : 1 ≤ s ∧ s ≤ 8) (hp : bd 4096 p) : ((W (s * p.1)), (W (s * p.2.1)), (W (s * p.2.2))) = tm s p := by
  have h := bd_tm hs (by omega) hp
  have h1 := h.1; have h2 := h.2.1; have h3 := h.2.2
  simp only [tm] at h1 h2 h3
  unfold tm
  rw [W_eq (n := s * p.1) (by omega) (by omega), W_eq (n := s * p.2.1) (by omega) (by omega), W_eq (n := s * p.2.2) (by omega) (by omega)]
/-! ### Spans of numbers that are small -/
theorem res_f {a b : Int} (h1 : -1099511627776 ≤ a) (h2 : a ≤ b) (h3 : b ≤ 1099511627776) : F26 a b = ((a, b), 0) := by
  unfold F26 F51
  rw [decide_eq_true (show (a, b).1 ≥ -1099511627776 from h1), decide_eq_true (show (a, b).1 ≤ (a, b).2 from h2), decide_eq_true (show (a, b).2 ≤ 1099511627776 from h3)]; rfl
/-! ### Roots of quotients -/
noncomputable def inv (N n : Int) : Int × Int :=
  (F35 (N / n), if F35 (N / n) * F35 (N / n) * n = N then F35 (N / n) else F35 (N / n) + 1)
theorem quo_bd {N n : Int} (hN : 0 ≤ N) (hn : 1 ≤ n) : 0 ≤ N / n ∧ N / n ≤ N ∧ (N / n) * n ≤ N := by
  have h1 : 0 ≤ N / n := Int.ediv_nonneg hN (by omega)
  have h2 : (N / n) * n ≤ N := Int.ediv_mul_le N (by omega)
  have h3 : (N / n) * 1 ≤ (N / n) * n := Int.mul_le_mul_of_nonneg_left hn h1
  omega
theorem inv_facts {N n : Int} (hN : 0 ≤ N ∧ N ≤ 288230376151711744) (hn : 1 ≤ n) :
    ∃ k, F35 (N / n) = k ∧ IsRt (N / n) k ∧ 0 ≤ k ∧ k ≤ 536870912 ∧ 0 ≤ k * k ∧ k * k ≤ N / n ∧ 0 ≤ k * k * n ∧ k * k * n ≤ N := by
  obtain ⟨h1, h2, h3⟩ := quo_bd hN.1 hn
  have h := rtSpan (n := N / n) h1 (by omega)
  have h4 := h.le (m := 536870912) (by omega) (by omega)
  have h5 : 0 ≤ F35 (N / n) * F35 (N / n) := Int.mul_nonneg h.1 h.1
  exact ⟨_, rfl, h, h.1, h4, h5, h.2.1, Int.mul_nonneg h5 (by omega), Int.le_trans (Int.mul_le_mul_of_nonneg_right h.2.1 (by omega)) h3⟩
theorem inv_f {N n : Int} (hN : 0 ≤ N ∧ N ≤ 288230376151711744) (hn : 1 ≤ n) : F87 N n = (inv N n, 0) := by
  obtain ⟨k, hk, _, k0, k1, k2, k3, k4, k5⟩ := inv_facts hN hn
  obtain ⟨h1, h2, h3⟩ := quo_bd hN.1 hn
  unfold F87 inv
  rw [Int.tdiv_eq_ediv_of_nonneg hN.1, W_eq (n := N / n) (by omega) (by omega), hk, W_eq (n := k * k) (by omega) (by omega), W_eq (n := k * k * n) (by omega) (by omega), W_eq (n := k + 1) (by omega) (by omega),
    res_f (by omega) (Int.le_refl k) (by omega), res_f (by omega) (by omega) (by omega)]
  by_cases h : k * k * n = N
  · rw [if_pos h, beq_iff_eq.2 h]; rfl
  · rw [if_neg h, beq_eq_false_iff_ne.2 h]; rfl
theorem inv_bd {N n : Int} (hN : 0 ≤ N ∧ N ≤ 288230376151711744) (hn : 1 ≤ n) : 0 ≤ (inv N n).1 ∧ (inv N n).1 ≤ (inv N n).2 ∧ (inv N n).2 ≤ 536870913 := by
  obtain ⟨k, hk, _, k0, k1, _⟩ := inv_facts hN hn
  unfold inv
  rw [hk]
  simp only
  split <;> omega
theorem inv_mono {N n m : Int} (hN : 0 ≤ N ∧ N ≤ 288230376151711744) (hn : 1 ≤ n) (hm : n ≤ m) : (inv N m).1 ≤ (inv N n).1 := by
  obtain ⟨h1, h2, h3⟩ := quo_bd hN.1 hn
  obtain ⟨g1, g2, g3⟩ := quo_bd (n := m) hN.1 (by omega)
  have h : N / m ≤ N / n := by
    refine Int.le_ediv_of_mul_le (by omega) (Int.le_trans (Int.mul_le_mul_of_nonneg_left hm g1) g3)
  exact (rtSpan g1 (by omega)).mono (rtSpan h1 (by omega)) h
def NN (s : Int) : Int := s * s * 1099511627776
theorem NN_bd {s : Int} (h : s = 1 ∨ s = 2 ∨ s = 4 ∨ s = 8) : 0 ≤ NN s ∧ NN s ≤ 288230376151711744 := by rcases h with rfl | rfl | rfl | rfl <;> decide
noncomputable def of1 (s n : Int) : Int × Int := if n < 1 then (0, 0) else inv (NN s) n
theorem lt8f {s : Int} (h : s = 1 ∨ s = 2 ∨ s = 4 ∨ s = 8) : decide (s < 1) = false ∧ decide (s > 8) = false := by
  rcases h with rfl | rfl | rfl | rfl <;> decide
/-- what a function of the distance must be -/
structure OfOk (of : Int → Int × Int) : Prop where
  lo : ∀ n, 0 ≤ (of n).1
  le : ∀ n, (of n).1 ≤ (of n).2
  hi : ∀ n, (of n).2 ≤ 536870913
  mono : ∀ n m, 1 ≤ n → n ≤ m → (of m).1 ≤ (of n).1
theorem of1_ok {s : Int} (hs : s = 1 ∨ s = 2 ∨ s = 4 ∨ s = 8) : OfOk (of1 s) := by
  have hb : ∀ n, 0 ≤ (of1 s n).1 ∧ (of1 s n).1 ≤ (of1 s n).2 ∧ (of1 s n).2 ≤ 536870913 := by
    intro n
    unfold of1
    split
    · simp
    · exact inv_bd (NN_bd hs) (by omega)
  refine ⟨fun n => (hb n).1, fun n => (hb n).2.1, fun n => (hb n).2.2, fun n m h1 h2 => ?_⟩
  unfold of1
  rw [if_neg (by omega), if_neg (by omega)]
  exact inv_mono (NN_bd hs) h1 h2
end Go.Proofs.Ytidhogejnafhaaa

namespace Go.Proofs.Ytidhogejnafhaaa
open Go.Proofs Go.Aw Go.RowKit
set_option maxRecDepth 100000
set_option linter.unusedVariables false
set_option linter.unusedSimpArgs false

/-! ### The mean -/
def fa (c : PN) (x : P3) : Int := mx (mx (mx 0 (ds c.1 x)) (ds c.2.1 x)) (ds c.2.2 x)
def ne (c : PN) (x : P3) : Int := nr (blo c) (bhi c) x x
theorem ds_bd {p q : P3} (hp : bd 5000 p) (hq : bd 5000 q) : 0 ≤ ds p q ∧ ds p q ≤ 300000000 := by
  have h := bd_sb hp hq
  have := dt_bd h h
  exact ⟨dt_self _, by unfold ds; omega⟩
theorem fa_bd {c : PN} {x : P3} (hc : bdP 5000 c) (hx : bd 5000 x) : 0 ≤ fa c x ∧ fa c x ≤ 300000000 :=
  ⟨Int.le_trans (le_mx1 0 _) (Int.le_trans (le_mx1 _ _) (le_mx1 _ _)), mx_le (mx_le (mx_le (by omega) (ds_bd hc.1 hx).2) (ds_bd hc.2.1 hx).2) (ds_bd hc.2.2 hx).2⟩
theorem sq_le {a b : Int} (ha : 0 ≤ a) (h : a ≤ b ∨ a ≤ -b) : a * a ≤ b * b := by
  rcases h with h | h
  · exact Int.mul_le_mul h h ha (by omega)
  · have := Int.mul_le_mul h h ha (by omega)
    rwa [Int.neg_mul_neg] at this
theorem gp_le {a b c x : Int} (h1 : a ≤ c) (h2 : c ≤ b) : gp a b x x * gp a b x x ≤ (c - x) * (c - x) := by
  refine sq_le (gp_nn _ _ _ _) ?_
  unfold gp mx
  (repeat' split) <;> omega
theorem nr_nn (a b c d : P3) : 0 ≤ nr a b c d := by
  have h1 := sq_nn (gp a.1 b.1 c.1 d.1); have h2 := sq_nn (gp a.2.1 b.2.1 c.2.1 d.2.1); have h3 := sq_nn (gp a.2.2 b.2.2 c.2.2 d.2.2)
  unfold nr; omega
theorem ne_le (c : PN) (x : P3) : 0 ≤ ne c x ∧ ne c x ≤ fa c x := by
  refine ⟨nr_nn _ _ _ _, Int.le_trans ?_ (Int.le_trans (le_mx2 _ _) (Int.le_trans (le_mx1 _ (ds c.2.1 x)) (le_mx1 _ (ds c.2.2 x))))⟩
  have h1 := gp_le (x := x.1) (lo3_le c.1.1 c.2.1.1 c.2.2.1).1 (le_hi3 c.1.1 c.2.1.1 c.2.2.1).1
  have h2 := gp_le (x := x.2.1) (lo3_le c.1.2.1 c.2.1.2.1 c.2.2.2.1).1 (le_hi3 c.1.2.1 c.2.1.2.1 c.2.2.2.1).1
  have h3 := gp_le (x := x.2.2) (lo3_le c.1.2.2 c.2.1.2.2 c.2.2.2.2).1 (le_hi3 c.1.2.2 c.2.1.2.2 c.2.2.2.2).1
  unfold ne nr ds dt sb
  simp only [blo, bhi]
  omega
/-- the sums over parts -/
noncomputable def acc (of : Int → Int × Int) (x : P3) : List PN → Int × Int → (Int × Int) ⊕ ((Int × Int) × Int)
  | [], v => .inl v
  | c :: l, v => if ne c x = 0 then .inr ((0, 0), 10) else acc of x l (v.1 + (of (fa c x)).1, v.2 + (of (ne c x)).2)
/-- sums that are not out of range -/
def okv (v : Int × Int) (n : Nat) : Prop := 0 ≤ v.1 ∧ v.1 ≤ v.2 ∧ v.2 + 536870913 * n ≤ 34359738432
/-! division by small numbers -/
theorem dn_f {a n : Int} (hn : n = 1 ∨ n = 4 ∨ n = 16 ∨ n = 64) (ha : -1099511627776 ≤ a ∧ a ≤ 1099511627776) : F27 a n = a / n := by
  unfold F27
  have h0 : ∀ b : Int, decide (n < 0) = false := fun _ => decide_eq_false (by omega)
  rw [h0 0]
  have key : (bif ((Int.tmod a n : Int) != 0) then (bif (!(decide (a < 0) == false)) then W (W (Int.tdiv a n) - 1) else W (Int.tdiv a n)) else W (Int.tdiv a n)) = if Int.tmod a n ≠ 0 ∧ a < 0 then W (W (Int.tdiv a n) - 1) else W (Int.tdiv a n) := by
    by_cases h1 : Int.tmod a n = 0
    · rw [h1]; simp
    · by_cases h2 : a < 0
      · rw [bne_iff_ne.2 h1, decide_eq_true h2, if_pos ⟨h1, h2⟩]; rfl
      · rw [bne_iff_ne.2 h1, decide_eq_false h2, if_neg (fun h => h2 h.2)]; rfl
  rw [key]
  rcases Int.lt_or_le a 0 with h | h
  · obtain ⟨b, rfl⟩ : ∃ b : Int, a = -b := ⟨-a, by omega⟩
    have hb : 0 ≤ b := by omega
    rw [Int.neg_tdiv, Int.neg_tmod, Int.tdiv_eq_ediv_of_nonneg hb, Int.tmod_eq_emod_of_nonneg hb]
    rcases hn with rfl | rfl | rfl | rfl <;>
    · rw [W_eq (n := -(b / _)) (by omega) (by omega)]
      split
      · rw [W_eq (by omega) (by omega)]; omega
      · omega
  · rw [if_neg (by omega), Int.tdiv_eq_ediv_of_nonneg h]
    rcases hn with rfl | rfl | rfl | rfl <;> exact W_eq (by omega) (by omega)
theorem up_f {a n : Int} (hn : n = 1 ∨ n = 4 ∨ n = 16 ∨ n = 64) (ha : -1099511627776 ≤ a ∧ a ≤ 1099511627776) : F28 a n = -(-a / n) := by
  unfold F28
  rw [W_eq (n := 0 - a) (by omega) (by omega), dn_f hn (by omega), Int.zero_sub]
  rcases hn with rfl | rfl | rfl | rfl <;> exact (W_eq (by omega) (by omega)).trans (by omega)
/-- the mean of so many spans -/
def avg (v : Int × Int) (n : Int) : Int × Int := (v.1 / n, -(-v.2 / n))
theorem val_f {a b : Int} (h1 : -1099511627776 ≤ a) (h2 : a ≤ b) (h3 : b ≤ 1099511627776) : F51 (a, b) = true := by
  unfold F51
  rw [decide_eq_true (show (a, b).1 ≥ -1099511627776 from h1), decide_eq_true (show (a, b).1 ≤ (a, b).2 from h2), decide_eq_true (show (a, b).2 ≤ 1099511627776 from h3)]; rfl
theorem cnt_in (d : Int) : sc d * sc d = 1 ∨ sc d * sc d = 4 ∨ sc d * sc d = 16 ∨ sc d * sc d = 64 := by
  rcases sc_in d with h | h | h | h <;> rw [h] <;> decide

end Go.Proofs.Ytidhogejnafhaaa

namespace Go.Proofs.Ytidhogejnafhaaa
open Go.Proofs Go.Aw Go.RowKit
set_option maxRecDepth 100000
set_option linter.unusedVariables false
set_option linter.unusedSimpArgs false

/-! ### The program's mean is the reference's -/
theorem cutL_in {p c : PN} {d : Int} (hp : bdP 64 p) (hd : 0 ≤ d ∧ d ≤ 3) (hc : c ∈ cutL d.toNat p) : bdP 512 c := by
  have key : ∀ k : Nat, k ≤ 3 → c ∈ cutL k p → bdP 512 c := by
    intro k hk hc
    have : k = 0 ∨ k = 1 ∨ k = 2 ∨ k = 3 := by omega
    rcases this with rfl | rfl | rfl | rfl <;> exact (cutL_bd (m := 64) _ hp (by decide) (by decide) hc).mono (by decide)
  exact key _ (by omega) hc
section
variable {p : PN} {x : P3} {d : Int}
end
end Go.Proofs.Ytidhogejnafhaaa

namespace Go.Proofs.Ytidhogejnafhaaa
open Go.Proofs Go.Aw Go.RowKit
set_option maxRecDepth 100000
set_option linter.unusedVariables false
set_option linter.unusedSimpArgs false

/-! ### The rim -/
def IsUp (T r : Int) : Prop := 0 ≤ r ∧ T ≤ r * r ∧ (r = 0 ∨ (r - 1) * (r - 1) < T)
theorem IsUp.le {T r m : Int} (h : IsUp T r) (hm : 0 ≤ m) (h' : T ≤ m * m) : r ≤ m := by
  rcases Int.lt_or_le m r with hlt | hle
  · rcases h.2.2 with h0 | h0
    · omega
    · have := Int.mul_le_mul (show m ≤ r - 1 by omega) (show m ≤ r - 1 by omega) hm (by omega)
      omega
  · exact hle
theorem IsUp.eq {T a b : Int} (h : IsUp T a) (h' : IsUp T b) : a = b := Int.le_antisymm (h.le h'.1 h'.2.1) (h'.le h.1 h.2.1)
end Go.Proofs.Ytidhogejnafhaaa

namespace Go.Proofs.Ytidhogejnafhaaa
open Go.Proofs Go.Aw Go.RowKit
set_option maxRecDepth 100000
set_option linter.unusedVariables false
set_option linter.unusedSimpArgs false

/-! ### Between -/
/-! the normal of a part is the panel's -/
/-! sums of bounds -/
theorem okv_add {lo hi : Int} {v : Int × Int} {n : Nat} (h : okv v (n + 1)) (h1 : 0 ≤ lo ∧ lo ≤ hi ∧ hi ≤ 536870913) : okv (v.1 + lo, v.2 + hi) n := by
  unfold okv at *; simp only; omega
section
variable {p q : PN} {d : Int}
end
end Go.Proofs.Ytidhogejnafhaaa

namespace Go.Proofs.Ytidhogejnafhaaa
open Go.Proofs Go.Aw Go.RowKit
set_option maxRecDepth 100000
set_option linter.unusedVariables false
set_option linter.unusedSimpArgs false

theorem v1_ok {a : Int × Int} (h : ((F30_1 a : Int) != 0) = false) : -1099511627776 ≤ a.1 ∧ a.1 ≤ a.2 ∧ a.2 ≤ 1099511627776 := by
  have h : F30_1 a = 0 := by simpa using h
  unfold F30_1 at h
  cases h0 : F51 a with
  | false => rw [h0] at h; cases h
  | true =>
    unfold F51 at h0
    by_cases h1 : a.1 ≥ -1099511627776
    · by_cases h2 : a.1 ≤ a.2
      · rw [decide_eq_true h1, cond_true, decide_eq_true h2, cond_true] at h0
        exact ⟨h1, h2, of_decide_eq_true h0⟩
      · rw [decide_eq_true h1, cond_true, decide_eq_false h2, cond_false] at h0; cases h0
    · rw [decide_eq_false h1, cond_false] at h0; cases h0

/-- facet/span.whole -/
def F25 (a0 : Int) : Bool :=
  (bif (decide ((a0 : Int) ≥ (-1099511627776))) then
   (decide ((a0 : Int) ≤ 1099511627776))
  else
   false)

theorem C25 (a0 : Int) : Con Try.prog 25 [(iv a0)] [] (.v (.bool (F25 a0))) [] := by
  refine con_s Try.func25 (by kernel_rfl) fun cx hcx => ?_
  cases h0 : (decide ((a0 : Int) ≥ (-1099511627776))) with
  | true =>
   have q0 := of_decide_eq_true h0
   have e := Eq.refl (F25 a0); conv at e => rhs; simp only [F25, h0, cond_true, cond_false]
   rw [e]
   exact rt [.d h0] [] [] hcx (by kernel_rfl)
  | false =>
   have q0 := of_decide_eq_false h0
   have e := Eq.refl (F25 a0); conv at e => rhs; simp only [F25, h0, cond_true, cond_false]
   rw [e]
   exact rt [.d h0] [] [] hcx (by kernel_rfl)

/-- facet/span.Scale -/
def F10 (a0 : Int × Int) (a1 : Int) : (Int × Int) × Int :=
  (bif (((F30_1 a0) : Int) != 0) then
   ((0, 0), (F30_1 a0))
  else
   (bif (!(F25 a1)) then
    ((0, 0), 1)
   else
    ((F26 (if ((F33 a0.2 a1) : Int) < (F33 a0.1 a1) then (F33 a0.2 a1) else (F33 a0.1 a1)) (if ((F33 a0.1 a1) : Int) < (F33 a0.2 a1) then (F33 a0.2 a1) else (F33 a0.1 a1))).1, (F26 (if ((F33 a0.2 a1) : Int) < (F33 a0.1 a1) then (F33 a0.2 a1) else (F33 a0.1 a1)) (if ((F33 a0.1 a1) : Int) < (F33 a0.2 a1) then (F33 a0.2 a1) else (F33 a0.1 a1))).2)))

theorem C10 (a0 : Int × Int) (a1 : Int) : Con Try.prog 10 [(.a [(iv a0.1), (iv a0.2)]), (iv a1)] [] (.t [(.a (k2 (F10 a0 a1).1)), (iv (F10 a0 a1).2)]) [] := by
  refine con_s Try.func10 (by kernel_rfl) fun cx hcx => ?_
  let t0 : List (St Try.prog) := [.c [2] (C30_1 a0)]
  cases h0 : (((F30_1 a0) : Int) != 0) with
  | true =>
   have q0 := bne_iff_ne.1 h0
   have e := Eq.refl (F10 a0 a1); conv at e => rhs; simp only [F10, h0, cond_true, cond_false]
   rw [e]
   exact rt (t0 ++ [.d h0]) [] [] hcx (by kernel_rfl)
  | false =>
   have q0 := bne_eq_false_iff_eq.1 h0
   let t1 : List (St Try.prog) := (t0 ++ [.d h0, .c [] (C25 a1)])
   cases h1 : (!(F25 a1)) with
   | true =>
    have e := Eq.refl (F10 a0 a1); conv at e => rhs; simp only [F10, h0, h1, cond_true, cond_false]
    rw [e]
    exact rt (t1 ++ [.d h1]) [] [] hcx (by kernel_rfl)
   | false =>
    have e := Eq.refl (F10 a0 a1); conv at e => rhs; simp only [F10, h0, h1, cond_true, cond_false]
    rw [e]
    exact rt (t1 ++ [.d h1, .c [] (C33 a0.1 a1  (by have := v1_ok h0; omega)), .c [] (C33 a0.2 a1  (by have := v1_ok h0; omega)), .c [] (C26 (if ((F33 a0.2 a1) : Int) < (F33 a0.1 a1) then (F33 a0.2 a1) else (F33 a0.1 a1)) (if ((F33 a0.1 a1) : Int) < (F33 a0.2 a1) then (F33 a0.2 a1) else (F33 a0.1 a1)))]) [] [] hcx (by kernel_rfl)

end Go.Proofs.Ytidhogejnafhaaa

namespace Go.Proofs.Ytidhogejnafhaaa
open Go.Proofs Go.Aw Go.RowKit
set_option maxRecDepth 100000
set_option linter.unusedVariables false
set_option linter.unusedSimpArgs false

/-! ### Products that may be too large -/
/-- a product, or what stands for one that is too large -/
def sat (x n : Int) : Int := if 1099511627776 < x * n then 1099511627777 else if x * n < -1099511627776 then -1099511627777 else x * n
theorem ab_mul (x n : Int) : (x * n = (if x < 0 then 0 - x else x) * (if n < 0 then 0 - n else n) ∧ ((x < 0) = (n < 0))) ∨ (x * n = -((if x < 0 then 0 - x else x) * (if n < 0 then 0 - n else n)) ∧ ¬ ((x < 0) = (n < 0))) := by
  by_cases h1 : x < 0
  · by_cases h2 : n < 0
    · left; rw [if_pos h1, if_pos h2]; exact ⟨by grind, by simp [h1, h2]⟩
    · right; rw [if_pos h1, if_neg h2]; exact ⟨by grind, by simp [h1, h2]⟩
  · by_cases h2 : n < 0
    · right; rw [if_neg h1, if_pos h2]; exact ⟨by grind, by simp [h1, h2]⟩
    · left; rw [if_neg h1, if_neg h2]; exact ⟨by grind, by simp [h1, h2]⟩
theorem prod_f {x n : Int} (hx : -1099511627776 ≤ x ∧ x ≤ 1099511627776) (hn : -1099511627776 ≤ n ∧ n ≤ 1099511627776) : F33 x n = sat x n := by
  have hm := ab_mul x n
  have ha : ∀ z : Int, (-1099511627776 ≤ z ∧ z ≤ 1099511627776) → (if (z : Int) < (W (0 - z)) then (W (0 - z)) else z) = if z < 0 then 0 - z else z := by
    intro z hz
    rw [W_eq (n := 0 - z) (by omega) (by omega)]
    (repeat' split) <;> omega
  unfold F33 sat
  rw [ha x hx, ha n hn]
  by_cases hx0 : x = 0
  · subst hx0; simp [W_eq]
  by_cases hn0 : n = 0
  · subst hn0; simp [W_eq]
  rw [bne_iff_ne.2 hx0, bne_iff_ne.2 hn0, cond_true, cond_true]
  have a1 : 1 ≤ (if x < 0 then 0 - x else x) ∧ (if x < 0 then 0 - x else x) ≤ 1099511627776 := by split <;> omega
  have a2 : 1 ≤ (if n < 0 then 0 - n else n) ∧ (if n < 0 then 0 - n else n) ≤ 1099511627776 := by split <;> omega
  have e : (!(decide (x < 0) == decide (n < 0))) = decide (x * n = -((if x < 0 then 0 - x else x) * (if n < 0 then 0 - n else n)) ∧ ¬ ((x < 0) = (n < 0))) := by
    by_cases h1 : x < 0 <;> by_cases h2 : n < 0 <;> simp [h1, h2] at hm ⊢ <;> omega
  rw [e]
  generalize (if x < 0 then 0 - x else x) = ax at *
  generalize (if n < 0 then 0 - n else n) = an at *
  rw [Int.tdiv_eq_ediv_of_nonneg (by omega)]
  obtain ⟨d1, d2, d3⟩ := quo_bd (N := 1099511627776) (n := ax) (by omega) (by omega)
  have d4 := Int.mul_ediv_add_emod 1099511627776 ax
  have d5 := Int.emod_lt_of_pos 1099511627776 (show 0 < ax by omega)
  rw [W_eq (n := 1099511627776 / ax) (by omega) (by omega)]
  have hbig : an > 1099511627776 / ax ↔ 1099511627776 < ax * an := by
    constructor
    · intro h
      have := Int.mul_le_mul_of_nonneg_left (show 1099511627776 / ax + 1 ≤ an by omega) (show 0 ≤ ax by omega)
      rw [Int.mul_add, Int.mul_one] at this; omega
    · intro h
      rcases Int.lt_or_le (1099511627776 / ax) an with h' | h'
      · exact h'
      · have := Int.mul_le_mul_of_nonneg_left h' (show 0 ≤ ax by omega)
        rw [Int.mul_comm] at d3; omega
  by_cases hb : an > 1099511627776 / ax
  · rw [decide_eq_true hb, cond_true]
    have := hbig.1 hb
    rcases hm with ⟨q1, q2⟩ | ⟨q1, q2⟩
    · rw [decide_eq_false (fun h => h.2 q2), cond_false, q1, if_pos (by omega)]
    · rw [decide_eq_true ⟨q1, q2⟩, cond_true, q1, if_neg (by omega), if_pos (by omega)]
  · rw [decide_eq_false hb, cond_false]
    have h1 : ax * an ≤ 1099511627776 := by
      rcases Int.lt_or_le 1099511627776 (ax * an) with h | h
      · exact absurd (hbig.2 h) hb
      · exact h
    have h2 : 0 ≤ ax * an := Int.mul_nonneg (by omega) (by omega)
    rcases hm with ⟨q1, q2⟩ | ⟨q1, q2⟩ <;> rw [q1, if_neg (by omega), if_neg (by omega)] <;> exact W_eq (by omega) (by omega)
theorem sat_mono {x y n : Int} (h : x ≤ y) (hn : 0 ≤ n) : sat x n ≤ sat y n := by
  have := Int.mul_le_mul_of_nonneg_right h hn
  unfold sat; (repeat' split) <;> omega
theorem sat_anti {x y n : Int} (h : x ≤ y) (hn : n ≤ 0) : sat y n ≤ sat x n := by
  have := Int.mul_le_mul_of_nonpos_right h hn
  unfold sat; (repeat' split) <;> omega
/-- the least span of the products -/
def scl (a : Int × Int) (n : Int) : Int × Int := if n < 0 then (sat a.2 n, sat a.1 n) else (sat a.1 n, sat a.2 n)
/-- a span that is valid -/
def vs (a : Int × Int) : Prop := -1099511627776 ≤ a.1 ∧ a.1 ≤ a.2 ∧ a.2 ≤ 1099511627776
theorem Scale_f {a : Int × Int} {n : Int} (ha : vs a) (hn : -1099511627776 ≤ n ∧ n ≤ 1099511627776) : F10 a n = F26 (scl a n).1 (scl a n).2 := by
  obtain ⟨h1, h2, h3⟩ := ha
  unfold F10 F30_1 F25
  rw [val_f (a := a.1) (b := a.2) h1 h2 h3, decide_eq_true (show n ≥ -1099511627776 from hn.1), decide_eq_true hn.2, prod_f (x := a.1) (by omega) hn, prod_f (x := a.2) (by omega) hn]
  show ((F26 _ _).1, (F26 _ _).2) = _
  unfold scl
  by_cases h : n < 0
  · have := sat_anti h2 (show n ≤ 0 by omega)
    rw [if_pos h]
    simp only
    rw [show (if (sat a.2 n : Int) < sat a.1 n then sat a.2 n else sat a.1 n) = sat a.2 n by split <;> omega, show (if (sat a.1 n : Int) < sat a.2 n then sat a.2 n else sat a.1 n) = sat a.1 n by split <;> omega]
  · have := sat_mono h2 (show 0 ≤ n by omega)
    rw [if_neg h]
    simp only
    rw [show (if (sat a.2 n : Int) < sat a.1 n then sat a.2 n else sat a.1 n) = sat a.1 n by split <;> omega, show (if (sat a.1 n : Int) < sat a.2 n then sat a.2 n else sat a.1 n) = sat a.2 n by split <;> omega]
/-! halves -/
end Go.Proofs.Ytidhogejnafhaaa

namespace Go.Proofs.Ytidhogejnafhaaa
open Go.Proofs Go.Aw Go.RowKit
set_option maxRecDepth 100000
set_option linter.unusedVariables false
set_option linter.unusedSimpArgs false

/-! ### Solid angles -/
def ht (p : PN) (x : P3) : Int := dt (sb p.1 x) (cr (sb p.2.1 x) (sb p.2.2 x))
theorem avg_vs {v : Int × Int} {n : Int} (hn : n = 1 ∨ n = 4 ∨ n = 16 ∨ n = 64) (h : okv v 0) : vs (avg v n) := by
  unfold okv at h; unfold vs avg; simp only
  rcases hn with rfl | rfl | rfl | rfl <;> omega
/-! ### Corners exchanged -/
theorem sat_neg (x n : Int) : sat x (-n) = -sat x n := by
  unfold sat; rw [Int.mul_neg]; (repeat' split) <;> omega
theorem scl_neg {m : Int × Int} (h : m.1 ≤ m.2) (n : Int) : scl m (-n) = (-(scl m n).2, -(scl m n).1) := by
  unfold scl
  rw [sat_neg, sat_neg]
  rcases Int.lt_trichotomy n 0 with h1 | h1 | h1
  · rw [if_pos h1, if_neg (by omega)]
  · subst h1
    have e : ∀ z, sat z 0 = 0 := fun z => by unfold sat; simp
    simp [e]
  · rw [if_neg (show ¬ n < 0 by omega), if_pos (show -n < 0 by omega)]
end Go.Proofs.Ytidhogejnafhaaa

namespace Go.Proofs.Ytidhogejnafhaaa
open Go.Proofs Go.Aw Go.RowKit
set_option maxRecDepth 100000
set_option linter.unusedVariables false
set_option linter.unusedSimpArgs false

/-! ### Finer parts -/
/-! what is proved of a part holds of its parts -/
/-! sums -/
end Go.Proofs.Ytidhogejnafhaaa

namespace Go.Proofs.Ytidhogejnafhaaa
open Go.Proofs Go.Aw Go.RowKit
set_option maxRecDepth 100000
set_option linter.unusedVariables false
set_option linter.unusedSimpArgs false

end Go.Proofs.Ytidhogejnafhaaa

namespace Go.Proofs.Ytidhogejnafhaaa
open Go.Proofs Go.Aw Go.RowKit
set_option maxRecDepth 100000
set_option linter.unusedVariables false
set_option linter.unusedSimpArgs false

/-! ### Means of lists of spans -/
def sums : List (Int × Int) → Int × Int → Int × Int
  | [], v => v
  | a :: l, v => sums l (v.1 + a.1, v.2 + a.2)
theorem sums_eq : ∀ (l : List (Int × Int)) (v : Int × Int), sums l v = (v.1 + (l.map (·.1)).sum, v.2 + (l.map (·.2)).sum)
  | [], v => by simp [sums]
  | a :: l, v => by rw [sums, sums_eq l]; simp only [List.map_cons, List.sum_cons, Int.add_assoc]
def okE (a : Int × Int) : Prop := 0 ≤ a.1 ∧ a.1 ≤ a.2 ∧ a.2 ≤ 536870913
theorem sums_ok : ∀ {l : List (Int × Int)} {v : Int × Int}, (∀ a ∈ l, okE a) → okv v l.length → okv (sums l v) 0
  | [], v, _, h => h
  | a :: l, v, hl, h => sums_ok (l := l) (fun c hc => hl c (List.mem_cons_of_mem _ hc)) (okv_add h (hl a List.mem_cons_self))
theorem sums_loopF {R : Type} [Inhabited R] {S : Int × Int × Int → (Int × Int × Int) ⊕ R} {G : Int × Int → R} {L : List (Int × Int)} (hl : ∀ a ∈ L, okE a)
    (hS : ∀ (i : Nat) (a : Int × Int), L[i]? = some a → ∀ v1 v2 : Int, S (v1, v2, (i : Int)) = .inl (W (v1 + a.1), W (v2 + a.2), ((i + 1 : Nat) : Int)))
    (hE : ∀ v1 v2 : Int, S (v1, v2, (L.length : Int)) = .inr (G (v1, v2))) :
    ∀ (l : List (Int × Int)) (i n : Nat) (v : Int × Int), L.drop i = l → i ≤ L.length → l.length < n → okv v l.length → loopF S n (v.1, v.2, (i : Int)) = G (sums l v)
  | [], i, n, v, hd, hi', hn, h => by
    have : i = L.length := by have := List.drop_eq_nil_iff.1 hd; omega
    obtain ⟨n, rfl⟩ : ∃ m, n = m + 1 := ⟨n - 1, by simp only [List.length_nil] at hn; omega⟩
    subst this
    rw [loopF_inr (hE _ _)]; rfl
  | c :: l, i, n, v, hd, hi', hn, h => by
    have hc : L[i]? = some c := by
      have : (L.drop i)[0]? = some c := by rw [hd]; rfl
      simpa using this
    obtain ⟨hlt, hce⟩ := List.getElem?_eq_some_iff.1 hc
    obtain ⟨n, rfl⟩ : ∃ m, n = m + 1 := ⟨n - 1, by omega⟩
    have h1 := okv_add h (hl c (hce ▸ List.getElem_mem hlt))
    have h2 := h1
    unfold okv at h2; simp only at h2
    rw [loopF_inl (hS i c hc v.1 v.2), W_eq (by omega) (by omega), W_eq (by omega) (by omega)]
    exact sums_loopF hl hS hE l (i + 1) n _ (by rw [← List.drop_drop, hd]; rfl) (by omega) (by simp only [List.length_cons] at hn; omega) h1
section
variable {l : List (Int × Int)}
theorem okE_val {a : Int × Int} (h : okE a) : F51 a = true := val_f (a := a.1) (b := a.2) (by have := h.1; omega) h.2.1 (by have := h.2.2; omega)
theorem okv_len (hn : l.length ≤ 64) : okv (0, 0) l.length := by unfold okv; simp only; omega
theorem chkL (hl : ∀ a ∈ l, okE a) : F30_L l = 0 := by
  have key : ∀ (m : List (Int × Int)) (i n : Nat), l.drop i = m → i ≤ l.length → m.length < n → loopF (S30_L_0 l) n (i : Int) = 0 := by
    intro m
    induction m with
    | nil =>
      intro i n hd hi hn
      have : i = l.length := by have := List.drop_eq_nil_iff.1 hd; omega
      obtain ⟨n, rfl⟩ : ∃ m, n = m + 1 := ⟨n - 1, by simp only [List.length_nil] at hn; omega⟩
      subst this
      refine loopF_inr ?_
      simp only [S30_L_0]
      rw [decide_eq_false (Int.lt_irrefl _), cond_false]
    | cons c m ih =>
      intro i n hd hi hn
      have hc : l[i]? = some c := by
        have : (l.drop i)[0]? = some c := by rw [hd]; rfl
        simpa using this
      obtain ⟨hlt, hce⟩ := List.getElem?_eq_some_iff.1 hc
      obtain ⟨n, rfl⟩ : ∃ m, n = m + 1 := ⟨n - 1, by omega⟩
      have hg : l.getD i default = c := by rw [List.getD_eq_getElem?_getD, hc]; rfl
      have e : S30_L_0 l (i : Int) = .inl ((i + 1 : Nat) : Int) := by
        simp only [S30_L_0]
        rw [decide_eq_true (show ((i : Nat) : Int) < (l.length : Nat) by omega), cond_true, Int.toNat_natCast, hg, okE_val (hl c (hce ▸ List.getElem_mem hlt))]; rfl
      rw [loopF_inl e]
      exact ih (i + 1) n (by rw [← List.drop_drop, hd]; rfl) (by omega) (by simp only [List.length_cons] at hn; omega)
  unfold F30_L
  exact key l 0 _ rfl (Nat.zero_le _) (by omega)
theorem tot_f (hl : ∀ a ∈ l, okE a) (hn : l.length ≤ 64) : F34_L l = ((sums l (0, 0)).1, (sums l (0, 0)).2, 0) := by
  unfold F34_L
  rw [decide_eq_false (by omega), cond_false, chkL hl]
  show loopF _ _ (((0, 0) : Int × Int).1, ((0, 0) : Int × Int).2, ((0 : Nat) : Int)) = _
  refine sums_loopF (G := fun v => (v.1, v.2, 0)) hl (fun i a hi v1 v2 => ?_) (fun v1 v2 => ?_) l 0 _ (0, 0) rfl (Nat.zero_le _) (by omega) (okv_len hn)
  · obtain ⟨hlt, hce⟩ := List.getElem?_eq_some_iff.1 hi
    have hg : l.getD i default = a := by rw [List.getD_eq_getElem?_getD, hi]; rfl
    simp only [S34_L_0]
    rw [decide_eq_true (show ((i : Nat) : Int) < (l.length : Nat) by omega), cond_true, Int.toNat_natCast, hg]; rfl
  · simp only [S34_L_0]
    rw [decide_eq_false (Int.lt_irrefl _), cond_false]
theorem avg_bd {v : Int × Int} {n : Int} (hn : n = 1 ∨ n = 4 ∨ n = 16 ∨ n = 64) (h : okv v 0) : -1099511627776 ≤ v.1 / n ∧ v.1 / n ≤ -(-v.2 / n) ∧ -(-v.2 / n) ≤ 1099511627776 := by
  unfold okv at h; rcases hn with rfl | rfl | rfl | rfl <;> omega
theorem meanL_f (hl : ∀ a ∈ l, okE a) {n : Int} (hn : n = 1 ∨ n = 4 ∨ n = 16 ∨ n = 64) (hk : ((l.length : Nat) : Int) = n) : F15_L l = (avg (sums l (0, 0)) n, 0) := by
  have h64 : l.length ≤ 64 := by omega
  have ho := sums_ok hl (okv_len h64)
  have hb := avg_bd hn ho
  unfold okv at ho
  unfold F15_L
  rw [tot_f hl h64, hk, beq_eq_false_iff_ne.2 (show n ≠ 0 by omega), dn_f hn (by simp only; omega), up_f hn (by simp only; omega), res_f hb.1 hb.2.1 hb.2.2]; rfl
end
/-! ### The mean over two panels -/
end Go.Proofs.Ytidhogejnafhaaa

namespace Go.Proofs.Ytidhogejnafhaaa
open Go.Proofs Go.Aw Go.RowKit
set_option maxRecDepth 100000
set_option linter.unusedVariables false
set_option linter.unusedSimpArgs false

/-- facet/sound.square -/
def F73 (a0 : Int) : Int :=
  (W (a0 * a0))

theorem C73 (a0 : Int) : Con Try.prog 73 [(iv a0)] [] (iv (F73 a0)) [] := by
  refine con_s Try.func73 (by kernel_rfl) fun cx hcx => ?_
  have e := Eq.refl (F73 a0); conv at e => rhs; simp only [F73]
  rw [e]
  exact rt [] [] [] hcx (by kernel_rfl)

/-- facet/sound.corners -/
def F90 (a0 : (Int × Int × Int) × (Int × Int × Int) × Int × Int × Int) : (Int × Int × Int) × (Int × Int × Int) × Int × Int × Int :=
  a0

theorem C90 (a0 : (Int × Int × Int) × (Int × Int × Int) × Int × Int × Int) : Con Try.prog 90 [(.a (k9 a0))] [] (.a (k9 (F90 a0))) [] := by
  refine con_s Try.func90 (by kernel_rfl) fun cx hcx => ?_
  have e := Eq.refl (F90 a0); conv at e => rhs; simp only [F90]
  rw [e]
  exact rt [] [] [] hcx (by kernel_rfl)

/-- facet/sound.distance -/
def F54 (a0 : Int × Int × Int) (a1 : Int × Int × Int) : Int :=
  (W ((W ((F73 (W (a0.1 - a1.1))) + (F73 (W (a0.2.1 - a1.2.1))))) + (F73 (W (a0.2.2 - a1.2.2)))))

theorem C54 (a0 : Int × Int × Int) (a1 : Int × Int × Int) : Con Try.prog 54 [(.a (k3 a0)), (.a (k3 a1))] [] (iv (F54 a0 a1)) [] := by
  refine con_s Try.func54 (by kernel_rfl) fun cx hcx => ?_
  have e := Eq.refl (F54 a0 a1); conv at e => rhs; simp only [F54]
  rw [e]
  exact rt [.c [] (C73 (W (a0.1 - a1.1))), .c [] (C73 (W (a0.2.1 - a1.2.1))), .c [] (C73 (W (a0.2.2 - a1.2.2)))] [] [] hcx (by kernel_rfl)

/-- facet/sound.far -/
def F77 (a0 : (Int × Int × Int) × (Int × Int × Int) × Int × Int × Int) (a1 : Int × Int × Int) : Int :=
  (if ((if ((if (0 : Int) < (F54 (F90 a0).1 a1) then (F54 (F90 a0).1 a1) else 0) : Int) < (F54 (F90 a0).2.1 a1) then (F54 (F90 a0).2.1 a1) else (if (0 : Int) < (F54 (F90 a0).1 a1) then (F54 (F90 a0).1 a1) else 0)) : Int) < (F54 (F90 a0).2.2 a1) then (F54 (F90 a0).2.2 a1) else (if ((if (0 : Int) < (F54 (F90 a0).1 a1) then (F54 (F90 a0).1 a1) else 0) : Int) < (F54 (F90 a0).2.1 a1) then (F54 (F90 a0).2.1 a1) else (if (0 : Int) < (F54 (F90 a0).1 a1) then (F54 (F90 a0).1 a1) else 0)))

theorem C77 (a0 : (Int × Int × Int) × (Int × Int × Int) × Int × Int × Int) (a1 : Int × Int × Int) : Con Try.prog 77 [(.a (k9 a0)), (.a (k3 a1))] [] (iv (F77 a0 a1)) [] := by
  refine con_s Try.func77 (by kernel_rfl) fun cx hcx => ?_
  have e := Eq.refl (F77 a0 a1); conv at e => rhs; simp only [F77]
  rw [e]
  exact rt [.c [] (C90 a0), .u 200, .T, .i 0 3 (by decide), .c [] (C54 (F90 a0).1 a1), .u 0, .T, .i 1 3 (by decide), .c [] (C54 (F90 a0).2.1 a1), .u 0, .T, .i 2 3 (by decide), .c [] (C54 (F90 a0).2.2 a1), .u 0, .F] [] [] hcx (by kernel_rfl)

/-- facet/sound.gap at (3,) -/
def F88_3 (a0 : Int) (a1 : (Int) × (Int) × (Int)) : Int :=
  (if ((if (0 : Int) < (W ((if (a1.2.2 : Int) < (if (a1.2.1 : Int) < (if (a1.1 : Int) < a1.1 then a1.1 else a1.1) then a1.2.1 else (if (a1.1 : Int) < a1.1 then a1.1 else a1.1)) then a1.2.2 else (if (a1.2.1 : Int) < (if (a1.1 : Int) < a1.1 then a1.1 else a1.1) then a1.2.1 else (if (a1.1 : Int) < a1.1 then a1.1 else a1.1))) - a0)) then (W ((if (a1.2.2 : Int) < (if (a1.2.1 : Int) < (if (a1.1 : Int) < a1.1 then a1.1 else a1.1) then a1.2.1 else (if (a1.1 : Int) < a1.1 then a1.1 else a1.1)) then a1.2.2 else (if (a1.2.1 : Int) < (if (a1.1 : Int) < a1.1 then a1.1 else a1.1) then a1.2.1 else (if (a1.1 : Int) < a1.1 then a1.1 else a1.1))) - a0)) else 0) : Int) < (W (a0 - (if ((if ((if (a1.1 : Int) < a1.1 then a1.1 else a1.1) : Int) < a1.2.1 then a1.2.1 else (if (a1.1 : Int) < a1.1 then a1.1 else a1.1)) : Int) < a1.2.2 then a1.2.2 else (if ((if (a1.1 : Int) < a1.1 then a1.1 else a1.1) : Int) < a1.2.1 then a1.2.1 else (if (a1.1 : Int) < a1.1 then a1.1 else a1.1))))) then (W (a0 - (if ((if ((if (a1.1 : Int) < a1.1 then a1.1 else a1.1) : Int) < a1.2.1 then a1.2.1 else (if (a1.1 : Int) < a1.1 then a1.1 else a1.1)) : Int) < a1.2.2 then a1.2.2 else (if ((if (a1.1 : Int) < a1.1 then a1.1 else a1.1) : Int) < a1.2.1 then a1.2.1 else (if (a1.1 : Int) < a1.1 then a1.1 else a1.1))))) else (if (0 : Int) < (W ((if (a1.2.2 : Int) < (if (a1.2.1 : Int) < (if (a1.1 : Int) < a1.1 then a1.1 else a1.1) then a1.2.1 else (if (a1.1 : Int) < a1.1 then a1.1 else a1.1)) then a1.2.2 else (if (a1.2.1 : Int) < (if (a1.1 : Int) < a1.1 then a1.1 else a1.1) then a1.2.1 else (if (a1.1 : Int) < a1.1 then a1.1 else a1.1))) - a0)) then (W ((if (a1.2.2 : Int) < (if (a1.2.1 : Int) < (if (a1.1 : Int) < a1.1 then a1.1 else a1.1) then a1.2.1 else (if (a1.1 : Int) < a1.1 then a1.1 else a1.1)) then a1.2.2 else (if (a1.2.1 : Int) < (if (a1.1 : Int) < a1.1 then a1.1 else a1.1) then a1.2.1 else (if (a1.1 : Int) < a1.1 then a1.1 else a1.1))) - a0)) else 0))

theorem C88_3 (a0 : Int) (a1 : (Int) × (Int) × (Int)) : Con Try.prog 88 [(iv a0), (.s 0 0 3 1)] [(.live false false (k3 a1))] (iv (F88_3 a0 a1)) [] := by
  refine con_s Try.func88 (by kernel_rfl) fun cx hcx => ?_
  have e := Eq.refl (F88_3 a0 a1); conv at e => rhs; simp only [F88_3]
  rw [e]
  exact rt [.i 0 3 (by decide), .i 0 3 (by decide), .u 200, .T, .i 0 3 (by decide), .u 0, .T, .i 1 3 (by decide), .u 0, .T, .i 2 3 (by decide), .u 0, .F] [] [] hcx (by kernel_rfl)

/-- facet/sound.near -/
def F74 (a0 : (Int × Int × Int) × (Int × Int × Int) × Int × Int × Int) (a1 : Int × Int × Int) : Int :=
  (W ((W ((F73 (F88_3 a1.1 (a0.1.1, a0.2.1.1, a0.2.2.1))) + (F73 (F88_3 a1.2.1 (a0.1.2.1, a0.2.1.2.1, a0.2.2.2.1))))) + (F73 (F88_3 a1.2.2 (a0.1.2.2, a0.2.1.2.2, a0.2.2.2.2)))))

theorem C74 (a0 : (Int × Int × Int) × (Int × Int × Int) × Int × Int × Int) (a1 : Int × Int × Int) : Con Try.prog 74 [(.a (k9 a0)), (.a (k3 a1))] [] (iv (F74 a0 a1)) [] := by
  refine con_s Try.func74 (by kernel_rfl) fun cx hcx => ?_
  have e := Eq.refl (F74 a0 a1); conv at e => rhs; simp only [F74]
  rw [e]
  exact rt [.c [2] (C88_3 a1.1 (a0.1.1, a0.2.1.1, a0.2.2.1)), .c [] (C73 (F88_3 a1.1 (a0.1.1, a0.2.1.1, a0.2.2.1))), .c [3] (C88_3 a1.2.1 (a0.1.2.1, a0.2.1.2.1, a0.2.2.2.1)), .c [] (C73 (F88_3 a1.2.1 (a0.1.2.1, a0.2.1.2.1, a0.2.2.2.1))), .c [4] (C88_3 a1.2.2 (a0.1.2.2, a0.2.1.2.2, a0.2.2.2.2)), .c [] (C73 (F88_3 a1.2.2 (a0.1.2.2, a0.2.1.2.2, a0.2.2.2.2)))] [] [] hcx (by kernel_rfl)

/-- facet/sound.from -/
def F58 (a0 : Int) (a1 : Int) (a2 : Int) : Bool :=
  (bif (decide ((a1 : Int) ≤ a0)) then
   (decide ((a0 : Int) ≤ a2))
  else
   false)

theorem C58 (a0 : Int) (a1 : Int) (a2 : Int) : Con Try.prog 58 [(iv a0), (iv a1), (iv a2)] [] (.v (.bool (F58 a0 a1 a2))) [] := by
  refine con_s Try.func58 (by kernel_rfl) fun cx hcx => ?_
  cases h0 : (decide ((a1 : Int) ≤ a0)) with
  | true =>
   have q0 := of_decide_eq_true h0
   have e := Eq.refl (F58 a0 a1 a2); conv at e => rhs; simp only [F58, h0, cond_true, cond_false]
   rw [e]
   exact rt [.d h0] [] [] hcx (by kernel_rfl)
  | false =>
   have q0 := of_decide_eq_false h0
   have e := Eq.refl (F58 a0 a1 a2); conv at e => rhs; simp only [F58, h0, cond_true, cond_false]
   rw [e]
   exact rt [.d h0] [] [] hcx (by kernel_rfl)

/-- facet/sound.isPoint -/
def F42 (a0 : Int × Int × Int) : Bool :=
  (bif (F58 a0.1 (-256) 256) then
   (bif (F58 a0.2.1 (-256) 256) then
    (F58 a0.2.2 (-256) 256)
   else
    false)
  else
   false)

theorem C42 (a0 : Int × Int × Int) : Con Try.prog 42 [(.a (k3 a0))] [] (.v (.bool (F42 a0))) [] := by
  refine con_s Try.func42 (by kernel_rfl) fun cx hcx => ?_
  let t0 : List (St Try.prog) := [.c [] (C58 a0.1 (-256) 256)]
  cases h0 : (F58 a0.1 (-256) 256) with
  | true =>
   let t1 : List (St Try.prog) := (t0 ++ [.d h0, .c [] (C58 a0.2.1 (-256) 256)])
   cases h1 : (F58 a0.2.1 (-256) 256) with
   | true =>
    have e := Eq.refl (F42 a0); conv at e => rhs; simp only [F42, h0, h1, cond_true, cond_false]
    rw [e]
    exact rt (t1 ++ [.d h1, .c [] (C58 a0.2.2 (-256) 256)]) [] [] hcx (by kernel_rfl)
   | false =>
    have e := Eq.refl (F42 a0); conv at e => rhs; simp only [F42, h0, h1, cond_true, cond_false]
    rw [e]
    exact rt (t1 ++ [.d h1]) [] [] hcx (by kernel_rfl)
  | false =>
   have e := Eq.refl (F42 a0); conv at e => rhs; simp only [F42, h0, cond_true, cond_false]
   rw [e]
   exact rt (t0 ++ [.d h0]) [] [] hcx (by kernel_rfl)

/-- facet/sound.isSpeed -/
def F43 (a0 : Int) : Bool :=
  (F58 a0 1 16)

theorem C43 (a0 : Int) : Con Try.prog 43 [(iv a0)] [] (.v (.bool (F43 a0))) [] := by
  refine con_s Try.func43 (by kernel_rfl) fun cx hcx => ?_
  have e := Eq.refl (F43 a0); conv at e => rhs; simp only [F43]
  rw [e]
  exact rt [.c [] (C58 a0 1 16)] [] [] hcx (by kernel_rfl)

/-- facet/sound.isTick -/
def F44 (a0 : Int) : Bool :=
  (F58 a0 0 2000)

theorem C44 (a0 : Int) : Con Try.prog 44 [(iv a0)] [] (.v (.bool (F44 a0))) [] := by
  refine con_s Try.func44 (by kernel_rfl) fun cx hcx => ?_
  have e := Eq.refl (F44 a0); conv at e => rhs; simp only [F44]
  rw [e]
  exact rt [.c [] (C58 a0 0 2000)] [] [] hcx (by kernel_rfl)

/-- facet/sound.isDepth -/
def F45 (a0 : Int) : Bool :=
  (F58 a0 0 3)

theorem C45 (a0 : Int) : Con Try.prog 45 [(iv a0)] [] (.v (.bool (F45 a0))) [] := by
  refine con_s Try.func45 (by kernel_rfl) fun cx hcx => ?_
  have e := Eq.refl (F45 a0); conv at e => rhs; simp only [F45]
  rw [e]
  exact rt [.c [] (C58 a0 0 3)] [] [] hcx (by kernel_rfl)

/-- facet/sound.ValidatePulses at (1,) -/
def F57_1 (a0 : ((Int × Int × Int) × (Int × Int × Int) × Int × Int × Int) × Int × Int) : Int :=
  (bif (((F78 a0.1) : Int) != 0) then
   (F78 a0.1)
  else
   (bif (!(F58 a0.2.1 0 1000)) then
    1
   else
    (bif (!(F58 a0.2.2 (-100) 100)) then
     1
    else
     0)))

theorem C57_1 (a0 : ((Int × Int × Int) × (Int × Int × Int) × Int × Int × Int) × Int × Int) : Con Try.prog 57 [(.s 0 0 1 11)] [(.live false false [(iv a0.1.1.1), (iv a0.1.1.2.1), (iv a0.1.1.2.2), (iv a0.1.2.1.1), (iv a0.1.2.1.2.1), (iv a0.1.2.1.2.2), (iv a0.1.2.2.1), (iv a0.1.2.2.2.1), (iv a0.1.2.2.2.2), (iv a0.2.1), (iv a0.2.2)])] (iv (F57_1 a0)) [] := by
  refine con_s Try.func57 (by kernel_rfl) fun cx hcx => ?_
  let t0 : List (St Try.prog) := [.F, .u 200, .T, .i 0 1 (by decide), .c [] (C78 a0.1)]
  cases h0 : (((F78 a0.1) : Int) != 0) with
  | true =>
   have q0 := bne_iff_ne.1 h0
   have e := Eq.refl (F57_1 a0); conv at e => rhs; simp only [F57_1, h0, cond_true, cond_false]
   rw [e]
   exact rt (t0 ++ [.d h0]) [] [] hcx (by kernel_rfl)
  | false =>
   have q0 := bne_eq_false_iff_eq.1 h0
   let t1 : List (St Try.prog) := (t0 ++ [.d h0, .c [] (C58 a0.2.1 0 1000)])
   cases h1 : (!(F58 a0.2.1 0 1000)) with
   | true =>
    have e := Eq.refl (F57_1 a0); conv at e => rhs; simp only [F57_1, h0, h1, cond_true, cond_false]
    rw [e]
    exact rt (t1 ++ [.d h1]) [] [] hcx (by kernel_rfl)
   | false =>
    let t2 : List (St Try.prog) := (t1 ++ [.d h1, .c [] (C58 a0.2.2 (-100) 100)])
    cases h2 : (!(F58 a0.2.2 (-100) 100)) with
    | true =>
     have e := Eq.refl (F57_1 a0); conv at e => rhs; simp only [F57_1, h0, h1, h2, cond_true, cond_false]
     rw [e]
     exact rt (t2 ++ [.d h2]) [] [] hcx (by kernel_rfl)
    | false =>
     have e := Eq.refl (F57_1 a0); conv at e => rhs; simp only [F57_1, h0, h1, h2, cond_true, cond_false]
     rw [e]
     exact rt (t2 ++ [.d h2, .u 0, .F]) [] [] hcx (by kernel_rfl)

/-- facet/sound.check at (1,) -/
def F41_1 (a0 : ((Int × Int × Int) × (Int × Int × Int) × Int × Int × Int) × Int × Int) (a1 : Bool) : Int :=
  (bif (((F57_1 a0) : Int) != 0) then
   (F57_1 a0)
  else
   (bif (!a1) then
    1
   else
    0))

theorem C41_1 (a0 : ((Int × Int × Int) × (Int × Int × Int) × Int × Int × Int) × Int × Int) (a1 : Bool) : Con Try.prog 41 [(.s 0 0 1 11), (.v (.bool a1))] [(.live false false [(iv a0.1.1.1), (iv a0.1.1.2.1), (iv a0.1.1.2.2), (iv a0.1.2.1.1), (iv a0.1.2.1.2.1), (iv a0.1.2.1.2.2), (iv a0.1.2.2.1), (iv a0.1.2.2.2.1), (iv a0.1.2.2.2.2), (iv a0.2.1), (iv a0.2.2)])] (iv (F41_1 a0 a1)) [] := by
  refine con_s Try.func41 (by kernel_rfl) fun cx hcx => ?_
  let t0 : List (St Try.prog) := [.c [0] (C57_1 a0)]
  cases h0 : (((F57_1 a0) : Int) != 0) with
  | true =>
   have q0 := bne_iff_ne.1 h0
   have e := Eq.refl (F41_1 a0 a1); conv at e => rhs; simp only [F41_1, h0, cond_true, cond_false]
   rw [e]
   exact rt (t0 ++ [.d h0]) [] [] hcx (by kernel_rfl)
  | false =>
   have q0 := bne_eq_false_iff_eq.1 h0
   let t1 : List (St Try.prog) := (t0 ++ [.d h0])
   cases h1 : (!a1) with
   | true =>
    have e := Eq.refl (F41_1 a0 a1); conv at e => rhs; simp only [F41_1, h0, h1, cond_true, cond_false]
    rw [e]
    exact rt (t1 ++ [.d h1]) [] [] hcx (by kernel_rfl)
   | false =>
    have e := Eq.refl (F41_1 a0 a1); conv at e => rhs; simp only [F41_1, h0, h1, cond_true, cond_false]
    rw [e]
    exact rt (t1 ++ [.d h1]) [] [] hcx (by kernel_rfl)

/-- facet/facetref04.size -/
def F37 (a0 : Int) : Int :=
  (if (a0 : Int) < (W (0 - a0)) then (W (0 - a0)) else a0)

theorem C37 (a0 : Int) : Con Try.prog 37 [(iv a0)] [] (iv (F37 a0)) [] := by
  refine con_s Try.func37 (by kernel_rfl) fun cx hcx => ?_
  have e := Eq.refl (F37 a0); conv at e => rhs; simp only [F37]
  rw [e]
  exact rt [] [] [] hcx (by kernel_rfl)

/-- facet/facetref04.Small -/
def F19 (a0 : Int × Int × Int) (a1 : Int) : Bool :=
  (bif (decide (((F37 a0.1) : Int) ≤ a1)) then
   (bif (decide (((F37 a0.2.1) : Int) ≤ a1)) then
    (bif (decide (((F37 a0.2.2) : Int) ≤ a1)) then
     (bif (decide ((a0.1 : Int) ≥ (W (0 - a1)))) then
      (bif (decide ((a0.2.1 : Int) ≥ (W (0 - a1)))) then
       (decide ((a0.2.2 : Int) ≥ (W (0 - a1))))
      else
       false)
     else
      false)
    else
     false)
   else
    false)
  else
   false)

theorem C19 (a0 : Int × Int × Int) (a1 : Int) : Con Try.prog 19 [(.a (k3 a0)), (iv a1)] [] (.v (.bool (F19 a0 a1))) [] := by
  refine con_s Try.func19 (by kernel_rfl) fun cx hcx => ?_
  let t0 : List (St Try.prog) := [.c [] (C37 a0.1)]
  cases h0 : (decide (((F37 a0.1) : Int) ≤ a1)) with
  | true =>
   have q0 := of_decide_eq_true h0
   let t1 : List (St Try.prog) := (t0 ++ [.d h0, .c [] (C37 a0.2.1)])
   cases h1 : (decide (((F37 a0.2.1) : Int) ≤ a1)) with
   | true =>
    have q1 := of_decide_eq_true h1
    let t2 : List (St Try.prog) := (t1 ++ [.d h1, .c [] (C37 a0.2.2)])
    cases h2 : (decide (((F37 a0.2.2) : Int) ≤ a1)) with
    | true =>
     have q2 := of_decide_eq_true h2
     let t3 : List (St Try.prog) := (t2 ++ [.d h2])
     cases h3 : (decide ((a0.1 : Int) ≥ (W (0 - a1)))) with
     | true =>
      have q3 := of_decide_eq_true h3
      let t4 : List (St Try.prog) := (t3 ++ [.d h3])
      cases h4 : (decide ((a0.2.1 : Int) ≥ (W (0 - a1)))) with
      | true =>
       have q4 := of_decide_eq_true h4
       have e := Eq.refl (F19 a0 a1); conv at e => rhs; simp only [F19, h0, h1, h2, h3, h4, cond_true, cond_false]
       rw [e]
       exact rt (t4 ++ [.d h4]) [] [] hcx (by kernel_rfl)
      | false =>
       have q4 := of_decide_eq_false h4
       have e := Eq.refl (F19 a0 a1); conv at e => rhs; simp only [F19, h0, h1, h2, h3, h4, cond_true, cond_false]
       rw [e]
       exact rt (t4 ++ [.d h4]) [] [] hcx (by kernel_rfl)
     | false =>
      have q3 := of_decide_eq_false h3
      have e := Eq.refl (F19 a0 a1); conv at e => rhs; simp only [F19, h0, h1, h2, h3, cond_true, cond_false]
      rw [e]
      exact rt (t3 ++ [.d h3]) [] [] hcx (by kernel_rfl)
    | false =>
     have q2 := of_decide_eq_false h2
     have e := Eq.refl (F19 a0 a1); conv at e => rhs; simp only [F19, h0, h1, h2, cond_true, cond_false]
     rw [e]
     exact rt (t2 ++ [.d h2]) [] [] hcx (by kernel_rfl)
   | false =>
    have q1 := of_decide_eq_false h1
    have e := Eq.refl (F19 a0 a1); conv at e => rhs; simp only [F19, h0, h1, cond_true, cond_false]
    rw [e]
    exact rt (t1 ++ [.d h1]) [] [] hcx (by kernel_rfl)
  | false =>
   have q0 := of_decide_eq_false h0
   have e := Eq.refl (F19 a0 a1); conv at e => rhs; simp only [F19, h0, cond_true, cond_false]
   rw [e]
   exact rt (t0 ++ [.d h0]) [] [] hcx (by kernel_rfl)

end Go.Proofs.Ytidhogejnafhaaa

namespace Go.Proofs.Ytidhogejnafhaaa
open Go.Proofs Go.Aw Go.RowKit
set_option maxRecDepth 100000
set_option linter.unusedVariables false
set_option linter.unusedSimpArgs false

/-! ### Sound: what the small functions say -/
theorem sqs_bd {s t : Int} (hs : 1 ≤ s ∧ s ≤ 1000) (ht : 0 ≤ t ∧ t ≤ 1000) : 0 ≤ s * t ∧ s * t ≤ 1000000 ∧ 0 ≤ s * t * (s * t) ∧ s * t * (s * t) ≤ 1000000000000 := by
  have h1 : 0 ≤ s * t := Int.mul_nonneg (by omega) (by omega)
  have h2 : s * t ≤ 1000 * 1000 := Int.mul_le_mul (by omega) (by omega) (by omega) (by omega)
  have h3 : s * t * (s * t) ≤ 1000000 * 1000000 := Int.mul_le_mul (by omega) (by omega) (by omega) (by omega)
  exact ⟨h1, by omega, Int.mul_nonneg h1 h1, by omega⟩
theorem square_f {n : Int} (h : -2000000000 ≤ n ∧ n ≤ 2000000000) : F73 n = n * n := by
  have h1 := mul_bd h h
  simp only [F73]; rw [W_eq (by omega) (by omega)]
theorem trav_sq {s t : Int} (hs : 1 ≤ s ∧ s ≤ 1000) (ht : 0 ≤ t ∧ t ≤ 1000) : F73 (W (s * t)) = s * t * (s * t) := by
  have h := sqs_bd hs ht
  rw [W_eq (by omega) (by omega), square_f (by omega)]
theorem trav_lt {s t n : Int} (hs : 1 ≤ s ∧ s ≤ 1000) (ht : 0 ≤ t ∧ t ≤ 1000) (hn : n ≤ 1000000) : s * t * (s * t) < n → t < 1000 := by
  intro h
  rcases Int.lt_or_le t 1000 with h' | h'
  · exact h'
  · have e : t = 1000 := by omega
    subst e
    have h2 : 1000 * 1000 ≤ s * 1000 * (s * 1000) := Int.mul_le_mul (by omega) (by omega) (by omega) (by omega)
    omega
theorem trav_f {s t n : Int} (hs : 1 ≤ s ∧ s ≤ 1000) (ht : 0 ≤ t ∧ t ≤ 1000) (hn : n ≤ 1000000) : F73 (W (s * t)) < n → t < 1000 := by
  rw [trav_sq hs ht]; exact trav_lt hs ht hn
/-! distances -/
theorem dist_f {p q : P3} (hp : bd 5000 p) (hq : bd 5000 q) : F54 p q = ds p q := by
  have h : bd 10000 (sb p q) := bd_sb hp hq
  have h1 := mul_bd h.1 h.1; have h2 := mul_bd h.2.1 h.2.1; have h3 := mul_bd h.2.2 h.2.2
  have n1 := sq_nn (sb p q).1; have n2 := sq_nn (sb p q).2.1; have n3 := sq_nn (sb p q).2.2
  have e1 : W (p.1 - q.1) = (sb p q).1 := W_eq (by have := h.1; simp only [sb] at this; omega) (by have := h.1; simp only [sb] at this; omega)
  have e2 : W (p.2.1 - q.2.1) = (sb p q).2.1 := W_eq (by have := h.2.1; simp only [sb] at this; omega) (by have := h.2.1; simp only [sb] at this; omega)
  have e3 : W (p.2.2 - q.2.2) = (sb p q).2.2 := W_eq (by have := h.2.2; simp only [sb] at this; omega) (by have := h.2.2; simp only [sb] at this; omega)
  unfold F54
  rw [e1, e2, e3, square_f (by have := h.1; omega), square_f (by have := h.2.1; omega), square_f (by have := h.2.2; omega), sum3 (by omega) (by omega) (by omega)]; rfl
theorem gap_s {x a b c : Int} (hx : -5000 ≤ x ∧ x ≤ 5000) (hl : -5000 ≤ lo3 a b c ∧ lo3 a b c ≤ 5000) (hh : -5000 ≤ hi3 a b c ∧ hi3 a b c ≤ 5000) : F88_3 x (a, b, c) = gp (lo3 a b c) (hi3 a b c) x x := by
  show mx (mx 0 (W (lo3 a b c - x))) (W (x - hi3 a b c)) = _
  rw [W_eq (by omega) (by omega), W_eq (by omega) (by omega)]
  unfold gp mx; repeat' split <;> omega
theorem sne_f {c : PN} {x : P3} (hc : bdP 5000 c) (hx : bd 5000 x) : F74 c x = ne c x := by
  have hl := blo_bd hc; have hh := bhi_bd hc
  have h1 := gp_bd hl.1 hh.1 hx.1 hx.1; have h2 := gp_bd hl.2.1 hh.2.1 hx.2.1 hx.2.1; have h3 := gp_bd hl.2.2 hh.2.2 hx.2.2 hx.2.2
  have m1 := mul_bd (a := 10000) (b := 10000) ⟨by omega, h1.2⟩ ⟨by omega, h1.2⟩; have m2 := mul_bd (a := 10000) (b := 10000) ⟨by omega, h2.2⟩ ⟨by omega, h2.2⟩; have m3 := mul_bd (a := 10000) (b := 10000) ⟨by omega, h3.2⟩ ⟨by omega, h3.2⟩
  have n1 := Int.mul_nonneg h1.1 h1.1; have n2 := Int.mul_nonneg h2.1 h2.1; have n3 := Int.mul_nonneg h3.1 h3.1
  unfold F74
  rw [gap_s hx.1 hl.1 hh.1, gap_s hx.2.1 hl.2.1 hh.2.1, gap_s hx.2.2 hl.2.2 hh.2.2]
  change W (W (F73 (gp (blo c).1 (bhi c).1 x.1 x.1) + F73 (gp (blo c).2.1 (bhi c).2.1 x.2.1 x.2.1)) + F73 (gp (blo c).2.2 (bhi c).2.2 x.2.2 x.2.2)) = _
  rw [square_f (by omega), square_f (by omega), square_f (by omega), sum3 (by omega) (by omega) (by omega)]; rfl
theorem sfa_f {c : PN} {x : P3} (hc : bdP 5000 c) (hx : bd 5000 x) : F77 c x = fa c x := by
  show mx (mx (mx 0 (F54 c.1 x)) (F54 c.2.1 x)) (F54 c.2.2 x) = _
  rw [dist_f hc.1 hx, dist_f hc.2.1 hx, dist_f hc.2.2 hx]; rfl
/-! what is asked -/
theorem sfrom_eq (n a b : Int) : F58 n a b = decide (a ≤ n ∧ n ≤ b) := by
  unfold F58
  by_cases h1 : a ≤ n <;> by_cases h2 : n ≤ b <;> simp [h1, h2]
open Classical in
theorem isP_f (x : P3) : F42 x = decide (bd 256 x) := by
  unfold F42
  rw [sfrom_eq, sfrom_eq, sfrom_eq]
  exact and3 Iff.rfl
theorem isS_f (n : Int) : F43 n = decide (1 ≤ n ∧ n ≤ 16) := by unfold F43; exact sfrom_eq _ _ _
abbrev PU := PN × Int × Int
/-- the error of a pulse -/
noncomputable def pv (p : PU) : Int := if vp p.1 = 0 then (if (0 ≤ p.2.1 ∧ p.2.1 ≤ 1000) ∧ (-100 ≤ p.2.2 ∧ p.2.2 ≤ 100) then 0 else 1) else vp p.1
theorem pv_aux (v : Int) (a b : Prop) [Decidable a] [Decidable b] : (bif (v != 0) then v else (bif (!(decide a)) then 1 else (bif (!(decide b)) then (1 : Int) else 0))) = if v = 0 then (if a ∧ b then 0 else 1) else v := by
  by_cases h : v = 0
  · subst h; by_cases ha : a <;> by_cases hb : b <;> simp [ha, hb]
  · rw [bne_iff_ne.2 h, if_neg h]; rfl
theorem vpul_1 (p : PU) : F57_1 p = pv p := by
  unfold F57_1
  rw [vp_s, sfrom_eq, sfrom_eq]; exact pv_aux _ _ _
theorem chk_1 (p : PU) (b : Bool) : F41_1 p b = if pv p = 0 then (if b = true then 0 else 1) else pv p := by
  unfold F41_1
  rw [vpul_1]
  by_cases h : pv p = 0
  · rw [h]; cases b <;> simp
  · rw [bne_iff_ne.2 h, if_neg h]; rfl
def POK (p : PU) : Prop := vp p.1 = 0 ∧ (0 ≤ p.2.1 ∧ p.2.1 ≤ 1000) ∧ (-100 ≤ p.2.2 ∧ p.2.2 ≤ 100)
theorem pv_ok {p : PU} : pv p = 0 ↔ POK p := by
  unfold pv POK
  constructor
  · intro h
    split at h
    · split at h
      · rename_i h1 h2; exact ⟨h1, h2⟩
      · cases h
    · rename_i h1; exact absurd h h1
  · intro h; rw [if_pos h.1, if_pos h.2]
theorem ckb_p {p : PU} {b : Bool} (h : ((F41_1 p b : Int) != 0) = false) : POK p := by
  have h := bne_eq_false_iff_eq.1 h
  rw [chk_1] at h
  split at h
  · rename_i h1; exact pv_ok.1 h1
  · rename_i h1; exact absurd h h1
theorem ckb_b {p : PU} {b : Bool} (h : ((F41_1 p b : Int) != 0) = false) : b = true := by
  have h := bne_eq_false_iff_eq.1 h
  rw [chk_1] at h
  split at h
  · split at h
    · assumption
    · cases h
  · rename_i h1; exact absurd h h1
theorem isp_p {x : P3} (h : F42 x = true) : bd 256 x := by rw [isP_f] at h; simpa using h
theorem isp_n {x : P3} (h : (!(F42 x)) = false) : bd 256 x := isp_p (by simpa using h)
theorem iss_p {n : Int} (h : F43 n = true) : 1 ≤ n ∧ n ≤ 16 := by rw [isS_f] at h; simpa using h
theorem iss_n {n : Int} (h : (!(F43 n)) = false) : 1 ≤ n ∧ n ≤ 16 := iss_p (by simpa using h)
/-! how far sound goes -/
theorem ds6 {m : Int} {p q : P3} (hp : bd m p) (hq : bd 256 q) (hm : 0 ≤ m ∧ m ≤ 256) : ds p q ≤ 786432 := by
  have h : bd 512 (sb p q) := (bd_sb hp hq).mono (by omega)
  have h1 := (dt_bd h h).2
  have : ds p q = dt (sb p q) (sb p q) := rfl
  omega
theorem fa6 {c : PN} {x : P3} (hc : bdP 64 c) (hx : bd 256 x) : fa c x ≤ 786432 :=
  mx_le (mx_le (mx_le (by omega) (ds6 hc.1 hx (by omega))) (ds6 hc.2.1 hx (by omega))) (ds6 hc.2.2 hx (by omega))
theorem tra_f {p q : P3} (hp : bd 256 p) (hq : bd 256 q) : F54 p q ≤ 1000000 := by
  rw [dist_f (hp.mono (by omega)) (hq.mono (by omega))]; have := ds6 hp hq (by omega); omega
theorem pok_bd {p : PU} (h : POK p) : bdP 64 p.1 := (vp_ok h.1).1
theorem nef6 {p : PU} {x : P3} (h : POK p) (hx : bd 256 x) : F74 p.1 x ≤ 1000000 := by
  rw [sne_f ((pok_bd h).mono (by omega)) (hx.mono (by omega))]; have := (ne_le p.1 x).2; have := fa6 (pok_bd h) hx; omega
end Go.Proofs.Ytidhogejnafhaaa

namespace Go.Proofs.Ytidhogejnafhaaa
open Go.Proofs Go.Aw Go.RowKit
set_option maxRecDepth 100000
set_option linter.unusedVariables false
set_option linter.unusedSimpArgs false

noncomputable def B53_0 : Code := (loopAtD [1, 1, 0] [] (bodyOf Try.f53) []).1
noncomputable def K53_0 : List K := (loopAtD [1, 1, 0] [] (bodyOf Try.f53) []).2

def st53_0 (a0 : Int) (a1 : Int) (v1 : Int) : LS := ⟨slN 15 [(0, (iv a0)), (1, (iv a1)), (5, (iv v1))], []⟩

/-- a round of loop 0 of facet/sound.travel; the variables: v1 = s5 -/
def S53_0 (a0 : Int) (a1 : Int) : Int → (Int) ⊕ (Int)
  | v1 =>
   (bif (decide (((F73 (W (a1 * v1))) : Int) < a0)) then
    (.inl (W (v1 + 1)))
   else
    (.inr v1))

set_option maxHeartbeats 4000000 in
theorem L53_0 (a0 : Int) (a1 : Int) (hq : a0 ≤ 1000000) (hs : 1 ≤ a1 ∧ a1 ≤ 1000) {cx : Cx} (hcx : cx.base = 0) : ∀ (n : Nat) (v1 : Int), (0 ≤ v1) ∧ (v1 ≤ 1000) → Int.toNat (1000 - v1) < n → Aw.Good Try.prog none 9 (bodyPost Try.prog Try.f53 (RR cx (iv (loopF (S53_0 a0 a1) n v1)) [] [])) cx [] (.l B53_0 n :: K53_0) (st53_0 a0 a1 v1) := by
  intro n
  induction n with
  | zero => intro v1 hi hn; exact absurd hn (Nat.not_lt_zero _)
  | succ n ih =>
    intro v1 hi hn
    refine good_round ?_
    have hf := trav_f (t := v1) hs (by omega) hq
    have hw := W_eq (n := v1 + 1) (by omega) (by omega)
    let t0 : List (St Try.prog) := [.c [] (C73 (W (a1 * v1)))]
    cases h0 : (decide (((F73 (W (a1 * v1))) : Int) < a0)) with
    | true =>
     have q0 := of_decide_eq_true h0
     have e := Eq.refl (S53_0 a0 a1 v1); conv at e => rhs; simp only [S53_0, h0, cond_true, cond_false]
     rw [loopF_inl e]
     refine ba (t0 ++ [.d h0]) [] [0, 1, 5] [] hcx (m := n) B53_0 (K53_0) (st53_0 a0 a1 (W (v1 + 1))) (by kernel_rfl) ?_
     exact ih (W (v1 + 1)) (by refine ⟨?_, ?_⟩ <;> (try simp only [List.length_append, List.length_cons, List.length_nil, Int.toNat_zero]) <;> first | omega | assumption | simp) (by (try simp only [List.length_append, List.length_cons, List.length_nil, Int.toNat_zero]); omega)
    | false =>
     have q0 := of_decide_eq_false h0
     have e := Eq.refl (S53_0 a0 a1 v1); conv at e => rhs; simp only [S53_0, h0, cond_true, cond_false]
     rw [loopF_s, e]
     exact rt (t0 ++ [.d h0]) [] [] hcx (by kernel_rfl)

/-- facet/sound.travel -/
def F53 (a0 : Int) (a1 : Int) : Int :=
  (loopF (S53_0 a0 a1) (Int.toNat (1000 - 0) + 1) 0)

theorem C53 (a0 : Int) (a1 : Int) (hq : a0 ≤ 1000000) (hs : 1 ≤ a1 ∧ a1 ≤ 1000) : Con Try.prog 53 [(iv a0), (iv a1)] [] (iv (F53 a0 a1)) [] := by
  refine con_s Try.func53 (by kernel_rfl) fun cx hcx => ?_
  have e := Eq.refl (F53 a0 a1); conv at e => rhs; simp only [F53]
  rw [e]
  refine en [] [] [0, 1, 5] [] hcx B53_0 (K53_0) (st53_0 a0 a1 0) (Int.toNat (1000 - 0) + 1) (by kernel_rfl) ?_
  exact L53_0 a0 a1 hq hs hcx (Int.toNat (1000 - 0) + 1) 0 (by refine ⟨?_, ?_⟩ <;> (try simp only [List.length_append, List.length_cons, List.length_nil, Int.toNat_zero]) <;> first | omega | assumption | simp) (by (try simp only [List.length_append, List.length_cons, List.length_nil, Int.toNat_zero]); omega)

/-- facet/sound.Travel -/
def F38 (a0 : Int × Int × Int) (a1 : Int × Int × Int) (a2 : Int) : Int × Int :=
  (bif (!(F42 a0)) then
   (0, 1)
  else
   (bif (!(F42 a1)) then
    (0, 1)
   else
    (bif (!(F43 a2)) then
     (0, 1)
    else
     ((F53 (F54 a0 a1) a2), 0))))

theorem C38 (a0 : Int × Int × Int) (a1 : Int × Int × Int) (a2 : Int) : Con Try.prog 38 [(.a (k3 a0)), (.a (k3 a1)), (iv a2)] [] (.t (k2 (F38 a0 a1 a2))) [] := by
  refine con_s Try.func38 (by kernel_rfl) fun cx hcx => ?_
  let t0 : List (St Try.prog) := [.c [] (C42 a0)]
  cases h0 : (!(F42 a0)) with
  | true =>
   have e := Eq.refl (F38 a0 a1 a2); conv at e => rhs; simp only [F38, h0, cond_true, cond_false]
   rw [e]
   exact rt (t0 ++ [.d h0]) [] [] hcx (by kernel_rfl)
  | false =>
   let t1 : List (St Try.prog) := (t0 ++ [.d h0, .c [] (C42 a1)])
   cases h1 : (!(F42 a1)) with
   | true =>
    have e := Eq.refl (F38 a0 a1 a2); conv at e => rhs; simp only [F38, h0, h1, cond_true, cond_false]
    rw [e]
    exact rt (t1 ++ [.d h1]) [] [] hcx (by kernel_rfl)
   | false =>
    let t2 : List (St Try.prog) := (t1 ++ [.d h1, .c [] (C43 a2)])
    cases h2 : (!(F43 a2)) with
    | true =>
     have e := Eq.refl (F38 a0 a1 a2); conv at e => rhs; simp only [F38, h0, h1, h2, cond_true, cond_false]
     rw [e]
     exact rt (t2 ++ [.d h2]) [] [] hcx (by kernel_rfl)
    | false =>
     have e := Eq.refl (F38 a0 a1 a2); conv at e => rhs; simp only [F38, h0, h1, h2, cond_true, cond_false]
     rw [e]
     exact rt (t2 ++ [.d h2, .c [] (C54 a0 a1), .c [] (C53 (F54 a0 a1) a2  (tra_f (isp_n h0) (isp_n h1)) (by have := iss_n h2; omega))]) [] [] hcx (by kernel_rfl)

/-- facet/sound.first -/
def F55 (a0 : ((Int × Int × Int) × (Int × Int × Int) × Int × Int × Int) × Int × Int) (a1 : Int × Int × Int) (a2 : Int) : Int :=
  (W (a0.2.1 + (F53 (F74 a0.1 a1) a2)))

theorem C55 (a0 : ((Int × Int × Int) × (Int × Int × Int) × Int × Int × Int) × Int × Int) (a1 : Int × Int × Int) (a2 : Int) (hp : POK a0) (hx : bd 256 a1) (hs : 1 ≤ a2 ∧ a2 ≤ 16) : Con Try.prog 55 [(.a [(iv a0.1.1.1), (iv a0.1.1.2.1), (iv a0.1.1.2.2), (iv a0.1.2.1.1), (iv a0.1.2.1.2.1), (iv a0.1.2.1.2.2), (iv a0.1.2.2.1), (iv a0.1.2.2.2.1), (iv a0.1.2.2.2.2), (iv a0.2.1), (iv a0.2.2)]), (.a (k3 a1)), (iv a2)] [] (iv (F55 a0 a1 a2)) [] := by
  refine con_s Try.func55 (by kernel_rfl) fun cx hcx => ?_
  have e := Eq.refl (F55 a0 a1 a2); conv at e => rhs; simp only [F55]
  rw [e]
  exact rt [.c [] (C74 a0.1 a1), .c [] (C53 (F74 a0.1 a1) a2  (nef6 hp hx) (by omega))] [] [] hcx (by kernel_rfl)

/-- facet/sound.First -/
def F39 (a0 : ((Int × Int × Int) × (Int × Int × Int) × Int × Int × Int) × Int × Int) (a1 : Int × Int × Int) (a2 : Int) : Int × Int :=
  (bif (F42 a1) then
   (bif (((F41_1 a0 (F43 a2)) : Int) != 0) then
    (0, (F41_1 a0 (F43 a2)))
   else
    ((F55 a0 a1 a2), 0))
  else
   (bif (((F41_1 a0 false) : Int) != 0) then
    (0, (F41_1 a0 false))
   else
    ((F55 a0 a1 a2), 0)))

theorem C39 (a0 : ((Int × Int × Int) × (Int × Int × Int) × Int × Int × Int) × Int × Int) (a1 : Int × Int × Int) (a2 : Int) : Con Try.prog 39 [(.a [(iv a0.1.1.1), (iv a0.1.1.2.1), (iv a0.1.1.2.2), (iv a0.1.2.1.1), (iv a0.1.2.1.2.1), (iv a0.1.2.1.2.2), (iv a0.1.2.2.1), (iv a0.1.2.2.2.1), (iv a0.1.2.2.2.2), (iv a0.2.1), (iv a0.2.2)]), (.a (k3 a1)), (iv a2)] [] (.t (k2 (F39 a0 a1 a2))) [] := by
  refine con_s Try.func39 (by kernel_rfl) fun cx hcx => ?_
  let t0 : List (St Try.prog) := [.c [] (C42 a1)]
  cases h0 : (F42 a1) with
  | true =>
   let t1 : List (St Try.prog) := (t0 ++ [.d h0, .c [] (C43 a2), .c [2] (C41_1 a0 (F43 a2))])
   cases h1 : (((F41_1 a0 (F43 a2)) : Int) != 0) with
   | true =>
    have q1 := bne_iff_ne.1 h1
    have e := Eq.refl (F39 a0 a1 a2); conv at e => rhs; simp only [F39, h0, h1, cond_true, cond_false]
    rw [e]
    exact rt (t1 ++ [.d h1]) [] [] hcx (by kernel_rfl)
   | false =>
    have q1 := bne_eq_false_iff_eq.1 h1
    have e := Eq.refl (F39 a0 a1 a2); conv at e => rhs; simp only [F39, h0, h1, cond_true, cond_false]
    rw [e]
    exact rt (t1 ++ [.d h1, .c [] (C55 a0 a1 a2  (ckb_p h1) (by first | exact isp_p h0 | exact absurd (ckb_b h1) (by decide)) (by first | exact iss_p (ckb_b h1) | exact absurd (ckb_b h1) (by decide)))]) [] [] hcx (by kernel_rfl)
  | false =>
   let t1 : List (St Try.prog) := (t0 ++ [.d h0, .c [2] (C41_1 a0 false)])
   cases h1 : (((F41_1 a0 false) : Int) != 0) with
   | true =>
    have q1 := bne_iff_ne.1 h1
    have e := Eq.refl (F39 a0 a1 a2); conv at e => rhs; simp only [F39, h0, h1, cond_true, cond_false]
    rw [e]
    exact rt (t1 ++ [.d h1]) [] [] hcx (by kernel_rfl)
   | false =>
    have q1 := bne_eq_false_iff_eq.1 h1
    have e := Eq.refl (F39 a0 a1 a2); conv at e => rhs; simp only [F39, h0, h1, cond_true, cond_false]
    rw [e]
    exact rt (t1 ++ [.d h1, .c [] (C55 a0 a1 a2  (ckb_p h1) (by first | exact isp_p h0 | exact absurd (ckb_b h1) (by decide)) (by first | exact iss_p (ckb_b h1) | exact absurd (ckb_b h1) (by decide)))]) [] [] hcx (by kernel_rfl)

end Go.Proofs.Ytidhogejnafhaaa

namespace Go.Proofs.Ytidhogejnafhaaa
open Go.Proofs Go.Aw Go.RowKit
set_option maxRecDepth 100000
set_option linter.unusedVariables false
set_option linter.unusedSimpArgs false

/-- (facet/sound.shell).gives -/
def F76 (a0 : Int × Int × Int) (a1 : Int) (a2 : Int) : (Int × Int) × Int :=
  (bif (decide ((a2 : Int) ≤ a0.1)) then
   ((0, 0), 0)
  else
   (bif (decide ((a1 : Int) > a0.2.1)) then
    ((0, 0), 0)
   else
    (bif (decide ((a1 : Int) > a0.1)) then
     (bif (((if (a1 : Int) < a0.1 then a0.1 else a1) : Int) == 0) then
      ((0, 0), 10)
     else
      (bif (((F62 (if (a1 : Int) < a0.1 then a0.1 else a1) a0.2.2).2 : Int) != 0) then
       ((0, (F62 (if (a1 : Int) < a0.1 then a0.1 else a1) a0.2.2).1.2), (F62 (if (a1 : Int) < a0.1 then a0.1 else a1) a0.2.2).2)
      else
       (bif (!(decide ((a2 : Int) ≤ a0.2.1))) then
        ((0, (F62 (if (a1 : Int) < a0.1 then a0.1 else a1) a0.2.2).1.2), (F62 (if (a1 : Int) < a0.1 then a0.1 else a1) a0.2.2).2)
       else
        (((F62 a2 a0.2.2).1.1, (F62 (if (a1 : Int) < a0.1 then a0.1 else a1) a0.2.2).1.2), (F62 a2 a0.2.2).2))))
    else
     (bif (((if (a1 : Int) < a0.1 then a0.1 else a1) : Int) == 0) then
      ((0, 0), 10)
     else
      (bif (((F62 (if (a1 : Int) < a0.1 then a0.1 else a1) a0.2.2).2 : Int) != 0) then
       ((0, (F62 (if (a1 : Int) < a0.1 then a0.1 else a1) a0.2.2).1.2), (F62 (if (a1 : Int) < a0.1 then a0.1 else a1) a0.2.2).2)
      else
       ((0, (F62 (if (a1 : Int) < a0.1 then a0.1 else a1) a0.2.2).1.2), (F62 (if (a1 : Int) < a0.1 then a0.1 else a1) a0.2.2).2))))))

noncomputable def oC76_0 (a0 : Int × Int × Int) (a1 : Int) : Ob := .eq (((if (a1 : Int) < a0.1 then a0.1 else a1) : Int) == 0) false
theorem C76 (a0 : Int × Int × Int) (a1 : Int) (a2 : Int) : Con Try.prog 76 [(.a (k3 a0)), (iv a1), (iv a2)] [] (.t [(.a (k2 (F76 a0 a1 a2).1)), (iv (F76 a0 a1 a2).2)]) [] := by
  cases h0 : (decide ((a2 : Int) ≤ a0.1)) with
  | true =>
    have q0 := of_decide_eq_true h0
    have e : (F76 a0 a1 a2) = ((0, 0), 0) := by simp only [F76, h0, cond_true, cond_false]
    rw [e]
    refine con_of (n := 9) Try.func76 rfl (ent Try.func76 (by kernel_rfl) rfl) (by show 3 ≤ Try.f76.ntmps; decide) (by kernel_rfl) trivial (fun cx hcx => ?_)
    exact ret_of (T := T0) hT hm (f := 5000) (orc := [.d true]) [] [] [] hcx
      (obs := [.eq (decide ((a2 : Int) ≤ a0.1)) true]) (by kernel_rfl) ⟨h0, trivial⟩
  | false =>
    cases h1 : (decide ((a1 : Int) > a0.2.1)) with
    | true =>
      have q0 := of_decide_eq_false h0
      have q1 := of_decide_eq_true h1
      have e : (F76 a0 a1 a2) = ((0, 0), 0) := by simp only [F76, h0, h1, cond_true, cond_false]
      rw [e]
      refine con_of (n := 9) Try.func76 rfl (ent Try.func76 (by kernel_rfl) rfl) (by show 3 ≤ Try.f76.ntmps; decide) (by kernel_rfl) trivial (fun cx hcx => ?_)
      exact ret_of (T := T0) hT hm (f := 5000) (orc := [.d false, .d true]) [] [] [] hcx
        (obs := [.eq (decide ((a2 : Int) ≤ a0.1)) false, .eq (decide ((a1 : Int) > a0.2.1)) true]) (by kernel_rfl) ⟨h0, h1, trivial⟩
    | false =>
      cases h2 : (decide ((a1 : Int) > a0.1)) with
      | true =>
        cases h3 : (((if (a1 : Int) < a0.1 then a0.1 else a1) : Int) == 0) with
        | true =>
          have q0 := of_decide_eq_false h0
          have q1 := of_decide_eq_false h1
          have q2 := of_decide_eq_true h2
          have q3 := eq_of_beq h3
          have e : (F76 a0 a1 a2) = ((0, 0), 10) := by simp only [F76, h0, h1, h2, h3, cond_true, cond_false]
          rw [e]
          refine con_of (n := 9) Try.func76 rfl (ent Try.func76 (by kernel_rfl) rfl) (by show 3 ≤ Try.f76.ntmps; decide) (by kernel_rfl) trivial (fun cx hcx => ?_)
          exact ret_of (T := T0) hT hm (f := 5000) (orc := [.d false, .d false, .d true, .d true]) [] [] [] hcx
            (obs := [.eq (decide ((a2 : Int) ≤ a0.1)) false, .eq (decide ((a1 : Int) > a0.2.1)) false, .eq (decide ((a1 : Int) > a0.1)) true, .eq (((if (a1 : Int) < a0.1 then a0.1 else a1) : Int) == 0) true]) (by kernel_rfl) ⟨h0, h1, h2, h3, trivial⟩
        | false =>
          cases h4 : (((F62 (if (a1 : Int) < a0.1 then a0.1 else a1) a0.2.2).2 : Int) != 0) with
          | true =>
            have q0 := of_decide_eq_false h0
            have q1 := of_decide_eq_false h1
            have q2 := of_decide_eq_true h2
            have q3 := ne_of_beq_false h3
            have q4 := bne_iff_ne.1 h4
            obtain ⟨u0, hu0⟩ : ∃ u, u = (F62 (if (a1 : Int) < a0.1 then a0.1 else a1) a0.2.2) := ⟨_, rfl⟩
            have e : (F76 a0 a1 a2) = ((0, u0.1.2), u0.2) := by subst hu0; simp only [F76, h0, h1, h2, h3, h4, cond_true, cond_false]
            rw [e]
            refine con_of (n := 9) Try.func76 rfl (ent Try.func76 (by kernel_rfl) rfl) (by show 3 ≤ Try.f76.ntmps; decide) (by kernel_rfl) trivial (fun cx hcx => ?_)
            exact ret_of (T := T0) hT hm (f := 5000) (orc := [.d false, .d false, .d true, .d false, .call [] (.t [(.a [(iv u0.1.1), (iv u0.1.2)]), (iv u0.2)]) [], .d true]) [] [] [] hcx
              (obs := [.eq (decide ((a2 : Int) ≤ a0.1)) false, .eq (decide ((a1 : Int) > a0.2.1)) false, .eq (decide ((a1 : Int) > a0.1)) true, (oC76_0 a0 a1), .call 62 [(iv (if (a1 : Int) < a0.1 then a0.1 else a1)), (iv a0.2.2)] [] (.t [(.a [(iv u0.1.1), (iv u0.1.2)]), (iv u0.2)]) [], .eq ((u0.2 : Int) != 0) true]) (by kernel_rfl) (by subst hu0; exact ⟨h0, h1, h2, h3, (C62 (if (a1 : Int) < a0.1 then a0.1 else a1) a0.2.2), h4, trivial⟩)
          | false =>
            cases h5 : (!(decide ((a2 : Int) ≤ a0.2.1))) with
            | true =>
              have q0 := of_decide_eq_false h0
              have q1 := of_decide_eq_false h1
              have q2 := of_decide_eq_true h2
              have q3 := ne_of_beq_false h3
              have q4 := bne_eq_false_iff_eq.1 h4
              obtain ⟨u0, hu0⟩ : ∃ u, u = (F62 (if (a1 : Int) < a0.1 then a0.1 else a1) a0.2.2) := ⟨_, rfl⟩
              have e : (F76 a0 a1 a2) = ((0, u0.1.2), u0.2) := by subst hu0; simp only [F76, h0, h1, h2, h3, h4, h5, cond_true, cond_false]
              rw [e]
              refine con_of (n := 9) Try.func76 rfl (ent Try.func76 (by kernel_rfl) rfl) (by show 3 ≤ Try.f76.ntmps; decide) (by kernel_rfl) trivial (fun cx hcx => ?_)
              exact ret_of (T := T0) hT hm (f := 5000) (orc := [.d false, .d false, .d true, .d false, .call [] (.t [(.a [(iv u0.1.1), (iv u0.1.2)]), (iv u0.2)]) [], .d false, .d true]) [] [] [] hcx
                (obs := [.eq (decide ((a2 : Int) ≤ a0.1)) false, .eq (decide ((a1 : Int) > a0.2.1)) false, .eq (decide ((a1 : Int) > a0.1)) true, (oC76_0 a0 a1), .call 62 [(iv (if (a1 : Int) < a0.1 then a0.1 else a1)), (iv a0.2.2)] [] (.t [(.a [(iv u0.1.1), (iv u0.1.2)]), (iv u0.2)]) [], .eq ((u0.2 : Int) != 0) false, .eq (!(decide ((a2 : Int) ≤ a0.2.1))) true]) (by kernel_rfl) (by subst hu0; exact ⟨h0, h1, h2, h3, (C62 (if (a1 : Int) < a0.1 then a0.1 else a1) a0.2.2), h4, h5, trivial⟩)
            | false =>
              have q0 := of_decide_eq_false h0
              have q1 := of_decide_eq_false h1
              have q2 := of_decide_eq_true h2
              have q3 := ne_of_beq_false h3
              have q4 := bne_eq_false_iff_eq.1 h4
              obtain ⟨u0, hu0⟩ : ∃ u, u = (F62 (if (a1 : Int) < a0.1 then a0.1 else a1) a0.2.2) := ⟨_, rfl⟩
              obtain ⟨u1, hu1⟩ : ∃ u, u = (F62 a2 a0.2.2) := ⟨_, rfl⟩
              have e : (F76 a0 a1 a2) = ((u1.1.1, u0.1.2), u1.2) := by subst hu1; subst hu0; simp only [F76, h0, h1, h2, h3, h4, h5, cond_true, cond_false]
              rw [e]
              refine con_of (n := 9) Try.func76 rfl (ent Try.func76 (by kernel_rfl) rfl) (by show 3 ≤ Try.f76.ntmps; decide) (by kernel_rfl) trivial (fun cx hcx => ?_)
              exact ret_of (T := T0) hT hm (f := 5000) (orc := [.d false, .d false, .d true, .d false, .call [] (.t [(.a [(iv u0.1.1), (iv u0.1.2)]), (iv u0.2)]) [], .d false, .d false, .call [] (.t [(.a [(iv u1.1.1), (iv u1.1.2)]), (iv u1.2)]) []]) [] [] [] hcx
                (obs := [.eq (decide ((a2 : Int) ≤ a0.1)) false, .eq (decide ((a1 : Int) > a0.2.1)) false, .eq (decide ((a1 : Int) > a0.1)) true, (oC76_0 a0 a1), .call 62 [(iv (if (a1 : Int) < a0.1 then a0.1 else a1)), (iv a0.2.2)] [] (.t [(.a [(iv u0.1.1), (iv u0.1.2)]), (iv u0.2)]) [], .eq ((u0.2 : Int) != 0) false, .eq (!(decide ((a2 : Int) ≤ a0.2.1))) false, .call 62 [(iv a2), (iv a0.2.2)] [] (.t [(.a [(iv u1.1.1), (iv u1.1.2)]), (iv u1.2)]) []]) (by kernel_rfl) (by subst hu1; subst hu0; exact ⟨h0, h1, h2, h3, (C62 (if (a1 : Int) < a0.1 then a0.1 else a1) a0.2.2), h4, h5, (C62 a2 a0.2.2), trivial⟩)
      | false =>
        cases h3 : (((if (a1 : Int) < a0.1 then a0.1 else a1) : Int) == 0) with
        | true =>
          have q0 := of_decide_eq_false h0
          have q1 := of_decide_eq_false h1
          have q2 := of_decide_eq_false h2
          have q3 := eq_of_beq h3
          have e : (F76 a0 a1 a2) = ((0, 0), 10) := by simp only [F76, h0, h1, h2, h3, cond_true, cond_false]
          rw [e]
          refine con_of (n := 9) Try.func76 rfl (ent Try.func76 (by kernel_rfl) rfl) (by show 3 ≤ Try.f76.ntmps; decide) (by kernel_rfl) trivial (fun cx hcx => ?_)
          exact ret_of (T := T0) hT hm (f := 5000) (orc := [.d false, .d false, .d false, .d true]) [] [] [] hcx
            (obs := [.eq (decide ((a2 : Int) ≤ a0.1)) false, .eq (decide ((a1 : Int) > a0.2.1)) false, .eq (decide ((a1 : Int) > a0.1)) false, .eq (((if (a1 : Int) < a0.1 then a0.1 else a1) : Int) == 0) true]) (by kernel_rfl) ⟨h0, h1, h2, h3, trivial⟩
        | false =>
          cases h4 : (((F62 (if (a1 : Int) < a0.1 then a0.1 else a1) a0.2.2).2 : Int) != 0) with
          | true =>
            have q0 := of_decide_eq_false h0
            have q1 := of_decide_eq_false h1
            have q2 := of_decide_eq_false h2
            have q3 := ne_of_beq_false h3
            have q4 := bne_iff_ne.1 h4
            obtain ⟨u0, hu0⟩ : ∃ u, u = (F62 (if (a1 : Int) < a0.1 then a0.1 else a1) a0.2.2) := ⟨_, rfl⟩
            have e : (F76 a0 a1 a2) = ((0, u0.1.2), u0.2) := by subst hu0; simp only [F76, h0, h1, h2, h3, h4, cond_true, cond_false]
            rw [e]
            refine con_of (n := 9) Try.func76 rfl (ent Try.func76 (by kernel_rfl) rfl) (by show 3 ≤ Try.f76.ntmps; decide) (by kernel_rfl) trivial (fun cx hcx => ?_)
            exact ret_of (T := T0) hT hm (f := 5000) (orc := [.d false, .d false, .d false, .d false, .call [] (.t [(.a [(iv u0.1.1), (iv u0.1.2)]), (iv u0.2)]) [], .d true]) [] [] [] hcx
              (obs := [.eq (decide ((a2 : Int) ≤ a0.1)) false, .eq (decide ((a1 : Int) > a0.2.1)) false, .eq (decide ((a1 : Int) > a0.1)) false, (oC76_0 a0 a1), .call 62 [(iv (if (a1 : Int) < a0.1 then a0.1 else a1)), (iv a0.2.2)] [] (.t [(.a [(iv u0.1.1), (iv u0.1.2)]), (iv u0.2)]) [], .eq ((u0.2 : Int) != 0) true]) (by kernel_rfl) (by subst hu0; exact ⟨h0, h1, h2, h3, (C62 (if (a1 : Int) < a0.1 then a0.1 else a1) a0.2.2), h4, trivial⟩)
          | false =>
            have q0 := of_decide_eq_false h0
            have q1 := of_decide_eq_false h1
            have q2 := of_decide_eq_false h2
            have q3 := ne_of_beq_false h3
            have q4 := bne_eq_false_iff_eq.1 h4
            obtain ⟨u0, hu0⟩ : ∃ u, u = (F62 (if (a1 : Int) < a0.1 then a0.1 else a1) a0.2.2) := ⟨_, rfl⟩
            have e : (F76 a0 a1 a2) = ((0, u0.1.2), u0.2) := by subst hu0; simp only [F76, h0, h1, h2, h3, h4, cond_true, cond_false]
            rw [e]
            refine con_of (n := 9) Try.func76 rfl (ent Try.func76 (by kernel_rfl) rfl) (by show 3 ≤ Try.f76.ntmps; decide) (by kernel_rfl) trivial (fun cx hcx => ?_)
            exact ret_of (T := T0) hT hm (f := 5000) (orc := [.d false, .d false, .d false, .d false, .call [] (.t [(.a [(iv u0.1.1), (iv u0.1.2)]), (iv u0.2)]) [], .d false]) [] [] [] hcx
              (obs := [.eq (decide ((a2 : Int) ≤ a0.1)) false, .eq (decide ((a1 : Int) > a0.2.1)) false, .eq (decide ((a1 : Int) > a0.1)) false, (oC76_0 a0 a1), .call 62 [(iv (if (a1 : Int) < a0.1 then a0.1 else a1)), (iv a0.2.2)] [] (.t [(.a [(iv u0.1.1), (iv u0.1.2)]), (iv u0.2)]) [], .eq ((u0.2 : Int) != 0) false]) (by kernel_rfl) (by subst hu0; exact ⟨h0, h1, h2, h3, (C62 (if (a1 : Int) < a0.1 then a0.1 else a1) a0.2.2), h4, trivial⟩)

end Go.Proofs.Ytidhogejnafhaaa

namespace Go.Proofs.Ytidhogejnafhaaa
open Go.Proofs Go.Aw Go.RowKit
set_option maxRecDepth 100000
set_option linter.unusedVariables false
set_option linter.unusedSimpArgs false

theorem ist_p {n : Int} (h : F44 n = true) : 0 ≤ n ∧ n ≤ 2000 := by
  unfold F44 at h; rw [sfrom_eq] at h; simpa using h
theorem isd_p {n : Int} (h : F45 n = true) : 0 ≤ n ∧ n ≤ 3 := by
  unfold F45 at h; rw [sfrom_eq] at h; simpa using h
theorem sp_len (p : PN) (d : Int) : (F75 p d).1.length ≤ 64 := by
  rw [parts_f]
  split
  · split
    · rename_i h
      simp only [cutL_len]
      have : Int.toNat d = 0 ∨ Int.toNat d = 1 ∨ Int.toNat d = 2 ∨ Int.toNat d = 3 := by omega
      rcases this with e | e | e | e <;> rw [e] <;> decide
    · simp
  · simp
noncomputable def B56_0 : Code := (loopAtD [1, 1, 1, 1, 1, 1, 1, 1, 1, 0, 1] [] (bodyOf Try.f56) []).1
noncomputable def K56_0 : List K := (loopAtD [1, 1, 1, 1, 1, 1, 1, 1, 1, 0, 1] [] (bodyOf Try.f56) []).2

def st56_0 (a0 : ((Int × Int × Int) × (Int × Int × Int) × Int × Int × Int) × Int × Int) (a1 : Int × Int × Int) (a2 : Int) (a3 : Int) (a4 : Int) (v2c : List SV) (v2n : Nat) (v3 : Int) : LS := ⟨slN 117 [(5, (.p 0 0)), (10, (.p 1 0)), (13, (.s 2 0 (F75 a0.1 a4).1.length 9)), (16, (.p 3 0)), (17, (.p 4 0)), (18, (.s 5 0 v2n 2)), (72, (iv (((F75 a0.1 a4).1.length : Nat) : Int))), (73, (iv v3))], [(.live true false [(iv a0.1.1.1), (iv a0.1.1.2.1), (iv a0.1.1.2.2), (iv a0.1.2.1.1), (iv a0.1.2.1.2.1), (iv a0.1.2.1.2.2), (iv a0.1.2.2.1), (iv a0.1.2.2.2.1), (iv a0.1.2.2.2.2), (iv a0.2.1), (iv a0.2.2)]), (.live true false [(iv 0), (iv 0)]), (.live true true (flat c45 (F75 a0.1 a4).1)), (.live true false [(iv (F73 (W ((W ((W (1 * 2 ^ (min (Int.toNat a4) 64))) * a2)) * (W ((W (a3 - a0.2.1)) - 1)))))), (iv (F73 (W ((W ((W (1 * 2 ^ (min (Int.toNat a4) 64))) * a2)) * (W (a3 - a0.2.1)))))), (iv (W (1 * 2 ^ (min (Int.toNat a4) 64))))]), (.live true false [(iv (W ((W (1 * 2 ^ (min (Int.toNat a4) 64))) * a1.1))), (iv (W ((W (1 * 2 ^ (min (Int.toNat a4) 64))) * a1.2.1))), (iv (W ((W (1 * 2 ^ (min (Int.toNat a4) 64))) * a1.2.2)))]), (.live true true v2c)]⟩

/-- a round of loop 0 of facet/sound.heard; the variables: v2 = s18, v3 = s73 -/
def S56_0 (a0 : ((Int × Int × Int) × (Int × Int × Int) × Int × Int × Int) × Int × Int) (a1 : Int × Int × Int) (a2 : Int) (a3 : Int) (a4 : Int) : (List (Int × Int)) × Int → ((List (Int × Int)) × Int) ⊕ ((Int × Int) × Int)
  | (v2, v3) =>
   (bif (decide ((v3 : Int) < (((F75 a0.1 a4).1.length : Nat) : Int))) then
    (bif (((F76 ((F73 (W ((W ((W (1 * 2 ^ (min (Int.toNat a4) 64))) * a2)) * (W ((W (a3 - a0.2.1)) - 1))))), (F73 (W ((W ((W (1 * 2 ^ (min (Int.toNat a4) 64))) * a2)) * (W (a3 - a0.2.1))))), (W (1 * 2 ^ (min (Int.toNat a4) 64)))) (F74 ((F75 a0.1 a4).1.getD (Int.toNat v3) default) ((W ((W (1 * 2 ^ (min (Int.toNat a4) 64))) * a1.1)), (W ((W (1 * 2 ^ (min (Int.toNat a4) 64))) * a1.2.1)), (W ((W (1 * 2 ^ (min (Int.toNat a4) 64))) * a1.2.2)))) (F77 ((F75 a0.1 a4).1.getD (Int.toNat v3) default) ((W ((W (1 * 2 ^ (min (Int.toNat a4) 64))) * a1.1)), (W ((W (1 * 2 ^ (min (Int.toNat a4) 64))) * a1.2.1)), (W ((W (1 * 2 ^ (min (Int.toNat a4) 64))) * a1.2.2))))).2 : Int) != 0) then
     (.inr ((0, 0), (F76 ((F73 (W ((W ((W (1 * 2 ^ (min (Int.toNat a4) 64))) * a2)) * (W ((W (a3 - a0.2.1)) - 1))))), (F73 (W ((W ((W (1 * 2 ^ (min (Int.toNat a4) 64))) * a2)) * (W (a3 - a0.2.1))))), (W (1 * 2 ^ (min (Int.toNat a4) 64)))) (F74 ((F75 a0.1 a4).1.getD (Int.toNat v3) default) ((W ((W (1 * 2 ^ (min (Int.toNat a4) 64))) * a1.1)), (W ((W (1 * 2 ^ (min (Int.toNat a4) 64))) * a1.2.1)), (W ((W (1 * 2 ^ (min (Int.toNat a4) 64))) * a1.2.2)))) (F77 ((F75 a0.1 a4).1.getD (Int.toNat v3) default) ((W ((W (1 * 2 ^ (min (Int.toNat a4) 64))) * a1.1)), (W ((W (1 * 2 ^ (min (Int.toNat a4) 64))) * a1.2.1)), (W ((W (1 * 2 ^ (min (Int.toNat a4) 64))) * a1.2.2))))).2))
    else
     (.inl ((v2 ++ [(F76 ((F73 (W ((W ((W (1 * 2 ^ (min (Int.toNat a4) 64))) * a2)) * (W ((W (a3 - a0.2.1)) - 1))))), (F73 (W ((W ((W (1 * 2 ^ (min (Int.toNat a4) 64))) * a2)) * (W (a3 - a0.2.1))))), (W (1 * 2 ^ (min (Int.toNat a4) 64)))) (F74 ((F75 a0.1 a4).1.getD (Int.toNat v3) default) ((W ((W (1 * 2 ^ (min (Int.toNat a4) 64))) * a1.1)), (W ((W (1 * 2 ^ (min (Int.toNat a4) 64))) * a1.2.1)), (W ((W (1 * 2 ^ (min (Int.toNat a4) 64))) * a1.2.2)))) (F77 ((F75 a0.1 a4).1.getD (Int.toNat v3) default) ((W ((W (1 * 2 ^ (min (Int.toNat a4) 64))) * a1.1)), (W ((W (1 * 2 ^ (min (Int.toNat a4) 64))) * a1.2.1)), (W ((W (1 * 2 ^ (min (Int.toNat a4) 64))) * a1.2.2))))).1]), (v3 + 1))))
   else
    (bif (((F15_L v2).2 : Int) != 0) then
     (.inr ((0, 0), (F15_L v2).2))
    else
     (.inr ((F10 (F15_L v2).1 a0.2.2).1, (F10 (F15_L v2).1 a0.2.2).2))))

set_option maxHeartbeats 4000000 in
theorem L56_0 (a0 : ((Int × Int × Int) × (Int × Int × Int) × Int × Int × Int) × Int × Int) (a1 : Int × Int × Int) (a2 : Int) (a3 : Int) (a4 : Int) (hp : POK a0) (hx : bd 256 a1) (hs : 1 ≤ a2 ∧ a2 ≤ 16) (ht : 0 ≤ a3 ∧ a3 ≤ 2000) (hd : 0 ≤ a4 ∧ a4 ≤ 3) {cx : Cx} (hcx : cx.base = 0) : ∀ (n : Nat) (v2 : List (Int × Int)) (v3 : Int), (0 ≤ v3) ∧ (v2.length = Int.toNat v3) ∧ (v3 ≤ (F75 a0.1 a4).1.length) → Int.toNat ((((F75 a0.1 a4).1.length : Nat) : Int) - v3) < n → Aw.Good Try.prog none 9 (bodyPost Try.prog Try.f56 (RR cx (.t [(.a (k2 (loopF (S56_0 a0 a1 a2 a3 a4) n (v2, v3)).1)), (iv (loopF (S56_0 a0 a1 a2 a3 a4) n (v2, v3)).2)]) [] [])) cx [] (.l B56_0 n :: K56_0) (st56_0 a0 a1 a2 a3 a4 (flat c23 v2) v2.length v3) := by
  intro n
  induction n with
  | zero => intro v2 v3 hi hn; exact absurd hn (Nat.not_lt_zero _)
  | succ n ih =>
    intro v2 v3 hi hn
    refine good_round ?_
    have hpl := sp_len a0.1 a4
    cases h0 : (decide ((v3 : Int) < (((F75 a0.1 a4).1.length : Nat) : Int))) with
    | true =>
     have q0 := of_decide_eq_true h0
     let t1 : List (St Try.prog) := [.d h0, .i v3 ((F75 a0.1 a4).1.length), .L c45_len (F75 a0.1 a4).1 v3 0 9, .c [] (C74 ((F75 a0.1 a4).1.getD (Int.toNat v3) default) ((W ((W (1 * 2 ^ (min (Int.toNat a4) 64))) * a1.1)), (W ((W (1 * 2 ^ (min (Int.toNat a4) 64))) * a1.2.1)), (W ((W (1 * 2 ^ (min (Int.toNat a4) 64))) * a1.2.2)))), .i v3 ((F75 a0.1 a4).1.length), .L c45_len (F75 a0.1 a4).1 v3 0 9, .c [] (C77 ((F75 a0.1 a4).1.getD (Int.toNat v3) default) ((W ((W (1 * 2 ^ (min (Int.toNat a4) 64))) * a1.1)), (W ((W (1 * 2 ^ (min (Int.toNat a4) 64))) * a1.2.1)), (W ((W (1 * 2 ^ (min (Int.toNat a4) 64))) * a1.2.2)))), .c [] (C76 ((F73 (W ((W ((W (1 * 2 ^ (min (Int.toNat a4) 64))) * a2)) * (W ((W (a3 - a0.2.1)) - 1))))), (F73 (W ((W ((W (1 * 2 ^ (min (Int.toNat a4) 64))) * a2)) * (W (a3 - a0.2.1))))), (W (1 * 2 ^ (min (Int.toNat a4) 64)))) (F74 ((F75 a0.1 a4).1.getD (Int.toNat v3) default) ((W ((W (1 * 2 ^ (min (Int.toNat a4) 64))) * a1.1)), (W ((W (1 * 2 ^ (min (Int.toNat a4) 64))) * a1.2.1)), (W ((W (1 * 2 ^ (min (Int.toNat a4) 64))) * a1.2.2)))) (F77 ((F75 a0.1 a4).1.getD (Int.toNat v3) default) ((W ((W (1 * 2 ^ (min (Int.toNat a4) 64))) * a1.1)), (W ((W (1 * 2 ^ (min (Int.toNat a4) 64))) * a1.2.1)), (W ((W (1 * 2 ^ (min (Int.toNat a4) 64))) * a1.2.2)))))]
     cases h1 : (((F76 ((F73 (W ((W ((W (1 * 2 ^ (min (Int.toNat a4) 64))) * a2)) * (W ((W (a3 - a0.2.1)) - 1))))), (F73 (W ((W ((W (1 * 2 ^ (min (Int.toNat a4) 64))) * a2)) * (W (a3 - a0.2.1))))), (W (1 * 2 ^ (min (Int.toNat a4) 64)))) (F74 ((F75 a0.1 a4).1.getD (Int.toNat v3) default) ((W ((W (1 * 2 ^ (min (Int.toNat a4) 64))) * a1.1)), (W ((W (1 * 2 ^ (min (Int.toNat a4) 64))) * a1.2.1)), (W ((W (1 * 2 ^ (min (Int.toNat a4) 64))) * a1.2.2)))) (F77 ((F75 a0.1 a4).1.getD (Int.toNat v3) default) ((W ((W (1 * 2 ^ (min (Int.toNat a4) 64))) * a1.1)), (W ((W (1 * 2 ^ (min (Int.toNat a4) 64))) * a1.2.1)), (W ((W (1 * 2 ^ (min (Int.toNat a4) 64))) * a1.2.2))))).2 : Int) != 0) with
     | true =>
      have q1 := bne_iff_ne.1 h1
      have e := Eq.refl (S56_0 a0 a1 a2 a3 a4 (v2, v3)); conv at e => rhs; simp only [S56_0, h0, h1, cond_true, cond_false]
      rw [loopF_s, e]
      exact rt (t1 ++ [.d h1]) [] [] hcx (by kernel_rfl)
     | false =>
      have q1 := bne_eq_false_iff_eq.1 h1
      have e := Eq.refl (S56_0 a0 a1 a2 a3 a4 (v2, v3)); conv at e => rhs; simp only [S56_0, h0, h1, cond_true, cond_false]
      rw [loopF_inl e]
      refine ba (t1 ++ [.d h1, .p (show ((flat c23 v2).length = v2.length * 2 ∧ v2.length + 1 ≤ 2 ^ 40 ∧ (v2.length + 1) * 16 ≤ 2 ^ 47) from app_ok c23_len (by omega) (by omega))]) [] [5, 10, 13, 16, 17, 18, 72, 73] [0, 1, 2, 3, 4, 8] hcx (m := n) B56_0 (K56_0) (st56_0 a0 a1 a2 a3 a4 (flat c23 v2 ++ [(iv (F76 ((F73 (W ((W ((W (1 * 2 ^ (min (Int.toNat a4) 64))) * a2)) * (W ((W (a3 - a0.2.1)) - 1))))), (F73 (W ((W ((W (1 * 2 ^ (min (Int.toNat a4) 64))) * a2)) * (W (a3 - a0.2.1))))), (W (1 * 2 ^ (min (Int.toNat a4) 64)))) (F74 ((F75 a0.1 a4).1.getD (Int.toNat v3) default) ((W ((W (1 * 2 ^ (min (Int.toNat a4) 64))) * a1.1)), (W ((W (1 * 2 ^ (min (Int.toNat a4) 64))) * a1.2.1)), (W ((W (1 * 2 ^ (min (Int.toNat a4) 64))) * a1.2.2)))) (F77 ((F75 a0.1 a4).1.getD (Int.toNat v3) default) ((W ((W (1 * 2 ^ (min (Int.toNat a4) 64))) * a1.1)), (W ((W (1 * 2 ^ (min (Int.toNat a4) 64))) * a1.2.1)), (W ((W (1 * 2 ^ (min (Int.toNat a4) 64))) * a1.2.2))))).1.1), (iv (F76 ((F73 (W ((W ((W (1 * 2 ^ (min (Int.toNat a4) 64))) * a2)) * (W ((W (a3 - a0.2.1)) - 1))))), (F73 (W ((W ((W (1 * 2 ^ (min (Int.toNat a4) 64))) * a2)) * (W (a3 - a0.2.1))))), (W (1 * 2 ^ (min (Int.toNat a4) 64)))) (F74 ((F75 a0.1 a4).1.getD (Int.toNat v3) default) ((W ((W (1 * 2 ^ (min (Int.toNat a4) 64))) * a1.1)), (W ((W (1 * 2 ^ (min (Int.toNat a4) 64))) * a1.2.1)), (W ((W (1 * 2 ^ (min (Int.toNat a4) 64))) * a1.2.2)))) (F77 ((F75 a0.1 a4).1.getD (Int.toNat v3) default) ((W ((W (1 * 2 ^ (min (Int.toNat a4) 64))) * a1.1)), (W ((W (1 * 2 ^ (min (Int.toNat a4) 64))) * a1.2.1)), (W ((W (1 * 2 ^ (min (Int.toNat a4) 64))) * a1.2.2))))).1.2)]) (v2.length + 1) (W (v3 + 1))) (by kernel_rfl) ?_
      have z0 : (W (v3 + 1)) = (v3 + 1) := W_eq (by omega) (by omega)
      have z1 : (flat c23 v2 ++ [(iv (F76 ((F73 (W ((W ((W (1 * 2 ^ (min (Int.toNat a4) 64))) * a2)) * (W ((W (a3 - a0.2.1)) - 1))))), (F73 (W ((W ((W (1 * 2 ^ (min (Int.toNat a4) 64))) * a2)) * (W (a3 - a0.2.1))))), (W (1 * 2 ^ (min (Int.toNat a4) 64)))) (F74 ((F75 a0.1 a4).1.getD (Int.toNat v3) default) ((W ((W (1 * 2 ^ (min (Int.toNat a4) 64))) * a1.1)), (W ((W (1 * 2 ^ (min (Int.toNat a4) 64))) * a1.2.1)), (W ((W (1 * 2 ^ (min (Int.toNat a4) 64))) * a1.2.2)))) (F77 ((F75 a0.1 a4).1.getD (Int.toNat v3) default) ((W ((W (1 * 2 ^ (min (Int.toNat a4) 64))) * a1.1)), (W ((W (1 * 2 ^ (min (Int.toNat a4) 64))) * a1.2.1)), (W ((W (1 * 2 ^ (min (Int.toNat a4) 64))) * a1.2.2))))).1.1), (iv (F76 ((F73 (W ((W ((W (1 * 2 ^ (min (Int.toNat a4) 64))) * a2)) * (W ((W (a3 - a0.2.1)) - 1))))), (F73 (W ((W ((W (1 * 2 ^ (min (Int.toNat a4) 64))) * a2)) * (W (a3 - a0.2.1))))), (W (1 * 2 ^ (min (Int.toNat a4) 64)))) (F74 ((F75 a0.1 a4).1.getD (Int.toNat v3) default) ((W ((W (1 * 2 ^ (min (Int.toNat a4) 64))) * a1.1)), (W ((W (1 * 2 ^ (min (Int.toNat a4) 64))) * a1.2.1)), (W ((W (1 * 2 ^ (min (Int.toNat a4) 64))) * a1.2.2)))) (F77 ((F75 a0.1 a4).1.getD (Int.toNat v3) default) ((W ((W (1 * 2 ^ (min (Int.toNat a4) 64))) * a1.1)), (W ((W (1 * 2 ^ (min (Int.toNat a4) 64))) * a1.2.1)), (W ((W (1 * 2 ^ (min (Int.toNat a4) 64))) * a1.2.2))))).1.2)]) = (flat c23 (v2 ++ [(F76 ((F73 (W ((W ((W (1 * 2 ^ (min (Int.toNat a4) 64))) * a2)) * (W ((W (a3 - a0.2.1)) - 1))))), (F73 (W ((W ((W (1 * 2 ^ (min (Int.toNat a4) 64))) * a2)) * (W (a3 - a0.2.1))))), (W (1 * 2 ^ (min (Int.toNat a4) 64)))) (F74 ((F75 a0.1 a4).1.getD (Int.toNat v3) default) ((W ((W (1 * 2 ^ (min (Int.toNat a4) 64))) * a1.1)), (W ((W (1 * 2 ^ (min (Int.toNat a4) 64))) * a1.2.1)), (W ((W (1 * 2 ^ (min (Int.toNat a4) 64))) * a1.2.2)))) (F77 ((F75 a0.1 a4).1.getD (Int.toNat v3) default) ((W ((W (1 * 2 ^ (min (Int.toNat a4) 64))) * a1.1)), (W ((W (1 * 2 ^ (min (Int.toNat a4) 64))) * a1.2.1)), (W ((W (1 * 2 ^ (min (Int.toNat a4) 64))) * a1.2.2))))).1])) := (flat_append (c := c23) (l := v2) (m := [(F76 ((F73 (W ((W ((W (1 * 2 ^ (min (Int.toNat a4) 64))) * a2)) * (W ((W (a3 - a0.2.1)) - 1))))), (F73 (W ((W ((W (1 * 2 ^ (min (Int.toNat a4) 64))) * a2)) * (W (a3 - a0.2.1))))), (W (1 * 2 ^ (min (Int.toNat a4) 64)))) (F74 ((F75 a0.1 a4).1.getD (Int.toNat v3) default) ((W ((W (1 * 2 ^ (min (Int.toNat a4) 64))) * a1.1)), (W ((W (1 * 2 ^ (min (Int.toNat a4) 64))) * a1.2.1)), (W ((W (1 * 2 ^ (min (Int.toNat a4) 64))) * a1.2.2)))) (F77 ((F75 a0.1 a4).1.getD (Int.toNat v3) default) ((W ((W (1 * 2 ^ (min (Int.toNat a4) 64))) * a1.1)), (W ((W (1 * 2 ^ (min (Int.toNat a4) 64))) * a1.2.1)), (W ((W (1 * 2 ^ (min (Int.toNat a4) 64))) * a1.2.2))))).1])).symm
      have z2 : (v2.length + 1) = (v2 ++ [(F76 ((F73 (W ((W ((W (1 * 2 ^ (min (Int.toNat a4) 64))) * a2)) * (W ((W (a3 - a0.2.1)) - 1))))), (F73 (W ((W ((W (1 * 2 ^ (min (Int.toNat a4) 64))) * a2)) * (W (a3 - a0.2.1))))), (W (1 * 2 ^ (min (Int.toNat a4) 64)))) (F74 ((F75 a0.1 a4).1.getD (Int.toNat v3) default) ((W ((W (1 * 2 ^ (min (Int.toNat a4) 64))) * a1.1)), (W ((W (1 * 2 ^ (min (Int.toNat a4) 64))) * a1.2.1)), (W ((W (1 * 2 ^ (min (Int.toNat a4) 64))) * a1.2.2)))) (F77 ((F75 a0.1 a4).1.getD (Int.toNat v3) default) ((W ((W (1 * 2 ^ (min (Int.toNat a4) 64))) * a1.1)), (W ((W (1 * 2 ^ (min (Int.toNat a4) 64))) * a1.2.1)), (W ((W (1 * 2 ^ (min (Int.toNat a4) 64))) * a1.2.2))))).1]).length := len_app v2 [(F76 ((F73 (W ((W ((W (1 * 2 ^ (min (Int.toNat a4) 64))) * a2)) * (W ((W (a3 - a0.2.1)) - 1))))), (F73 (W ((W ((W (1 * 2 ^ (min (Int.toNat a4) 64))) * a2)) * (W (a3 - a0.2.1))))), (W (1 * 2 ^ (min (Int.toNat a4) 64)))) (F74 ((F75 a0.1 a4).1.getD (Int.toNat v3) default) ((W ((W (1 * 2 ^ (min (Int.toNat a4) 64))) * a1.1)), (W ((W (1 * 2 ^ (min (Int.toNat a4) 64))) * a1.2.1)), (W ((W (1 * 2 ^ (min (Int.toNat a4) 64))) * a1.2.2)))) (F77 ((F75 a0.1 a4).1.getD (Int.toNat v3) default) ((W ((W (1 * 2 ^ (min (Int.toNat a4) 64))) * a1.1)), (W ((W (1 * 2 ^ (min (Int.toNat a4) 64))) * a1.2.1)), (W ((W (1 * 2 ^ (min (Int.toNat a4) 64))) * a1.2.2))))).1] rfl
      rw [z0, z1, z2]
      exact ih (v2 ++ [(F76 ((F73 (W ((W ((W (1 * 2 ^ (min (Int.toNat a4) 64))) * a2)) * (W ((W (a3 - a0.2.1)) - 1))))), (F73 (W ((W ((W (1 * 2 ^ (min (Int.toNat a4) 64))) * a2)) * (W (a3 - a0.2.1))))), (W (1 * 2 ^ (min (Int.toNat a4) 64)))) (F74 ((F75 a0.1 a4).1.getD (Int.toNat v3) default) ((W ((W (1 * 2 ^ (min (Int.toNat a4) 64))) * a1.1)), (W ((W (1 * 2 ^ (min (Int.toNat a4) 64))) * a1.2.1)), (W ((W (1 * 2 ^ (min (Int.toNat a4) 64))) * a1.2.2)))) (F77 ((F75 a0.1 a4).1.getD (Int.toNat v3) default) ((W ((W (1 * 2 ^ (min (Int.toNat a4) 64))) * a1.1)), (W ((W (1 * 2 ^ (min (Int.toNat a4) 64))) * a1.2.1)), (W ((W (1 * 2 ^ (min (Int.toNat a4) 64))) * a1.2.2))))).1]) (v3 + 1) (by refine ⟨?_, ?_, ?_⟩ <;> (try simp only [List.length_append, List.length_cons, List.length_nil, Int.toNat_zero]) <;> first | omega | assumption | simp) (by (try simp only [List.length_append, List.length_cons, List.length_nil, Int.toNat_zero]); omega)
    | false =>
     have q0 := of_decide_eq_false h0
     let t1 : List (St Try.prog) := [.d h0, .c [5] (C15_L v2 (by (try simp only [List.length_append, List.length_cons, List.length_nil, Int.toNat_zero]); omega))]
     cases h1 : (((F15_L v2).2 : Int) != 0) with
     | true =>
      have q1 := bne_iff_ne.1 h1
      have e := Eq.refl (S56_0 a0 a1 a2 a3 a4 (v2, v3)); conv at e => rhs; simp only [S56_0, h0, h1, cond_true, cond_false]
      rw [loopF_s, e]
      exact rt (t1 ++ [.d h1]) [] [] hcx (by kernel_rfl)
     | false =>
      have q1 := bne_eq_false_iff_eq.1 h1
      have e := Eq.refl (S56_0 a0 a1 a2 a3 a4 (v2, v3)); conv at e => rhs; simp only [S56_0, h0, h1, cond_true, cond_false]
      rw [loopF_s, e]
      exact rt (t1 ++ [.d h1, .c [] (C10 (F15_L v2).1 a0.2.2)]) [] [] hcx (by kernel_rfl)

/-- facet/sound.heard -/
def F56 (a0 : ((Int × Int × Int) × (Int × Int × Int) × Int × Int × Int) × Int × Int) (a1 : Int × Int × Int) (a2 : Int) (a3 : Int) (a4 : Int) : (Int × Int) × Int :=
  (bif (decide (((W (a3 - a0.2.1)) : Int) < 1)) then
   ((0, 0), 0)
  else
   (bif (((F75 a0.1 a4).2 : Int) != 0) then
    ((0, 0), (F75 a0.1 a4).2)
   else
    (loopF (S56_0 a0 a1 a2 a3 a4) (Int.toNat ((((F75 a0.1 a4).1.length : Nat) : Int) - 0) + 1) (([] : List (Int × Int)), 0))))

theorem C56 (a0 : ((Int × Int × Int) × (Int × Int × Int) × Int × Int × Int) × Int × Int) (a1 : Int × Int × Int) (a2 : Int) (a3 : Int) (a4 : Int) (hp : POK a0) (hx : bd 256 a1) (hs : 1 ≤ a2 ∧ a2 ≤ 16) (ht : 0 ≤ a3 ∧ a3 ≤ 2000) (hd : 0 ≤ a4 ∧ a4 ≤ 3) : Con Try.prog 56 [(.a [(iv a0.1.1.1), (iv a0.1.1.2.1), (iv a0.1.1.2.2), (iv a0.1.2.1.1), (iv a0.1.2.1.2.1), (iv a0.1.2.1.2.2), (iv a0.1.2.2.1), (iv a0.1.2.2.2.1), (iv a0.1.2.2.2.2), (iv a0.2.1), (iv a0.2.2)]), (.a (k3 a1)), (iv a2), (iv a3), (iv a4)] [] (.t [(.a (k2 (F56 a0 a1 a2 a3 a4).1)), (iv (F56 a0 a1 a2 a3 a4).2)]) [] := by
  refine con_s Try.func56 (by kernel_rfl) fun cx hcx => ?_
  cases h0 : (decide (((W (a3 - a0.2.1)) : Int) < 1)) with
  | true =>
   have q0 := of_decide_eq_true h0
   have e := Eq.refl (F56 a0 a1 a2 a3 a4); conv at e => rhs; simp only [F56, h0, cond_true, cond_false]
   rw [e]
   exact rt [.d h0] [] [] hcx (by kernel_rfl)
  | false =>
   have q0 := of_decide_eq_false h0
   let t1 : List (St Try.prog) := [.d h0, .c [] (C75 a0.1 a4)]
   cases h1 : (((F75 a0.1 a4).2 : Int) != 0) with
   | true =>
    have q1 := bne_iff_ne.1 h1
    have e := Eq.refl (F56 a0 a1 a2 a3 a4); conv at e => rhs; simp only [F56, h0, h1, cond_true, cond_false]
    rw [e]
    exact rt (t1 ++ [.d h1]) [] [] hcx (by kernel_rfl)
   | false =>
    have q1 := bne_eq_false_iff_eq.1 h1
    have e := Eq.refl (F56 a0 a1 a2 a3 a4); conv at e => rhs; simp only [F56, h0, h1, cond_true, cond_false]
    rw [e]
    refine en (t1 ++ [.d h1, .p (show 0 ≤ (a4 : Int) from by first | omega | (rw [W_eq] <;> omega) | exact u64_nn _), .c [] (C73 (W ((W ((W (1 * 2 ^ (min (Int.toNat a4) 64))) * a2)) * (W ((W (a3 - a0.2.1)) - 1))))), .c [] (C73 (W ((W ((W (1 * 2 ^ (min (Int.toNat a4) 64))) * a2)) * (W (a3 - a0.2.1)))))]) [.slot 18 2] [5, 10, 13, 16, 17, 18, 72, 73] [0, 2, 3, 4, 5, 6] hcx B56_0 (K56_0) (st56_0 a0 a1 a2 a3 a4 (flat c23 ([] : List (Int × Int))) 0 0) (Int.toNat ((((F75 a0.1 a4).1.length : Nat) : Int) - 0) + 1) (by kernel_rfl) ?_
    exact L56_0 a0 a1 a2 a3 a4 hp hx hs ht hd hcx (Int.toNat ((((F75 a0.1 a4).1.length : Nat) : Int) - 0) + 1) ([] : List (Int × Int)) 0 (by refine ⟨?_, ?_, ?_⟩ <;> (try simp only [List.length_append, List.length_cons, List.length_nil, Int.toNat_zero]) <;> first | omega | assumption | simp) (by (try simp only [List.length_append, List.length_cons, List.length_nil, Int.toNat_zero]); omega)

/-- facet/sound.Heard -/
def F40 (a0 : ((Int × Int × Int) × (Int × Int × Int) × Int × Int × Int) × Int × Int) (a1 : Int × Int × Int) (a2 : Int) (a3 : Int) (a4 : Int) : (Int × Int) × Int :=
  (bif (F42 a1) then
   (bif (F43 a2) then
    (bif (F44 a3) then
     (bif (((F41_1 a0 (F45 a4)) : Int) != 0) then
      ((0, 0), (F41_1 a0 (F45 a4)))
     else
      ((F56 a0 a1 a2 a3 a4).1, (F56 a0 a1 a2 a3 a4).2))
    else
     (bif (((F41_1 a0 false) : Int) != 0) then
      ((0, 0), (F41_1 a0 false))
     else
      ((F56 a0 a1 a2 a3 a4).1, (F56 a0 a1 a2 a3 a4).2)))
   else
    (bif (((F41_1 a0 false) : Int) != 0) then
     ((0, 0), (F41_1 a0 false))
    else
     ((F56 a0 a1 a2 a3 a4).1, (F56 a0 a1 a2 a3 a4).2)))
  else
   (bif (((F41_1 a0 false) : Int) != 0) then
    ((0, 0), (F41_1 a0 false))
   else
    ((F56 a0 a1 a2 a3 a4).1, (F56 a0 a1 a2 a3 a4).2)))

theorem C40 (a0 : ((Int × Int × Int) × (Int × Int × Int) × Int × Int × Int) × Int × Int) (a1 : Int × Int × Int) (a2 : Int) (a3 : Int) (a4 : Int) : Con Try.prog 40 [(.a [(iv a0.1.1.1), (iv a0.1.1.2.1), (iv a0.1.1.2.2), (iv a0.1.2.1.1), (iv a0.1.2.1.2.1), (iv a0.1.2.1.2.2), (iv a0.1.2.2.1), (iv a0.1.2.2.2.1), (iv a0.1.2.2.2.2), (iv a0.2.1), (iv a0.2.2)]), (.a (k3 a1)), (iv a2), (iv a3), (iv a4)] [] (.t [(.a (k2 (F40 a0 a1 a2 a3 a4).1)), (iv (F40 a0 a1 a2 a3 a4).2)]) [] := by
  refine con_s Try.func40 (by kernel_rfl) fun cx hcx => ?_
  let t0 : List (St Try.prog) := [.c [] (C42 a1)]
  cases h0 : (F42 a1) with
  | true =>
   let t1 : List (St Try.prog) := (t0 ++ [.d h0, .c [] (C43 a2)])
   cases h1 : (F43 a2) with
   | true =>
    let t2 : List (St Try.prog) := (t1 ++ [.d h1, .c [] (C44 a3)])
    cases h2 : (F44 a3) with
    | true =>
     let t3 : List (St Try.prog) := (t2 ++ [.d h2, .c [] (C45 a4), .c [3] (C41_1 a0 (F45 a4))])
     cases h3 : (((F41_1 a0 (F45 a4)) : Int) != 0) with
     | true =>
      have q3 := bne_iff_ne.1 h3
      have e := Eq.refl (F40 a0 a1 a2 a3 a4); conv at e => rhs; simp only [F40, h0, h1, h2, h3, cond_true, cond_false]
      rw [e]
      exact rt (t3 ++ [.d h3]) [] [] hcx (by kernel_rfl)
     | false =>
      have q3 := bne_eq_false_iff_eq.1 h3
      have e := Eq.refl (F40 a0 a1 a2 a3 a4); conv at e => rhs; simp only [F40, h0, h1, h2, h3, cond_true, cond_false]
      rw [e]
      exact rt (t3 ++ [.d h3, .c [] (C56 a0 a1 a2 a3 a4  (by first | exact ckb_p h1 | exact ckb_p h2 | exact ckb_p h3) (by first | exact isp_p h0 | exact absurd (ckb_b h1) (by decide) | exact absurd (ckb_b h2) (by decide) | exact absurd (ckb_b h3) (by decide)) (by first | exact iss_p h1 | exact absurd (ckb_b h1) (by decide) | exact absurd (ckb_b h2) (by decide) | exact absurd (ckb_b h3) (by decide)) (by first | exact ist_p h2 | exact absurd (ckb_b h1) (by decide) | exact absurd (ckb_b h2) (by decide) | exact absurd (ckb_b h3) (by decide)) (by first | exact isd_p (ckb_b h3) | exact absurd (ckb_b h1) (by decide) | exact absurd (ckb_b h2) (by decide) | exact absurd (ckb_b h3) (by decide)))]) [] [] hcx (by kernel_rfl)
    | false =>
     let t3 : List (St Try.prog) := (t2 ++ [.d h2, .c [3] (C41_1 a0 false)])
     cases h3 : (((F41_1 a0 false) : Int) != 0) with
     | true =>
      have q3 := bne_iff_ne.1 h3
      have e := Eq.refl (F40 a0 a1 a2 a3 a4); conv at e => rhs; simp only [F40, h0, h1, h2, h3, cond_true, cond_false]
      rw [e]
      exact rt (t3 ++ [.d h3]) [] [] hcx (by kernel_rfl)
     | false =>
      have q3 := bne_eq_false_iff_eq.1 h3
      have e := Eq.refl (F40 a0 a1 a2 a3 a4); conv at e => rhs; simp only [F40, h0, h1, h2, h3, cond_true, cond_false]
      rw [e]
      exact rt (t3 ++ [.d h3, .c [] (C56 a0 a1 a2 a3 a4  (by first | exact ckb_p h1 | exact ckb_p h2 | exact ckb_p h3) (by first | exact isp_p h0 | exact absurd (ckb_b h1) (by decide) | exact absurd (ckb_b h2) (by decide) | exact absurd (ckb_b h3) (by decide)) (by first | exact iss_p h1 | exact absurd (ckb_b h1) (by decide) | exact absurd (ckb_b h2) (by decide) | exact absurd (ckb_b h3) (by decide)) (by first | exact ist_p h2 | exact absurd (ckb_b h1) (by decide) | exact absurd (ckb_b h2) (by decide) | exact absurd (ckb_b h3) (by decide)) (by first | exact isd_p (ckb_b h3) | exact absurd (ckb_b h1) (by decide) | exact absurd (ckb_b h2) (by decide) | exact absurd (ckb_b h3) (by decide)))]) [] [] hcx (by kernel_rfl)
   | false =>
    let t2 : List (St Try.prog) := (t1 ++ [.d h1, .c [3] (C41_1 a0 false)])
    cases h2 : (((F41_1 a0 false) : Int) != 0) with
    | true =>
     have q2 := bne_iff_ne.1 h2
     have e := Eq.refl (F40 a0 a1 a2 a3 a4); conv at e => rhs; simp only [F40, h0, h1, h2, cond_true, cond_false]
     rw [e]
     exact rt (t2 ++ [.d h2]) [] [] hcx (by kernel_rfl)
    | false =>
     have q2 := bne_eq_false_iff_eq.1 h2
     have e := Eq.refl (F40 a0 a1 a2 a3 a4); conv at e => rhs; simp only [F40, h0, h1, h2, cond_true, cond_false]
     rw [e]
     exact rt (t2 ++ [.d h2, .c [] (C56 a0 a1 a2 a3 a4  (by first | exact ckb_p h1 | exact ckb_p h2 | exact ckb_p h3) (by first | exact isp_p h0 | exact absurd (ckb_b h1) (by decide) | exact absurd (ckb_b h2) (by decide) | exact absurd (ckb_b h3) (by decide)) (by first | exact iss_p h1 | exact absurd (ckb_b h1) (by decide) | exact absurd (ckb_b h2) (by decide) | exact absurd (ckb_b h3) (by decide)) (by first | exact ist_p h2 | exact absurd (ckb_b h1) (by decide) | exact absurd (ckb_b h2) (by decide) | exact absurd (ckb_b h3) (by decide)) (by first | exact isd_p (ckb_b h3) | exact absurd (ckb_b h1) (by decide) | exact absurd (ckb_b h2) (by decide) | exact absurd (ckb_b h3) (by decide)))]) [] [] hcx (by kernel_rfl)
  | false =>
   let t1 : List (St Try.prog) := (t0 ++ [.d h0, .c [3] (C41_1 a0 false)])
   cases h1 : (((F41_1 a0 false) : Int) != 0) with
   | true =>
    have q1 := bne_iff_ne.1 h1
    have e := Eq.refl (F40 a0 a1 a2 a3 a4); conv at e => rhs; simp only [F40, h0, h1, cond_true, cond_false]
    rw [e]
    exact rt (t1 ++ [.d h1]) [] [] hcx (by kernel_rfl)
   | false =>
    have q1 := bne_eq_false_iff_eq.1 h1
    have e := Eq.refl (F40 a0 a1 a2 a3 a4); conv at e => rhs; simp only [F40, h0, h1, cond_true, cond_false]
    rw [e]
    exact rt (t1 ++ [.d h1, .c [] (C56 a0 a1 a2 a3 a4  (by first | exact ckb_p h1 | exact ckb_p h2 | exact ckb_p h3) (by first | exact isp_p h0 | exact absurd (ckb_b h1) (by decide) | exact absurd (ckb_b h2) (by decide) | exact absurd (ckb_b h3) (by decide)) (by first | exact iss_p h1 | exact absurd (ckb_b h1) (by decide) | exact absurd (ckb_b h2) (by decide) | exact absurd (ckb_b h3) (by decide)) (by first | exact ist_p h2 | exact absurd (ckb_b h1) (by decide) | exact absurd (ckb_b h2) (by decide) | exact absurd (ckb_b h3) (by decide)) (by first | exact isd_p (ckb_b h3) | exact absurd (ckb_b h1) (by decide) | exact absurd (ckb_b h2) (by decide) | exact absurd (ckb_b h3) (by decide)))]) [] [] hcx (by kernel_rfl)

/-- facet/facetlaw08.sane -/
def F20 : Bool :=
  (bif (((F38 (0, 0, 0) (3, 4, 0) 2).2 : Int) == 0) then
   (bif (((F38 (0, 0, 0) (3, 4, 0) 2).1 : Int) == 3) then
    (bif (((F39 (((10, 0, 0), (12, 0, 0), (10, 2, 0)), 7, 3) (0, 0, 0) 2).2 : Int) == 0) then
     (bif (((F39 (((10, 0, 0), (12, 0, 0), (10, 2, 0)), 7, 3) (0, 0, 0) 2).1 : Int) == 12) then
      (bif (((F40 (((10, 0, 0), (12, 0, 0), (10, 2, 0)), 7, 3) (0, 0, 0) 2 7 1).2 : Int) == 0) then
       (bif ((((F40 (((10, 0, 0), (12, 0, 0), (10, 2, 0)), 7, 3) (0, 0, 0) 2 7 1).1.1 : Int) == 0) && ((((F40 (((10, 0, 0), (12, 0, 0), (10, 2, 0)), 7, 3) (0, 0, 0) 2 7 1).1.2 : Int) == 0) && true)) then
        (bif (((F40 (((10, 0, 0), (12, 0, 0), (10, 2, 0)), 7, 3) (0, 0, 0) 2 13 1).2 : Int) == 0) then
         (decide (((F40 (((10, 0, 0), (12, 0, 0), (10, 2, 0)), 7, 3) (0, 0, 0) 2 13 1).1.2 : Int) > 0))
        else
         false)
       else
        false)
      else
       false)
     else
      false)
    else
     false)
   else
    false)
  else
   false)

theorem C20 : Con Try.prog 20 [] [] (.v (.bool F20)) [] := by
  refine con_s Try.func20 (by kernel_rfl) fun cx hcx => ?_
  let t0 : List (St Try.prog) := [.c [] (C38 (0, 0, 0) (3, 4, 0) 2), .c [] (C39 (((10, 0, 0), (12, 0, 0), (10, 2, 0)), 7, 3) (0, 0, 0) 2), .c [] (C40 (((10, 0, 0), (12, 0, 0), (10, 2, 0)), 7, 3) (0, 0, 0) 2 7 1), .c [] (C40 (((10, 0, 0), (12, 0, 0), (10, 2, 0)), 7, 3) (0, 0, 0) 2 13 1)]
  cases h0 : (((F38 (0, 0, 0) (3, 4, 0) 2).2 : Int) == 0) with
  | true =>
   have q0 := eq_of_beq h0
   let t1 : List (St Try.prog) := (t0 ++ [.d h0])
   cases h1 : (((F38 (0, 0, 0) (3, 4, 0) 2).1 : Int) == 3) with
   | true =>
    have q1 := eq_of_beq h1
    let t2 : List (St Try.prog) := (t1 ++ [.d h1])
    cases h2 : (((F39 (((10, 0, 0), (12, 0, 0), (10, 2, 0)), 7, 3) (0, 0, 0) 2).2 : Int) == 0) with
    | true =>
     have q2 := eq_of_beq h2
     let t3 : List (St Try.prog) := (t2 ++ [.d h2])
     cases h3 : (((F39 (((10, 0, 0), (12, 0, 0), (10, 2, 0)), 7, 3) (0, 0, 0) 2).1 : Int) == 12) with
     | true =>
      have q3 := eq_of_beq h3
      let t4 : List (St Try.prog) := (t3 ++ [.d h3])
      cases h4 : (((F40 (((10, 0, 0), (12, 0, 0), (10, 2, 0)), 7, 3) (0, 0, 0) 2 7 1).2 : Int) == 0) with
      | true =>
       have q4 := eq_of_beq h4
       let t5 : List (St Try.prog) := (t4 ++ [.d h4])
       cases h5 : ((((F40 (((10, 0, 0), (12, 0, 0), (10, 2, 0)), 7, 3) (0, 0, 0) 2 7 1).1.1 : Int) == 0) && ((((F40 (((10, 0, 0), (12, 0, 0), (10, 2, 0)), 7, 3) (0, 0, 0) 2 7 1).1.2 : Int) == 0) && true)) with
       | true =>
        let t6 : List (St Try.prog) := (t5 ++ [.d h5])
        cases h6 : (((F40 (((10, 0, 0), (12, 0, 0), (10, 2, 0)), 7, 3) (0, 0, 0) 2 13 1).2 : Int) == 0) with
        | true =>
         have q6 := eq_of_beq h6
         have e := Eq.refl F20; conv at e => rhs; simp only [F20, h0, h1, h2, h3, h4, h5, h6, cond_true, cond_false]
         rw [e]
         exact rt (t6 ++ [.d h6]) [] [] hcx (by kernel_rfl)
        | false =>
         have q6 := ne_of_beq_false h6
         have e := Eq.refl F20; conv at e => rhs; simp only [F20, h0, h1, h2, h3, h4, h5, h6, cond_true, cond_false]
         rw [e]
         exact rt (t6 ++ [.d h6]) [] [] hcx (by kernel_rfl)
       | false =>
        have e := Eq.refl F20; conv at e => rhs; simp only [F20, h0, h1, h2, h3, h4, h5, cond_true, cond_false]
        rw [e]
        exact rt (t5 ++ [.d h5]) [] [] hcx (by kernel_rfl)
      | false =>
       have q4 := ne_of_beq_false h4
       have e := Eq.refl F20; conv at e => rhs; simp only [F20, h0, h1, h2, h3, h4, cond_true, cond_false]
       rw [e]
       exact rt (t4 ++ [.d h4]) [] [] hcx (by kernel_rfl)
     | false =>
      have q3 := ne_of_beq_false h3
      have e := Eq.refl F20; conv at e => rhs; simp only [F20, h0, h1, h2, h3, cond_true, cond_false]
      rw [e]
      exact rt (t3 ++ [.d h3]) [] [] hcx (by kernel_rfl)
    | false =>
     have q2 := ne_of_beq_false h2
     have e := Eq.refl F20; conv at e => rhs; simp only [F20, h0, h1, h2, cond_true, cond_false]
     rw [e]
     exact rt (t2 ++ [.d h2]) [] [] hcx (by kernel_rfl)
   | false =>
    have q1 := ne_of_beq_false h1
    have e := Eq.refl F20; conv at e => rhs; simp only [F20, h0, h1, cond_true, cond_false]
    rw [e]
    exact rt (t1 ++ [.d h1]) [] [] hcx (by kernel_rfl)
  | false =>
   have q0 := ne_of_beq_false h0
   have e := Eq.refl F20; conv at e => rhs; simp only [F20, h0, cond_true, cond_false]
   rw [e]
   exact rt (t0 ++ [.d h0]) [] [] hcx (by kernel_rfl)

end Go.Proofs.Ytidhogejnafhaaa

namespace Go.Proofs.Ytidhogejnafhaaa
open Go.Proofs Go.Aw Go.RowKit
set_option maxRecDepth 100000
set_option linter.unusedVariables false
set_option linter.unusedSimpArgs false

theorem sane_t : F20 = true := by kernel_rfl
/-! ### Travels -/
section
variable {n s t : Int}
end
/-! ### From when to when -/
end Go.Proofs.Ytidhogejnafhaaa

namespace Go.Proofs.Ytidhogejnafhaaa
open Go.Proofs Go.Aw Go.RowKit
set_option maxRecDepth 100000
set_option linter.unusedVariables false
set_option linter.unusedSimpArgs false

/-! ### What is heard of a pulse -/
theorem inv1_f {s n : Int} (hs : s = 1 ∨ s = 2 ∨ s = 4 ∨ s = 8) (h1 : 1 ≤ n) (hn : n ≤ 1000000000) : F62 n s = (of1 s n, 0) := by
  obtain ⟨e1, e2⟩ := lt8f hs
  unfold F62 of1
  have e : W ((W (s * s)) * 2 ^ (min (Int.toNat 40) 64)) = NN s := by rcases hs with rfl | rfl | rfl | rfl <;> kernel_rfl
  rw [decide_eq_false (show ¬ n < 1 by omega), cond_false, decide_eq_false (show ¬ n > 1099511627776 by omega), cond_false, e1, cond_false, e2, cond_false, if_neg (show ¬ n < 1 by omega), e, inv_f (NN_bd hs) (by omega)]
/-- what a part gives whose nearest and farthest squared distances are n and f -/
noncomputable def gv (a b s n f : Int) : (Int × Int) × Int :=
  if f ≤ a ∨ b < n then ((0, 0), 0) else if mx n a = 0 then ((0, 0), 10) else if a < n ∧ f ≤ b then (((of1 s f).1, (of1 s (mx n a)).2), 0) else ((0, (of1 s (mx n a)).2), 0)
theorem mx_eq (n a : Int) : (if n < a then a else n) = mx n a := rfl
theorem gives_f {a b s n f : Int} (hs : s = 1 ∨ s = 2 ∨ s = 4 ∨ s = 8) (ha : 0 ≤ a) (hn : 0 ≤ n) (hnf : n ≤ f) (hf : f ≤ 1000000000) : F76 (a, b, s) n f = gv a b s n f := by
  unfold F76 gv
  simp only [mx_eq]
  by_cases h1 : f ≤ a
  · simp [h1]
  · by_cases h2 : b < n
    · simp [h1, h2]
    · have hm := le_mx1 n a
      have hm2 : mx n a ≤ 1000000000 := mx_le (by omega) (by omega)
      rw [decide_eq_false h1, cond_false, decide_eq_false h2, cond_false, if_neg (by omega)]
      by_cases h3 : mx n a = 0
      · rw [h3]; cases decide (n > a) <;> rfl
      · rw [if_neg h3, inv1_f hs (by omega) hm2, inv1_f hs (by omega) hf, beq_eq_false_iff_ne.2 h3, cond_false, cond_false]
        by_cases h4 : a < n
        · by_cases h5 : f ≤ b
          · rw [if_pos ⟨h4, h5⟩]; simp [h4, h5]
          · rw [if_neg (by omega)]; simp [h4, h5]
        · rw [if_neg (by omega)]; simp [h4]
theorem gv_ok {a b s n f : Int} (hs : s = 1 ∨ s = 2 ∨ s = 4 ∨ s = 8) (hn : 0 ≤ n) (hnf : n ≤ f) : okE (gv a b s n f).1 := by
  have ho := of1_ok hs
  have hm := le_mx1 n a
  unfold gv okE
  split
  · simp
  · split
    · simp
    · rename_i h1 h2
      have hmf : mx n a ≤ f := mx_le hnf (by omega)
      have q1 := ho.lo f; have q2 := ho.mono (mx n a) f (by omega) hmf; have q3 := ho.le (mx n a); have q4 := ho.hi (mx n a); have q5 := ho.lo (mx n a)
      split <;> simp only <;> omega
/-! a list that is filled, or left at the first error -/
def shs {α β : Type} (g : α → β × Int) : List α → List β → List β ⊕ Int
  | [], l => .inl l
  | c :: m, l => if (g c).2 = 0 then shs g m (l ++ [(g c).1]) else .inr (g c).2
def out8 {β R : Type} (G : List β → R) (E : Int → R) : List β ⊕ Int → R
  | .inl m => G m
  | .inr e => E e
theorem shs_loopF {α β R : Type} [Inhabited R] {g : α → β × Int} {S : List β × Int → (List β × Int) ⊕ R} {G : List β → R} {E : Int → R} {L : List α}
    (hS : ∀ (i : Nat) (c : α), L[i]? = some c → ∀ l : List β, S (l, (i : Int)) = bif ((g c).2 != 0) then .inr (E (g c).2) else .inl (l ++ [(g c).1], ((i + 1 : Nat) : Int)))
    (hE : ∀ l : List β, S (l, (L.length : Int)) = .inr (G l)) :
    ∀ (k : List α) (i n : Nat) (l : List β), L.drop i = k → i ≤ L.length → k.length < n → loopF S n (l, (i : Int)) = out8 G E (shs g k l)
  | [], i, n, l, hd, hi', hn => by
    have : i = L.length := by have := List.drop_eq_nil_iff.1 hd; omega
    obtain ⟨n, rfl⟩ : ∃ m, n = m + 1 := ⟨n - 1, by simp only [List.length_nil] at hn; omega⟩
    subst this
    rw [loopF_inr (hE _)]; rfl
  | c :: k, i, n, l, hd, hi', hn => by
    have hc : L[i]? = some c := by
      have : (L.drop i)[0]? = some c := by rw [hd]; rfl
      simpa using this
    obtain ⟨hlt, hce⟩ := List.getElem?_eq_some_iff.1 hc
    obtain ⟨n, rfl⟩ : ∃ m, n = m + 1 := ⟨n - 1, by omega⟩
    have h1 := hS i c hc l
    unfold shs
    by_cases h : (g c).2 = 0
    · rw [h] at h1
      rw [loopF_inl h1, if_pos h]
      exact shs_loopF hS hE k (i + 1) n _ (by rw [← List.drop_drop, hd]; rfl) (by omega) (by simp only [List.length_cons] at hn; omega)
    · rw [bne_iff_ne.2 h, cond_true] at h1
      rw [loopF_inr h1, if_neg h]; rfl
theorem shs_inl {α β : Type} {g : α → β × Int} : ∀ {k : List α} {l m : List β}, shs g k l = .inl m → m = l ++ k.map (fun c => (g c).1) ∧ ∀ c ∈ k, (g c).2 = 0
  | [], l, m, h => by simp only [shs] at h; cases h; simp
  | c :: k, l, m, h => by
    unfold shs at h
    split at h
    · rename_i h0
      obtain ⟨h1, h2⟩ := shs_inl h
      refine ⟨by rw [h1]; simp, fun x hx => ?_⟩
      rcases List.mem_cons.1 hx with rfl | hx
      · exact h0
      · exact h2 x hx
    · cases h
theorem out8_ok {α β R : Type} {g : α → β × Int} {k : List α} {G G' : List β → R} {E : Int → R} (h : (∀ c ∈ k, (g c).2 = 0) → G (k.map (fun c => (g c).1)) = G' (k.map (fun c => (g c).1))) : out8 G E (shs g k []) = out8 G' E (shs g k []) := by
  cases e : shs g k [] with
  | inr r => rfl
  | inl m =>
    obtain ⟨h1, h2⟩ := shs_inl e
    subst h1
    exact h h2
/-! a pulse in a tick -/
def shA (s d q : Int) : Int := sc d * s * q * (sc d * s * q)
noncomputable def shG (p : PU) (x : P3) (s t d : Int) (c : PN) : (Int × Int) × Int := gv (shA s d (t - p.2.1 - 1)) (shA s d (t - p.2.1)) (sc d) (ne c (tm (sc d) x)) (fa c (tm (sc d) x))
noncomputable def hrE (l : List (Int × Int)) (d w : Int) : (Int × Int) × Int := F26 (scl (avg (sums l (0, 0)) (sc d * sc d)) w).1 (scl (avg (sums l (0, 0)) (sc d * sc d)) w).2
noncomputable def hrS (p : PU) (x : P3) (s t d : Int) : (Int × Int) × Int :=
  if t - p.2.1 < 1 then ((0, 0), 0) else out8 (fun l => hrE l d p.2.2) (fun e => ((0, 0), e)) (shs (shG p x s t d) (cutL d.toNat p.1) [])
theorem shA_bd {s d q : Int} (hs : 1 ≤ s ∧ s ≤ 16) (hq : 0 ≤ q ∧ q ≤ 2000) : 0 ≤ sc d * s ∧ sc d * s ≤ 128 ∧ 0 ≤ sc d * s * q ∧ sc d * s * q ≤ 256000 ∧ 0 ≤ shA s d q ∧ shA s d q ≤ 65536000000 := by
  have h0 := sc_bd d
  have h1 : 0 ≤ sc d * s := Int.mul_nonneg (by omega) (by omega)
  have h2 : sc d * s ≤ 8 * 16 := Int.mul_le_mul (by omega) (by omega) (by omega) (by omega)
  have h3 : 0 ≤ sc d * s * q := Int.mul_nonneg (by omega) (by omega)
  have h4 : sc d * s * q ≤ 128 * 2000 := Int.mul_le_mul (by omega) (by omega) (by omega) (by omega)
  have h5 : shA s d q ≤ 256000 * 256000 := Int.mul_le_mul (by omega) (by omega) (by omega) (by omega)
  have h6 : 0 ≤ shA s d q := Int.mul_nonneg h3 h3
  exact ⟨h1, by omega, h3, by omega, h6, by omega⟩
theorem shW {s d q : Int} (hs : 1 ≤ s ∧ s ≤ 16) (hq : 0 ≤ q ∧ q ≤ 2000) : W ((W (sc d * s)) * q) = sc d * s * q := by
  have h := shA_bd (d := d) hs hq
  rw [W_eq (n := sc d * s) (by omega) (by omega), W_eq (by omega) (by omega)]
theorem hr_end_f {l : List (Int × Int)} {d w : Int} (hd : 0 ≤ d ∧ d ≤ 3) (hl : ∀ a ∈ l, okE a) (hk : ((l.length : Nat) : Int) = sc d * sc d) (hw : -100 ≤ w ∧ w ≤ 100) :
    (bif (((F15_L l).2 : Int) != 0) then ((0, 0), (F15_L l).2) else ((F10 (F15_L l).1 w).1, (F10 (F15_L l).1 w).2)) = hrE l d w := by
  have hc := cnt_in d
  have h64 : l.length ≤ 64 := by omega
  rw [meanL_f hl hc hk]
  rw [Scale_f (avg_vs hc (sums_ok hl (okv_len h64))) (by omega)]; rfl
theorem shG_ok (p : PU) (x : P3) (s t d : Int) (c : PN) : okE (shG p x s t d c).1 := gv_ok (sc_in d) (ne_le _ _).1 (ne_le _ _).2
theorem sp_eq {p : PN} {d : Int} (hp : vp p = 0) (hd : 0 ≤ d ∧ d ≤ 3) : F75 p d = (cutL d.toNat p, 0) := by rw [parts_f, if_pos hp, if_pos hd]
theorem heard_f {p : PU} {x : P3} {s t d : Int} (hp : POK p) (hx : bd 256 x) (hs : 1 ≤ s ∧ s ≤ 16) (ht : 0 ≤ t ∧ t ≤ 2000) (hd : 0 ≤ d ∧ d ≤ 3) : F56 p x s t d = hrS p x s t d := by
  have hb := pok_bd hp
  have hsc := sc_bd d
  have hx' : bd 5000 (tm (sc d) x) := (bd_tm hsc (by omega) hx).mono (by omega)
  have hpt := hp.2.1
  unfold F56 hrS
  rw [W_eq (n := t - p.2.1) (by omega) (by omega)]
  by_cases h0 : t - p.2.1 < 1
  · rw [decide_eq_true h0, if_pos h0]; rfl
  have hA := shA_bd (d := d) (q := t - p.2.1 - 1) hs (by omega)
  have hB := shA_bd (d := d) (q := t - p.2.1) hs (by omega)
  rw [decide_eq_false h0, if_neg h0, cond_false, sp_eq hp.1 hd]
  show loopF (S56_0 p x s t d) _ (([] : List (Int × Int)), ((0 : Nat) : Int)) = _
  have key := shs_loopF (g := shG p x s t d) (S := S56_0 p x s t d) (E := fun e => ((0, 0), e)) (L := cutL d.toNat p.1)
    (G := fun l => (bif (((F15_L l).2 : Int) != 0) then ((0, 0), (F15_L l).2) else ((F10 (F15_L l).1 p.2.2).1, (F10 (F15_L l).1 p.2.2).2)))
    (fun i c hi l => ?_) (fun l => ?_) (cutL d.toNat p.1) 0 (Int.toNat ((((cutL d.toNat p.1).length : Nat) : Int) - 0) + 1) [] rfl (Nat.zero_le _) (by omega)
  · rw [key]
    refine out8_ok (fun _ => hr_end_f hd ?_ ?_ hp.2.2)
    · intro a ha
      obtain ⟨c, _, rfl⟩ := List.mem_map.1 ha
      exact shG_ok _ _ _ _ _ _
    · rw [List.length_map]; exact cnt_len hd p.1
  · obtain ⟨hlt, hce⟩ := List.getElem?_eq_some_iff.1 hi
    have hg : (cutL d.toNat p.1).getD i default = c := by rw [List.getD_eq_getElem?_getD, hi]; rfl
    have hc : bdP 5000 c := (cutL_in hb hd (hce ▸ List.getElem_mem hlt)).mono (by omega)
    have e : F76 ((F73 (W ((W (sc d * s)) * (W (t - p.2.1 - 1))))), (F73 (W ((W (sc d * s)) * (t - p.2.1)))), sc d) (F74 c (tm (sc d) x)) (F77 c (tm (sc d) x)) = shG p x s t d c := by
      rw [W_eq (n := t - p.2.1 - 1) (by omega) (by omega), shW hs (by omega), shW hs (by omega), square_f (by omega), square_f (by omega), sne_f hc hx', sfa_f hc hx']
      exact gives_f (sc_in d) hA.2.2.2.2.1 (ne_le _ _).1 (ne_le _ _).2 (by have := (fa_bd hc hx').2; omega)
    simp only [S56_0]
    rw [sp_eq hp.1 hd, decide_eq_true (show ((i : Nat) : Int) < ((cutL d.toNat p.1).length : Nat) by omega), cond_true, Int.toNat_natCast, hg, sc_f hd, tm_W hsc (hx.mono (by omega)), W_eq (n := t - p.2.1) (by omega) (by omega), e]; rfl
  · simp only [S56_0]
    rw [sp_eq hp.1 hd, decide_eq_false (Int.lt_irrefl _), cond_false]
    cases (((F15_L l).2 : Int) != 0) <;> rfl
open Classical in
theorem isT_f (n : Int) : F44 n = decide (0 ≤ n ∧ n ≤ 2000) := by unfold F44; exact sfrom_eq _ _ _
theorem isD_f (n : Int) : F45 n = decide (0 ≤ n ∧ n ≤ 3) := by unfold F45; exact sfrom_eq _ _ _
end Go.Proofs.Ytidhogejnafhaaa

namespace Go.Proofs.Ytidhogejnafhaaa
open Go.Proofs Go.Aw Go.RowKit
set_option maxRecDepth 100000
set_option linter.unusedVariables false
set_option linter.unusedSimpArgs false

/-! ### Slices of flat elements as arguments -/
open Go.ChangeShapes Go.WideShapes Go.ChangeAt
section
variable {H : Type} {enc : TypeId × Value → H} {P : Program} {w : World}
/-- what a slice of elements of es numbers holds -/
def SliceOf (w : World) (es : Nat) (v : Value) (nss : List (List Int)) : Prop :=
  (∀ ns ∈ nss, ns.length = es) ∧ nss.length ≤ 9223372036854775807 ∧
  ((v = .slice none 0 0 ∧ nss = []) ∨ ∃ b o cap, v = .slice (some ⟨b, o, none⟩) nss.length cap ∧ nss.length ≤ cap ∧ ∀ (i : Nat) (x : Value), ((nss.flatten).map (Value.int .i64))[i]? = some x → w.cell? ⟨b, o + i, none⟩ = some x)
theorem flat_cells {es b : Nat} : ∀ (nss : List (List Int)) (o : Nat), (∀ (j : Nat) (ns : List Int), nss[j]? = some ns → ns.length = es ∧ ∀ (q : Nat) (x : Value), (ns.map (Value.int .i64))[q]? = some x → w.cell? ⟨b, o + j * es + q, none⟩ = some x) →
    ∀ (i : Nat) (x : Value), ((nss.flatten).map (Value.int .i64))[i]? = some x → w.cell? ⟨b, o + i, none⟩ = some x
  | [], o, _, i, x, hi => by simp at hi
  | ns :: l, o, h, i, x, hi => by
    obtain ⟨h1, h2⟩ := h 0 ns rfl
    rw [List.flatten_cons, List.map_append] at hi
    by_cases hlt : i < ns.length
    · rw [List.getElem?_append_left (by simpa using hlt)] at hi
      have := h2 i x hi
      simpa using this
    · rw [List.getElem?_append_right (by simpa using hlt)] at hi
      have := flat_cells l (o + es) (fun j ms hj => ⟨(h (j + 1) ms hj).1, fun q y hq => by
        have := (h (j + 1) ms hj).2 q y hq
        rw [show o + es + j * es + q = o + (j + 1) * es + q by rw [Nat.add_mul]; omega]; exact this⟩) (i - es) x (by simpa [h1] using hi)
      rw [show o + es + (i - es) = o + i by omega] at this; exact this
theorem open_list {r : Reach} {b0 : Nat} {t e : TypeId} {es : Nat} {v : Value} {d : DataW H} {ps : List MemPlace} (ht : P.underlying t = some (.slice e)) (hf : flatB P 6 e = true) (hes : P.cellsOf e = es)
    (hval : Value.okWide P w r b0 t v) (hd : DataW.Trod enc P w 0 (fun _ => true) true t v d ps) : (∃ nss, SliceOf w es v nss) ∧ ∀ x ∈ ps, x.block < w.heap.size := by
  obtain ⟨fuel, hx⟩ := hd
  refine ⟨?_, DataW.trod_lt fuel t _ _ hx⟩
  obtain ⟨a, len, cap, rfl⟩ := okWide_slice ht hval
  rcases Go.Deep.open_slice ht hx with ⟨hc, _⟩ | ⟨a', len', cap', m, n, D, Pl, hc, hb, hl, hm, hmm, _, hall⟩
  · simp only [Value.cells, List.cons.injEq, and_true] at hc
    exact ⟨[], fun ns h => by simp at h, by simp, .inl ⟨hc, rfl⟩⟩
  · simp only [Value.cells, List.cons.injEq, and_true, Value.slice.injEq] at hc
    obtain ⟨rfl, rfl, rfl⟩ := hc
    simp only [Value.okWide, ht, Cell.okWide, Cell.ok, World.has] at hval
    have hsp : a'.spot = none := hval.2.2.2.1
    obtain ⟨b, o, sp⟩ := a'
    simp only at hsp
    subst hsp
    simp only [if_true] at hmm
    obtain ⟨N, hN⟩ := Go.Deep.choose_lt (α := List Int) (p := fun i ns => ns.length = es ∧ ∀ (q : Nat) (x : Value), (ns.map (Value.int .i64))[q]? = some x → w.cell? ⟨b, o + i * es + q, none⟩ = some x) (n := len) (fun i hi => by
      obtain ⟨cs', h1, h2⟩ := hall i (by omega)
      obtain ⟨_, ns, rfl⟩ := flat_trod 6 e n cs' _ hf h2
      obtain ⟨_, hlen, hcell⟩ := World.cells?_some h1
      rw [hes] at hlen hcell
      refine ⟨ns, by simpa using hlen, fun q x hq => ?_⟩
      have hq' := (List.getElem?_eq_some_iff.1 hq).1
      have := hcell q (by omega)
      rw [Go.Aw.add_eq, Go.Aw.add_eq] at this
      rw [this, hq])
    refine ⟨(List.range len).map N, fun ns h => ?_, ?_, .inr ⟨b, o, cap, ?_, ?_, ?_⟩⟩
    · obtain ⟨i, hi, rfl⟩ := List.mem_map.1 h
      exact (hN i (by simpa using hi)).1
    · have : maxLen = 9223372036854775807 := rfl
      simp; omega
    · simp
    · simpa using hl
    · refine flat_cells (es := es) _ o (fun j ns hj => ?_)
      have hjl := (List.getElem?_eq_some_iff.1 hj).1
      simp only [List.length_map, List.length_range] at hjl
      have : N j = ns := by simpa [hjl] using hj
      subst this
      exact hN j hjl
/-- where a slice lies -/
def rho (es : Nat) : Value → Option (Nat × Nat × Nat)
  | .slice (some a) _ cap => some (a.block, a.off, cap * es)
  | _ => none
theorem slice_rel {es : Nat} {v : Value} {nss : List (List Int)} {ρ : Env} {k : Nat} (h : SliceOf w es v nss) (hk : ρ k = rho es v) : Rel ρ (.s k 0 nss.length es) v := by
  obtain ⟨h1, h2, ⟨rfl, rfl⟩ | ⟨b, o, cap, rfl, h3, h4⟩⟩ := h
  · simp only [Rel]; exact .inl ⟨hk, rfl, trivial⟩
  · simp only [Rel]; exact .inr ⟨b, o, cap * es, cap, 0, hk, rfl, h3, by omega, fun _ => rfl⟩
theorem flatten_len {es : Nat} : ∀ {nss : List (List Int)}, (∀ ns ∈ nss, ns.length = es) → nss.flatten.length = nss.length * es
  | [], _ => by simp
  | ns :: l, h => by
    rw [List.flatten_cons, List.length_append, flatten_len (fun m hm => h m (List.mem_cons_of_mem _ hm)), h ns List.mem_cons_self, List.length_cons, Nat.add_mul]; omega
theorem slice_brep {es : Nat} {v : Value} {nss : List (List Int)} {ρ : Env} {k : Nat} {M : Nat → Prop} (h : SliceOf w es v nss) (hk : ρ k = rho es v) (hM : ∀ b, M b → w.heap.size ≤ b) : BRep ρ M w k (.live false true ((nss.flatten).map iv)) := by
  obtain ⟨h1, h2, ⟨rfl, rfl⟩ | ⟨b, o, cap, rfl, h3, h4⟩⟩ := h
  · exact .inl ⟨hk, rfl⟩
  · have hlen := flatten_len h1
    refine .inr ⟨b, o, cap * es, (nss.flatten).map (Value.int .i64), hk, ⟨?_, fun hne hm => ?_⟩, rels_iv _, h4⟩
    · rw [List.length_map, hlen]; exact Nat.mul_le_mul_right _ h3
    · have hb := hM b hm
      obtain ⟨x, hx⟩ := List.exists_mem_of_ne_nil _ hne
      obtain ⟨i, hi⟩ := List.getElem?_of_mem hx
      have := World.block_lt_of_cell? w ⟨b, o + i, none⟩ (h4 i x hi)
      exact absurd this (Nat.not_lt_of_le hb)
theorem flat_mk {α : Type} {c : α → List SV} {f : List Int → α} {es : Nat} (hc : ∀ ns : List Int, ns.length = es → c (f ns) = ns.map iv) : ∀ {nss : List (List Int)}, (∀ ns ∈ nss, ns.length = es) → flat c (nss.map f) = (nss.flatten).map iv
  | [], _ => rfl
  | ns :: l, h => by
    have := flat_mk hc (nss := l) (fun m hm => h m (List.mem_cons_of_mem _ hm))
    unfold flat at *
    rw [List.map_cons, List.flatMap_cons, this, hc ns (h ns List.mem_cons_self), List.flatten_cons, List.map_append]
end
theorem plain_ivs : ∀ ns : List Int, Plain (ns.map iv)
  | [] => fun k hk => by simp [SV.hasl] at hk
  | n :: l => fun k hk => by
    simp only [List.map_cons, SV.hasl] at hk
    rcases hk with hk | hk
    · simp [iv, SV.has] at hk
    · exact plain_ivs l k hk
/-- A contract to which lists are handed over that it only reads, called. -/
theorem law_callsL {P : Program} {f : Nat} {args : List SV} {vs : List Value} {x : Value} {bs : List BK} (hc : Con P f args bs (.v x) []) (ρ : Env) {W : World} (hr : Rels ρ args vs) (hown : ∀ i, ¬ (bs.getD i .un).own)
    (hb : (∀ b, (callCx ρ W bs).mine b → W.heap.size ≤ b) → ∀ i, BRep ρ (callCx ρ W bs).mine W i (bs.getD i .un)) (hpl : ∀ i, (bs.getD i .un).pl) (hnf : ∀ b, ρ.fz b = none) :
    Calls P f vs.toArray W fun e W' => e = .returned x ∧ Below W.heap.size W W' := by
  have hM : ∀ b, (callCx ρ W bs).mine b → W.heap.size ≤ b := by
    rintro b (h | ⟨i, n, hi, _⟩)
    · exact h
    · exact absurd hi (hown i)
  refine (hc.2 ρ W vs hr (hb hM) hpl (fun i j b n b' n' _ h => absurd h (hown i)) (fun b o h => by rw [hnf b] at h; cases h)).mono fun e W' h => ?_
  obtain ⟨ρ', v, rfl, _, hv, hk, _⟩ := h
  refine ⟨by rw [show v = x from hv], hk.os, hk.tape, hk.output, hk.size, fun k hk' => hk.block k hk' ?_⟩
  rintro ⟨i, n, hi, _⟩
  exact hown i hi
def rho2 (e : Nat) (v : Value) (e' : Nat) (v' : Value) : Env := ⟨fun k => if k = 0 then rho e v else if k = 1 then rho e' v' else none, fun _ => none⟩
theorem law_calls2 {P : Program} {f es0 es1 : Nat} {args : List SV} {vs : List Value} {x v0 v1 : Value} {nss0 nss1 : List (List Int)} {W : World} (hc : Con P f args [.live false true ((nss0.flatten).map iv), .live false true ((nss1.flatten).map iv)] (.v x) [])
    (s0 : SliceOf W es0 v0 nss0) (s1 : SliceOf W es1 v1 nss1) (hr : Rels (rho2 es0 v0 es1 v1) args vs) : Calls P f vs.toArray W fun e W' => e = .returned x ∧ Below W.heap.size W W' := by
  refine law_callsL hc _ hr (fun i => ?_) (fun hM i => ?_) (fun i => ?_) (fun _ => rfl)
  · rcases i with _ | _ | i <;> simp [BK.own]
  · rcases i with _ | _ | i
    · exact slice_brep s0 rfl hM
    · exact slice_brep s1 rfl hM
    · simp [BRep]
  · rcases i with _ | _ | i
    · exact plain_ivs _
    · exact plain_ivs _
    · simp [BK.pl]

end Go.Proofs.Ytidhogejnafhaaa

namespace Go.Proofs.Ytidhogejnafhaaa
open Go.Proofs Go.Aw Go.RowKit
set_option maxRecDepth 100000
set_option linter.unusedVariables false
set_option linter.unusedSimpArgs false

/-! ### Sums of lists of spans -/
theorem flat_one {α : Type} {c : α → List SV} (hc : ∀ x, (c x).all SV.one = true) {l : List α} : (flat c l).all SV.one = true := by
  rw [List.all_eq_true]
  intro x hx
  obtain ⟨a, _, ha⟩ := List.mem_flatMap.1 hx
  exact List.all_eq_true.1 (hc a) x ha
theorem flat_lenc {α : Type} {c : α → List SV} {es : Nat} (hc : ∀ x, (c x).length = es) (l : List α) : (flat c l).length = l.length * es := flat_length hc l
def okw (v : Int × Int) (n : Nat) : Prop := (-4611686018427387904 + 1099511627776 * n ≤ v.1 ∧ v.1 + 1099511627776 * n ≤ 4611686018427387904) ∧ (-4611686018427387904 + 1099511627776 * n ≤ v.2 ∧ v.2 + 1099511627776 * n ≤ 4611686018427387904)
theorem okw_next {v a : Int × Int} {n : Nat} (h : okw v (n + 1)) (ha : vs a) : okw (v.1 + a.1, v.2 + a.2) n := by unfold okw vs at *; simp only; omega
theorem okw_W {v : Int × Int} {n : Nat} (h : okw v n) : W v.1 = v.1 ∧ W v.2 = v.2 := by unfold okw at h; exact ⟨W_eq (by omega) (by omega), W_eq (by omega) (by omega)⟩
theorem okw_0 {n : Nat} (h : n ≤ 10000) : okw (0, 0) n := by unfold okw; simp only; omega
theorem sumw_loopF {R : Type} [Inhabited R] {S : Int × Int × Int → (Int × Int × Int) ⊕ R} {G : Int × Int → R} {L : List (Int × Int)} (hl : ∀ a ∈ L, vs a)
    (hS : ∀ (i : Nat) (a : Int × Int), L[i]? = some a → ∀ v1 v2 : Int, S (v1, v2, (i : Int)) = .inl (W (v1 + a.1), W (v2 + a.2), ((i + 1 : Nat) : Int)))
    (hE : ∀ v1 v2 : Int, S (v1, v2, (L.length : Int)) = .inr (G (v1, v2))) :
    ∀ (l : List (Int × Int)) (i n : Nat) (v : Int × Int), L.drop i = l → i ≤ L.length → l.length < n → okw v l.length → loopF S n (v.1, v.2, (i : Int)) = G (sums l v) := by
  intro l
  induction l with
  | nil =>
    intro i n v hd hi' hn h
    have : i = L.length := by have := List.drop_eq_nil_iff.1 hd; omega
    obtain ⟨n, rfl⟩ : ∃ m, n = m + 1 := ⟨n - 1, by simp only [List.length_nil] at hn; omega⟩
    subst this
    rw [loopF_inr (hE _ _)]; rfl
  | cons c l ih =>
    intro i n v hd hi' hn h
    have hc : L[i]? = some c := by
      have : (L.drop i)[0]? = some c := by rw [hd]; rfl
      simpa using this
    obtain ⟨hlt, hce⟩ := List.getElem?_eq_some_iff.1 hc
    obtain ⟨n, rfl⟩ : ∃ m, n = m + 1 := ⟨n - 1, by omega⟩
    have h1 : okw (v.1 + c.1, v.2 + c.2) l.length := okw_next h (hl c (hce ▸ List.getElem_mem hlt))
    have hw := okw_W h1
    simp only at hw
    rw [loopF_inl (hS i c hc v.1 v.2), hw.1, hw.2]
    exact ih (i + 1) n (v.1 + c.1, v.2 + c.2) (by rw [← List.drop_drop, hd]; rfl) (by omega) (by simp only [List.length_cons] at hn; omega) h1
section
variable {l : List (Int × Int)}
theorem vs_val {a : Int × Int} (h : vs a) : F51 a = true := val_f (a := a.1) (b := a.2) h.1 h.2.1 h.2.2
theorem chkW (hl : ∀ a ∈ l, vs a) : F30_L l = 0 := by
  have key : ∀ (m : List (Int × Int)) (i n : Nat), l.drop i = m → i ≤ l.length → m.length < n → loopF (S30_L_0 l) n (i : Int) = 0 := by
    intro m
    induction m with
    | nil =>
      intro i n hd hi hn
      have : i = l.length := by have := List.drop_eq_nil_iff.1 hd; omega
      obtain ⟨n, rfl⟩ : ∃ m, n = m + 1 := ⟨n - 1, by simp only [List.length_nil] at hn; omega⟩
      subst this
      refine loopF_inr ?_
      simp only [S30_L_0]
      rw [decide_eq_false (Int.lt_irrefl _), cond_false]
    | cons c m ih =>
      intro i n hd hi hn
      have hc : l[i]? = some c := by
        have : (l.drop i)[0]? = some c := by rw [hd]; rfl
        simpa using this
      obtain ⟨hlt, hce⟩ := List.getElem?_eq_some_iff.1 hc
      obtain ⟨n, rfl⟩ : ∃ m, n = m + 1 := ⟨n - 1, by omega⟩
      have hg : l.getD i default = c := by rw [List.getD_eq_getElem?_getD, hc]; rfl
      have e : S30_L_0 l (i : Int) = .inl ((i + 1 : Nat) : Int) := by
        simp only [S30_L_0]
        rw [decide_eq_true (show ((i : Nat) : Int) < (l.length : Nat) by omega), cond_true, Int.toNat_natCast, hg, vs_val (hl c (hce ▸ List.getElem_mem hlt))]; rfl
      rw [loopF_inl e]
      exact ih (i + 1) n (by rw [← List.drop_drop, hd]; rfl) (by omega) (by simp only [List.length_cons] at hn; omega)
  unfold F30_L
  exact key l 0 _ rfl (Nat.zero_le _) (by omega)
theorem totw_f (hl : ∀ a ∈ l, vs a) (hn : l.length ≤ 10000) : F34_L l = ((sums l (0, 0)).1, (sums l (0, 0)).2, 0) := by
  unfold F34_L
  rw [decide_eq_false (by omega), cond_false, chkW hl]
  show loopF _ _ (((0, 0) : Int × Int).1, ((0, 0) : Int × Int).2, ((0 : Nat) : Int)) = _
  refine sumw_loopF (G := fun v => (v.1, v.2, 0)) hl (fun i a hi v1 v2 => ?_) (fun v1 v2 => ?_) l 0 _ (0, 0) rfl (Nat.zero_le _) (by omega) (okw_0 hn)
  · obtain ⟨hlt, hce⟩ := List.getElem?_eq_some_iff.1 hi
    have hg : l.getD i default = a := by rw [List.getD_eq_getElem?_getD, hi]; rfl
    simp only [S34_L_0]
    rw [decide_eq_true (show ((i : Nat) : Int) < (l.length : Nat) by omega), cond_true, Int.toNat_natCast, hg]; rfl
  · simp only [S34_L_0]
    rw [decide_eq_false (Int.lt_irrefl _), cond_false]
/-- the least span of the sums, or an error -/
noncomputable def sumV (l : List (Int × Int)) : (Int × Int) × Int := F26 (sums l (0, 0)).1 (sums l (0, 0)).2
theorem Sum_f (hl : ∀ a ∈ l, vs a) (hn : l.length ≤ 10000) : F11_L l = sumV l := by
  unfold F11_L
  rw [totw_f hl hn]; rfl
end
theorem sums_app (l m : List (Int × Int)) : sums (l ++ m) (0, 0) = ((sums l (0, 0)).1 + (sums m (0, 0)).1, (sums l (0, 0)).2 + (sums m (0, 0)).2) := by
  simp only [sums_eq, List.map_append, List.sum_append, Int.zero_add]
theorem shs_inr {α β : Type} {g : α → β × Int} : ∀ {k : List α} {l : List β} {e : Int}, shs g k l = .inr e → e ≠ 0
  | [], l, e, h => by simp only [shs] at h; cases h
  | c :: k, l, e, h => by
    unfold shs at h
    split at h
    · exact shs_inr h
    · rename_i h0; cases h; exact h0

end Go.Proofs.Ytidhogejnafhaaa

namespace Go.Proofs.Ytidhogejnafhaaa
open Go.Proofs Go.Aw Go.RowKit
set_option maxRecDepth 100000
set_option linter.unusedVariables false
set_option linter.unusedSimpArgs false

end Go.Proofs.Ytidhogejnafhaaa

namespace Go.Proofs.Ytidhogejnafhaaa
open Go.Proofs Go.Aw Go.RowKit
set_option maxRecDepth 100000
set_option linter.unusedVariables false
set_option linter.unusedSimpArgs false

/-- api.Pulse, as cells -/
def c47 (x : ((Int × Int × Int) × (Int × Int × Int) × Int × Int × Int) × Int × Int) : List SV := [(iv x.1.1.1), (iv x.1.1.2.1), (iv x.1.1.2.2), (iv x.1.2.1.1), (iv x.1.2.1.2.1), (iv x.1.2.1.2.2), (iv x.1.2.2.1), (iv x.1.2.2.2.1), (iv x.1.2.2.2.2), (iv x.2.1), (iv x.2.2)]
theorem c47_len (x : ((Int × Int × Int) × (Int × Int × Int) × Int × Int × Int) × Int × Int) : (c47 x).length = 11 := rfl

noncomputable def B57_L_0 : Code := (loopAtD [1, 1, 0, 1] [] (bodyOf Try.f57) []).1
noncomputable def K57_L_0 : List K := (loopAtD [1, 1, 0, 1] [] (bodyOf Try.f57) []).2

def st57_L_0 (a0 : List (((Int × Int × Int) × (Int × Int × Int) × Int × Int × Int) × Int × Int)) (v1 : Int) : LS := ⟨slN 32 [(9, (.s 0 0 a0.length 11)), (10, (iv ((a0.length : Nat) : Int))), (11, (iv v1))], [(.live false true (flat c47 a0))]⟩

/-- a round of loop 0 of facet/sound.ValidatePulses; the variables: v1 = s11 -/
def S57_L_0 (a0 : List (((Int × Int × Int) × (Int × Int × Int) × Int × Int × Int) × Int × Int)) : Int → (Int) ⊕ (Int)
  | v1 =>
   (bif (decide ((v1 : Int) < ((a0.length : Nat) : Int))) then
    (bif (((F78 (a0.getD (Int.toNat v1) default).1) : Int) != 0) then
     (.inr (F78 (a0.getD (Int.toNat v1) default).1))
    else
     (bif (!(F58 (a0.getD (Int.toNat v1) default).2.1 0 1000)) then
      (.inr 1)
     else
      (bif (!(F58 (a0.getD (Int.toNat v1) default).2.2 (-100) 100)) then
       (.inr 1)
      else
       (.inl (v1 + 1)))))
   else
    (.inr 0))

set_option maxHeartbeats 4000000 in
theorem L57_L_0 (a0 : List (((Int × Int × Int) × (Int × Int × Int) × Int × Int × Int) × Int × Int)) (l0 : a0.length ≤ 9223372036854775807) {cx : Cx} (hcx : cx.base = 1) : ∀ (n : Nat) (v1 : Int), 0 ≤ v1 → Int.toNat (((a0.length : Nat) : Int) - v1) < n → Aw.Good Try.prog none 9 (bodyPost Try.prog Try.f57 (RR cx (iv (loopF (S57_L_0 a0) n v1)) [] [])) cx [] (.l B57_L_0 n :: K57_L_0) (st57_L_0 a0 v1) := by
  intro n
  induction n with
  | zero => intro v1 hi hn; exact absurd hn (Nat.not_lt_zero _)
  | succ n ih =>
    intro v1 hi hn
    refine good_round ?_
    cases h0 : (decide ((v1 : Int) < ((a0.length : Nat) : Int))) with
    | true =>
     have q0 := of_decide_eq_true h0
     let t1 : List (St Try.prog) := [.d h0, .i v1 (a0.length), .L c47_len a0 v1 0 11, .c [] (C78 (a0.getD (Int.toNat v1) default).1)]
     cases h1 : (((F78 (a0.getD (Int.toNat v1) default).1) : Int) != 0) with
     | true =>
      have q1 := bne_iff_ne.1 h1
      have e := Eq.refl (S57_L_0 a0 v1); conv at e => rhs; simp only [S57_L_0, h0, h1, cond_true, cond_false]
      rw [loopF_s, e]
      exact rt (t1 ++ [.d h1]) [] [] hcx (by kernel_rfl)
     | false =>
      have q1 := bne_eq_false_iff_eq.1 h1
      let t2 : List (St Try.prog) := (t1 ++ [.d h1, .c [] (C58 (a0.getD (Int.toNat v1) default).2.1 0 1000)])
      cases h2 : (!(F58 (a0.getD (Int.toNat v1) default).2.1 0 1000)) with
      | true =>
       have e := Eq.refl (S57_L_0 a0 v1); conv at e => rhs; simp only [S57_L_0, h0, h1, h2, cond_true, cond_false]
       rw [loopF_s, e]
       exact rt (t2 ++ [.d h2]) [] [] hcx (by kernel_rfl)
      | false =>
       let t3 : List (St Try.prog) := (t2 ++ [.d h2, .c [] (C58 (a0.getD (Int.toNat v1) default).2.2 (-100) 100)])
       cases h3 : (!(F58 (a0.getD (Int.toNat v1) default).2.2 (-100) 100)) with
       | true =>
        have e := Eq.refl (S57_L_0 a0 v1); conv at e => rhs; simp only [S57_L_0, h0, h1, h2, h3, cond_true, cond_false]
        rw [loopF_s, e]
        exact rt (t3 ++ [.d h3]) [] [] hcx (by kernel_rfl)
       | false =>
        have e := Eq.refl (S57_L_0 a0 v1); conv at e => rhs; simp only [S57_L_0, h0, h1, h2, h3, cond_true, cond_false]
        rw [loopF_inl e]
        refine ba (t3 ++ [.d h3]) [] [9, 10, 11] [] hcx (m := n) B57_L_0 (K57_L_0) (st57_L_0 a0 (W (v1 + 1))) (by kernel_rfl) ?_
        have z0 : (W (v1 + 1)) = (v1 + 1) := W_eq (by omega) (by omega)
        rw [z0]
        exact ih (v1 + 1) (by (try simp only [List.length_append, List.length_cons, List.length_nil, Int.toNat_zero]); omega) (by (try simp only [List.length_append, List.length_cons, List.length_nil, Int.toNat_zero]); omega)
    | false =>
     have q0 := of_decide_eq_false h0
     have e := Eq.refl (S57_L_0 a0 v1); conv at e => rhs; simp only [S57_L_0, h0, cond_true, cond_false]
     rw [loopF_s, e]
     exact rt [.d h0] [] [] hcx (by kernel_rfl)

/-- facet/sound.ValidatePulses at ('L',) -/
def F57_L (a0 : List (((Int × Int × Int) × (Int × Int × Int) × Int × Int × Int) × Int × Int)) : Int :=
  (bif (decide ((((a0.length : Nat) : Int) : Int) > 16)) then
   4
  else
   (loopF (S57_L_0 a0) (Int.toNat (((a0.length : Nat) : Int) - 0) + 1) 0))

theorem C57_L (a0 : List (((Int × Int × Int) × (Int × Int × Int) × Int × Int × Int) × Int × Int)) (l0 : a0.length ≤ 9223372036854775807) : Con Try.prog 57 [(.s 0 0 a0.length 11)] [(.live false true (flat c47 a0))] (iv (F57_L a0)) [] := by
  refine con_s Try.func57 (by kernel_rfl) fun cx hcx => ?_
  cases h0 : (decide ((((a0.length : Nat) : Int) : Int) > 16)) with
  | true =>
   have q0 := of_decide_eq_true h0
   have e := Eq.refl (F57_L a0); conv at e => rhs; simp only [F57_L, h0, cond_true, cond_false]
   rw [e]
   exact rt [.d h0] [] [] hcx (by kernel_rfl)
  | false =>
   have q0 := of_decide_eq_false h0
   have e := Eq.refl (F57_L a0); conv at e => rhs; simp only [F57_L, h0, cond_true, cond_false]
   rw [e]
   refine en [.d h0] [] [9, 10, 11] [] hcx B57_L_0 (K57_L_0) (st57_L_0 a0 0) (Int.toNat (((a0.length : Nat) : Int) - 0) + 1) (by kernel_rfl) ?_
   exact L57_L_0 a0 l0 hcx (Int.toNat (((a0.length : Nat) : Int) - 0) + 1) 0 (by (try simp only [List.length_append, List.length_cons, List.length_nil, Int.toNat_zero]); omega) (by (try simp only [List.length_append, List.length_cons, List.length_nil, Int.toNat_zero]); omega)

/-- facet/sound.check at ('L',) -/
def F41_L (a0 : List (((Int × Int × Int) × (Int × Int × Int) × Int × Int × Int) × Int × Int)) (a1 : Bool) : Int :=
  (bif (((F57_L a0) : Int) != 0) then
   (F57_L a0)
  else
   (bif (!a1) then
    1
   else
    0))

theorem C41_L (a0 : List (((Int × Int × Int) × (Int × Int × Int) × Int × Int × Int) × Int × Int)) (a1 : Bool) (l0 : a0.length ≤ 9223372036854775807) : Con Try.prog 41 [(.s 0 0 a0.length 11), (.v (.bool a1))] [(.live false true (flat c47 a0))] (iv (F41_L a0 a1)) [] := by
  refine con_s Try.func41 (by kernel_rfl) fun cx hcx => ?_
  let t0 : List (St Try.prog) := [.c [0] (C57_L a0 (by (try simp only [List.length_append, List.length_cons, List.length_nil, Int.toNat_zero]); omega))]
  cases h0 : (((F57_L a0) : Int) != 0) with
  | true =>
   have q0 := bne_iff_ne.1 h0
   have e := Eq.refl (F41_L a0 a1); conv at e => rhs; simp only [F41_L, h0, cond_true, cond_false]
   rw [e]
   exact rt (t0 ++ [.d h0]) [] [] hcx (by kernel_rfl)
  | false =>
   have q0 := bne_eq_false_iff_eq.1 h0
   let t1 : List (St Try.prog) := (t0 ++ [.d h0])
   cases h1 : (!a1) with
   | true =>
    have e := Eq.refl (F41_L a0 a1); conv at e => rhs; simp only [F41_L, h0, h1, cond_true, cond_false]
    rw [e]
    exact rt (t1 ++ [.d h1]) [] [] hcx (by kernel_rfl)
   | false =>
    have e := Eq.refl (F41_L a0 a1); conv at e => rhs; simp only [F41_L, h0, h1, cond_true, cond_false]
    rw [e]
    exact rt (t1 ++ [.d h1]) [] [] hcx (by kernel_rfl)

theorem chkL_0 {l : List PU} {b : Bool} (h : ((F41_L l b : Int) != 0) = false) : F57_L l = 0 ∧ b = true := by
  have h := bne_eq_false_iff_eq.1 h
  unfold F41_L at h
  cases h1 : ((F57_L l : Int) != 0) with
  | true => rw [h1, cond_true] at h; exact absurd h (bne_iff_ne.1 h1)
  | false =>
    rw [h1, cond_false] at h
    refine ⟨bne_eq_false_iff_eq.1 h1, ?_⟩
    cases b with
    | true => rfl
    | false => exact absurd h (by decide)
/-! ### slices.Clone -/
end Go.Proofs.Ytidhogejnafhaaa

namespace Go.Proofs.Ytidhogejnafhaaa
open Go.Proofs Go.Aw Go.RowKit
set_option maxRecDepth 100000
set_option linter.unusedVariables false
set_option linter.unusedSimpArgs false

/-! ### Lists of pulses: which are valid, the delayed ones -/
def fe {α : Type} (g : α → Int) : List α → Int
  | [] => 0
  | c :: l => if g c = 0 then fe g l else g c
theorem fe_0 {α : Type} {g : α → Int} : ∀ {l : List α}, fe g l = 0 ↔ ∀ c ∈ l, g c = 0
  | [] => by simp [fe]
  | c :: l => by
    unfold fe
    by_cases h : g c = 0
    · rw [if_pos h, fe_0]; simp [h]
    · rw [if_neg h]; simp [h]
theorem fe_loopF {α R : Type} [Inhabited R] {g : α → Int} {S : Int → Int ⊕ R} {L : List α} {E : Int → R} {G : R}
    (hS : ∀ (i : Nat) (c : α), L[i]? = some c → S (i : Int) = if g c = 0 then .inl ((i + 1 : Nat) : Int) else .inr (E (g c)))
    (hE : S (L.length : Int) = .inr G) : ∀ (k : List α) (i n : Nat), L.drop i = k → i ≤ L.length → k.length < n → loopF S n (i : Int) = if fe g k = 0 then G else E (fe g k)
  | [], i, n, hd, hi', hn => by
    have : i = L.length := by have := List.drop_eq_nil_iff.1 hd; omega
    obtain ⟨n, rfl⟩ : ∃ m, n = m + 1 := ⟨n - 1, by simp only [List.length_nil] at hn; omega⟩
    subst this
    rw [loopF_inr hE]; rfl
  | c :: k, i, n, hd, hi', hn => by
    have hc : L[i]? = some c := by
      have : (L.drop i)[0]? = some c := by rw [hd]; rfl
      simpa using this
    obtain ⟨hlt, hce⟩ := List.getElem?_eq_some_iff.1 hc
    obtain ⟨n, rfl⟩ : ∃ m, n = m + 1 := ⟨n - 1, by omega⟩
    have h1 := hS i c hc
    unfold fe
    by_cases h : g c = 0
    · rw [if_pos h] at h1
      rw [loopF_inl h1, if_pos h]
      exact fe_loopF hS hE k (i + 1) n (by rw [← List.drop_drop, hd]; rfl) (by omega) (by simp only [List.length_cons] at hn; omega)
    · rw [if_neg h] at h1
      rw [loopF_inr h1, if_neg h, if_neg h]
theorem getD_some {α : Type} [Inhabited α] {l : List α} {i : Nat} {c : α} (h : l[i]? = some c) : l.getD i default = c ∧ i < l.length := by
  obtain ⟨hlt, _⟩ := List.getElem?_eq_some_iff.1 h
  exact ⟨by rw [List.getD_eq_getElem?_getD, h]; rfl, hlt⟩
/-- the first error of pulses -/
noncomputable def vpL (l : List PU) : Int := if 16 < l.length then 4 else fe pv l
theorem pv_step {R : Type} (p : PU) (a : R) (E : Int → R) : (bif ((vp p.1 : Int) != 0) then E (vp p.1) else (bif (!(decide (0 ≤ p.2.1 ∧ p.2.1 ≤ 1000))) then E 1 else (bif (!(decide (-100 ≤ p.2.2 ∧ p.2.2 ≤ 100))) then E 1 else a))) = if pv p = 0 then a else E (pv p) := by
  unfold pv
  by_cases h : vp p.1 = 0
  · rw [h]
    by_cases h1 : 0 ≤ p.2.1 ∧ p.2.1 ≤ 1000 <;> by_cases h2 : -100 ≤ p.2.2 ∧ p.2.2 ≤ 100 <;> simp [h1, h2]
  · rw [if_neg h, if_neg h, bne_iff_ne.2 h]; rfl
theorem vpl_f (l : List PU) : F57_L l = vpL l := by
  unfold F57_L vpL
  by_cases h : 16 < l.length
  · rw [decide_eq_true (by omega), if_pos h]; rfl
  · rw [decide_eq_false (by omega), if_neg h, cond_false]
    have key := fe_loopF (g := pv) (S := S57_L_0 l) (L := l) (E := id) (G := 0) (fun i c hi => ?_) ?_ l 0 (Int.toNat (((l.length : Nat) : Int) - 0) + 1) rfl (Nat.zero_le _) (by omega)
    · refine Eq.trans key ?_
      split
      · rename_i h0; exact h0.symm
      · rfl
    · obtain ⟨hg, hlt⟩ := getD_some hi
      simp only [S57_L_0]
      rw [decide_eq_true (show ((i : Nat) : Int) < (l.length : Nat) by omega), cond_true, Int.toNat_natCast, hg, vp_s, sfrom_eq, sfrom_eq]
      exact pv_step c _ (fun e => Sum.inr (id e))
    · simp only [S57_L_0]
      rw [decide_eq_false (Int.lt_irrefl _), cond_false]
theorem chkL_f (l : List PU) (b : Bool) : F41_L l b = if vpL l = 0 then (if b = true then 0 else 1) else vpL l := by
  unfold F41_L
  rw [vpl_f]
  by_cases h : vpL l = 0
  · rw [h]; cases b <;> simp
  · rw [bne_iff_ne.2 h, if_neg h]; rfl
theorem vpL_ok {l : List PU} (h : vpL l = 0) : l.length ≤ 16 ∧ ∀ p ∈ l, POK p := by
  unfold vpL at h
  split at h
  · exact absurd h (by decide)
  · exact ⟨by omega, fun p hp => pv_ok.1 (fe_0.1 h p hp)⟩
/-! equal lists -/
/-! later pulses -/
end Go.Proofs.Ytidhogejnafhaaa

namespace Go.Proofs.Ytidhogejnafhaaa
open Go.Proofs Go.Aw Go.RowKit
set_option maxRecDepth 100000
set_option linter.unusedVariables false
set_option linter.unusedSimpArgs false

end Go.Proofs.Ytidhogejnafhaaa

namespace Go.Proofs.Ytidhogejnafhaaa
open Go.Proofs Go.Aw Go.RowKit
set_option maxRecDepth 100000
set_option linter.unusedVariables false
set_option linter.unusedSimpArgs false

/-! ### Images behind a wall -/
def bz (p : PU) : Prop := p.1.1.2.2 < 0 ∨ p.1.2.1.2.2 < 0 ∨ p.1.2.2.2.2 < 0
instance (p : PU) : Decidable (bz p) := by unfold bz; exact inferInstance
end Go.Proofs.Ytidhogejnafhaaa

namespace Go.Proofs.Ytidhogejnafhaaa
open Go.Proofs Go.Aw Go.RowKit
set_option maxRecDepth 100000
set_option linter.unusedVariables false
set_option linter.unusedSimpArgs false

theorem vpL_get {l : List PU} (h : vpL l = 0) {i : Nat} (hi : i < l.length) : POK (l.getD i default) := by
  have : l.getD i default = l[i] := by rw [List.getD_eq_getElem?_getD, List.getElem?_eq_getElem hi]; rfl
  rw [this]
  exact (vpL_ok h).2 _ (List.getElem_mem hi)
theorem ckL_v {l : List PU} {b : Bool} (h : ((F41_L l b : Int) != 0) = false) : vpL l = 0 := by
  have := (chkL_0 h).1
  rw [vpl_f] at this; exact this
theorem ckL_b {l : List PU} {b : Bool} (h : ((F41_L l b : Int) != 0) = false) : b = true := (chkL_0 h).2

/-- facet/sound.scene$1 -/
def F59 (a0 : ((Int × Int × Int) × (Int × Int × Int) × Int × Int × Int) × Int × Int) (a1 : Int × Int × Int) (a2 : Int) (a3 : Int) (a4 : Int) : (Int × Int) × Int :=
  ((F56 a0 a1 a2 a3 a4).1, (F56 a0 a1 a2 a3 a4).2)

theorem C59 (a0 : ((Int × Int × Int) × (Int × Int × Int) × Int × Int × Int) × Int × Int) (a1 : Int × Int × Int) (a2 : Int) (a3 : Int) (a4 : Int) (hp : POK a0) (hx : bd 256 a1) (hs : 1 ≤ a2 ∧ a2 ≤ 16) (ht : 0 ≤ a3 ∧ a3 ≤ 2000) (hd : 0 ≤ a4 ∧ a4 ≤ 3) : Con Try.prog 59 [(.a [(iv a0.1.1.1), (iv a0.1.1.2.1), (iv a0.1.1.2.2), (iv a0.1.2.1.1), (iv a0.1.2.1.2.1), (iv a0.1.2.1.2.2), (iv a0.1.2.2.1), (iv a0.1.2.2.2.1), (iv a0.1.2.2.2.2), (iv a0.2.1), (iv a0.2.2)]), (.p 0 0), (.p 1 0), (.p 2 0), (.p 3 0)] [(.live false false (k3 a1)), (.live false false [(iv a2)]), (.live false false [(iv a3)]), (.live false false [(iv a4)])] (.t [(.a (k2 (F59 a0 a1 a2 a3 a4).1)), (iv (F59 a0 a1 a2 a3 a4).2)]) [] := by
  refine con_s Try.func59 (by kernel_rfl) fun cx hcx => ?_
  have e := Eq.refl (F59 a0 a1 a2 a3 a4); conv at e => rhs; simp only [F59]
  rw [e]
  exact rt [.c [] (C56 a0 a1 a2 a3 a4  hp hx hs ht hd)] [] [] hcx (by kernel_rfl)

noncomputable def B47_L_c59_0 : Code := (loopAtD [1, 1, 0, 1] [] (bodyOf Try.f47) []).1
noncomputable def K47_L_c59_0 : List K := (loopAtD [1, 1, 0, 1] [] (bodyOf Try.f47) []).2

def st47_L_c59_0 (a0 : List (((Int × Int × Int) × (Int × Int × Int) × Int × Int × Int) × Int × Int)) (a1_0 : Int × Int × Int) (a1_1 : Int) (a1_2 : Int) (a1_3 : Int) (v2c : List SV) (v2n : Nat) (v3 : Int) : LS := ⟨slN 36 [(1, (.f 59 [(.p 1 0), (.p 2 0), (.p 3 0), (.p 4 0)])), (4, (.p 5 0)), (6, (.s 6 0 v2n 2)), (11, (.s 0 0 a0.length 11)), (12, (iv ((a0.length : Nat) : Int))), (13, (iv v3))], [(.live false true (flat c47 a0)), (.live false false (k3 a1_0)), (.live false false [(iv a1_1)]), (.live false false [(iv a1_2)]), (.live false false [(iv a1_3)]), (.live true false [(iv 0), (iv 0)]), (.live true true v2c)]⟩

/-- a round of loop 0 of facet/sound.sum; the variables: v2 = s6, v3 = s13 -/
def S47_L_c59_0 (a0 : List (((Int × Int × Int) × (Int × Int × Int) × Int × Int × Int) × Int × Int)) (a1_0 : Int × Int × Int) (a1_1 : Int) (a1_2 : Int) (a1_3 : Int) : (List (Int × Int)) × Int → ((List (Int × Int)) × Int) ⊕ ((Int × Int) × Int)
  | (v2, v3) =>
   (bif (decide ((v3 : Int) < ((a0.length : Nat) : Int))) then
    (bif (((F59 (a0.getD (Int.toNat v3) default) a1_0 a1_1 a1_2 a1_3).2 : Int) != 0) then
     (.inr ((0, 0), (F59 (a0.getD (Int.toNat v3) default) a1_0 a1_1 a1_2 a1_3).2))
    else
     (.inl ((v2 ++ [(F59 (a0.getD (Int.toNat v3) default) a1_0 a1_1 a1_2 a1_3).1]), (v3 + 1))))
   else
    (.inr ((F11_L v2).1, (F11_L v2).2)))

set_option maxHeartbeats 4000000 in
theorem L47_L_c59_0 (a0 : List (((Int × Int × Int) × (Int × Int × Int) × Int × Int × Int) × Int × Int)) (a1_0 : Int × Int × Int) (a1_1 : Int) (a1_2 : Int) (a1_3 : Int) (l0 : a0.length ≤ 9223372036854775807) (hv : vpL a0 = 0) (hx : bd 256 a1_0) (hs : 1 ≤ a1_1 ∧ a1_1 ≤ 16) (ht : 0 ≤ a1_2 ∧ a1_2 ≤ 2000) (hd : 0 ≤ a1_3 ∧ a1_3 ≤ 3) {cx : Cx} (hcx : cx.base = 5) : ∀ (n : Nat) (v2 : List (Int × Int)) (v3 : Int), (0 ≤ v3) ∧ (v2.length = Int.toNat v3) ∧ (v3 ≤ a0.length) → Int.toNat (((a0.length : Nat) : Int) - v3) < n → Aw.Good Try.prog none 9 (bodyPost Try.prog Try.f47 (RR cx (.t [(.a (k2 (loopF (S47_L_c59_0 a0 a1_0 a1_1 a1_2 a1_3) n (v2, v3)).1)), (iv (loopF (S47_L_c59_0 a0 a1_0 a1_1 a1_2 a1_3) n (v2, v3)).2)]) [] [])) cx [] (.l B47_L_c59_0 n :: K47_L_c59_0) (st47_L_c59_0 a0 a1_0 a1_1 a1_2 a1_3 (flat c23 v2) v2.length v3) := by
  intro n
  induction n with
  | zero => intro v2 v3 hi hn; exact absurd hn (Nat.not_lt_zero _)
  | succ n ih =>
    intro v2 v3 hi hn
    refine good_round ?_
    have hl16 := (vpL_ok hv).1
    cases h0 : (decide ((v3 : Int) < ((a0.length : Nat) : Int))) with
    | true =>
     have q0 := of_decide_eq_true h0
     let t1 : List (St Try.prog) := [.d h0, .i v3 (a0.length), .L c47_len a0 v3 0 11, .c [1, 2, 3, 4] (C59 (a0.getD (Int.toNat v3) default) a1_0 a1_1 a1_2 a1_3  (vpL_get hv (by omega)) hx hs ht hd)]
     cases h1 : (((F59 (a0.getD (Int.toNat v3) default) a1_0 a1_1 a1_2 a1_3).2 : Int) != 0) with
     | true =>
      have q1 := bne_iff_ne.1 h1
      have e := Eq.refl (S47_L_c59_0 a0 a1_0 a1_1 a1_2 a1_3 (v2, v3)); conv at e => rhs; simp only [S47_L_c59_0, h0, h1, cond_true, cond_false]
      rw [loopF_s, e]
      exact rt (t1 ++ [.d h1]) [] [] hcx (by kernel_rfl)
     | false =>
      have q1 := bne_eq_false_iff_eq.1 h1
      have e := Eq.refl (S47_L_c59_0 a0 a1_0 a1_1 a1_2 a1_3 (v2, v3)); conv at e => rhs; simp only [S47_L_c59_0, h0, h1, cond_true, cond_false]
      rw [loopF_inl e]
      refine ba (t1 ++ [.d h1, .p (show ((flat c23 v2).length = v2.length * 2 ∧ v2.length + 1 ≤ 2 ^ 40 ∧ (v2.length + 1) * 16 ≤ 2 ^ 47) from app_ok c23_len (by omega) (by omega))]) [] [1, 4, 6, 11, 12, 13] [5, 10] hcx (m := n) B47_L_c59_0 (K47_L_c59_0) (st47_L_c59_0 a0 a1_0 a1_1 a1_2 a1_3 (flat c23 v2 ++ (k2 (F59 (a0.getD (Int.toNat v3) default) a1_0 a1_1 a1_2 a1_3).1)) (v2.length + 1) (W (v3 + 1))) (by kernel_rfl) ?_
      have z0 : (W (v3 + 1)) = (v3 + 1) := W_eq (by omega) (by omega)
      have z1 : (flat c23 v2 ++ (k2 (F59 (a0.getD (Int.toNat v3) default) a1_0 a1_1 a1_2 a1_3).1)) = (flat c23 (v2 ++ [(F59 (a0.getD (Int.toNat v3) default) a1_0 a1_1 a1_2 a1_3).1])) := (flat_append (c := c23) (l := v2) (m := [(F59 (a0.getD (Int.toNat v3) default) a1_0 a1_1 a1_2 a1_3).1])).symm
      have z2 : (v2.length + 1) = (v2 ++ [(F59 (a0.getD (Int.toNat v3) default) a1_0 a1_1 a1_2 a1_3).1]).length := len_app v2 [(F59 (a0.getD (Int.toNat v3) default) a1_0 a1_1 a1_2 a1_3).1] rfl
      rw [z0, z1, z2]
      exact ih (v2 ++ [(F59 (a0.getD (Int.toNat v3) default) a1_0 a1_1 a1_2 a1_3).1]) (v3 + 1) (by refine ⟨?_, ?_, ?_⟩ <;> (try simp only [List.length_append, List.length_cons, List.length_nil, Int.toNat_zero]) <;> first | omega | assumption | simp) (by (try simp only [List.length_append, List.length_cons, List.length_nil, Int.toNat_zero]); omega)
    | false =>
     have q0 := of_decide_eq_false h0
     have e := Eq.refl (S47_L_c59_0 a0 a1_0 a1_1 a1_2 a1_3 (v2, v3)); conv at e => rhs; simp only [S47_L_c59_0, h0, cond_true, cond_false]
     rw [loopF_s, e]
     exact rt [.d h0, .c [6] (C11_L v2 (by (try simp only [List.length_append, List.length_cons, List.length_nil, Int.toNat_zero]); omega))] [] [] hcx (by kernel_rfl)

/-- facet/sound.sum at ('L', 'c59') -/
def F47_L_c59 (a0 : List (((Int × Int × Int) × (Int × Int × Int) × Int × Int × Int) × Int × Int)) (a1_0 : Int × Int × Int) (a1_1 : Int) (a1_2 : Int) (a1_3 : Int) : (Int × Int) × Int :=
  (loopF (S47_L_c59_0 a0 a1_0 a1_1 a1_2 a1_3) (Int.toNat (((a0.length : Nat) : Int) - 0) + 1) (([] : List (Int × Int)), 0))

theorem C47_L_c59 (a0 : List (((Int × Int × Int) × (Int × Int × Int) × Int × Int × Int) × Int × Int)) (a1_0 : Int × Int × Int) (a1_1 : Int) (a1_2 : Int) (a1_3 : Int) (l0 : a0.length ≤ 9223372036854775807) (hv : vpL a0 = 0) (hx : bd 256 a1_0) (hs : 1 ≤ a1_1 ∧ a1_1 ≤ 16) (ht : 0 ≤ a1_2 ∧ a1_2 ≤ 2000) (hd : 0 ≤ a1_3 ∧ a1_3 ≤ 3) : Con Try.prog 47 [(.s 0 0 a0.length 11), (.f 59 [(.p 1 0), (.p 2 0), (.p 3 0), (.p 4 0)])] [(.live false true (flat c47 a0)), (.live false false (k3 a1_0)), (.live false false [(iv a1_1)]), (.live false false [(iv a1_2)]), (.live false false [(iv a1_3)])] (.t [(.a (k2 (F47_L_c59 a0 a1_0 a1_1 a1_2 a1_3).1)), (iv (F47_L_c59 a0 a1_0 a1_1 a1_2 a1_3).2)]) [] := by
  refine con_s Try.func47 (by kernel_rfl) fun cx hcx => ?_
  have e := Eq.refl (F47_L_c59 a0 a1_0 a1_1 a1_2 a1_3); conv at e => rhs; simp only [F47_L_c59]
  rw [e]
  refine en [] [.slot 6 2] [1, 4, 6, 11, 12, 13] [5, 6] hcx B47_L_c59_0 (K47_L_c59_0) (st47_L_c59_0 a0 a1_0 a1_1 a1_2 a1_3 (flat c23 ([] : List (Int × Int))) 0 0) (Int.toNat (((a0.length : Nat) : Int) - 0) + 1) (by kernel_rfl) ?_
  exact L47_L_c59_0 a0 a1_0 a1_1 a1_2 a1_3 l0 hv hx hs ht hd hcx (Int.toNat (((a0.length : Nat) : Int) - 0) + 1) ([] : List (Int × Int)) 0 (by refine ⟨?_, ?_, ?_⟩ <;> (try simp only [List.length_append, List.length_cons, List.length_nil, Int.toNat_zero]) <;> first | omega | assumption | simp) (by (try simp only [List.length_append, List.length_cons, List.length_nil, Int.toNat_zero]); omega)

/-- facet/sound.scene at ('L',) -/
def F46_L (a0 : List (((Int × Int × Int) × (Int × Int × Int) × Int × Int × Int) × Int × Int)) (a1 : Int × Int × Int) (a2 : Int) (a3 : Int) (a4 : Int) : (Int × Int) × Int :=
  ((F47_L_c59 a0 a1 a2 a3 a4).1, (F47_L_c59 a0 a1 a2 a3 a4).2)

theorem C46_L (a0 : List (((Int × Int × Int) × (Int × Int × Int) × Int × Int × Int) × Int × Int)) (a1 : Int × Int × Int) (a2 : Int) (a3 : Int) (a4 : Int) (l0 : a0.length ≤ 9223372036854775807) (hv : vpL a0 = 0) (hx : bd 256 a1) (hs : 1 ≤ a2 ∧ a2 ≤ 16) (ht : 0 ≤ a3 ∧ a3 ≤ 2000) (hd : 0 ≤ a4 ∧ a4 ≤ 3) : Con Try.prog 46 [(.s 0 0 a0.length 11), (.a (k3 a1)), (iv a2), (iv a3), (iv a4)] [(.live false true (flat c47 a0))] (.t [(.a (k2 (F46_L a0 a1 a2 a3 a4).1)), (iv (F46_L a0 a1 a2 a3 a4).2)]) [] := by
  refine con_s Try.func46 (by kernel_rfl) fun cx hcx => ?_
  have e := Eq.refl (F46_L a0 a1 a2 a3 a4); conv at e => rhs; simp only [F46_L]
  rw [e]
  exact rt [.c [0, 1, 2, 3, 4] (C47_L_c59 a0 a1 a2 a3 a4 (by (try simp only [List.length_append, List.length_cons, List.length_nil, Int.toNat_zero]); omega) hv hx hs ht hd)] [] [] hcx (by kernel_rfl)

/-- facet/sound.Scene at ('L',) -/
def F21_L (a0 : List (((Int × Int × Int) × (Int × Int × Int) × Int × Int × Int) × Int × Int)) (a1 : Int × Int × Int) (a2 : Int) (a3 : Int) (a4 : Int) : (Int × Int) × Int :=
  (bif (F42 a1) then
   (bif (F43 a2) then
    (bif (F44 a3) then
     (bif (((F41_L a0 (F45 a4)) : Int) != 0) then
      ((0, 0), (F41_L a0 (F45 a4)))
     else
      ((F46_L a0 a1 a2 a3 a4).1, (F46_L a0 a1 a2 a3 a4).2))
    else
     (bif (((F41_L a0 false) : Int) != 0) then
      ((0, 0), (F41_L a0 false))
     else
      ((F46_L a0 a1 a2 a3 a4).1, (F46_L a0 a1 a2 a3 a4).2)))
   else
    (bif (((F41_L a0 false) : Int) != 0) then
     ((0, 0), (F41_L a0 false))
    else
     ((F46_L a0 a1 a2 a3 a4).1, (F46_L a0 a1 a2 a3 a4).2)))
  else
   (bif (((F41_L a0 false) : Int) != 0) then
    ((0, 0), (F41_L a0 false))
   else
    ((F46_L a0 a1 a2 a3 a4).1, (F46_L a0 a1 a2 a3 a4).2)))

theorem C21_L (a0 : List (((Int × Int × Int) × (Int × Int × Int) × Int × Int × Int) × Int × Int)) (a1 : Int × Int × Int) (a2 : Int) (a3 : Int) (a4 : Int) (l0 : a0.length ≤ 9223372036854775807) : Con Try.prog 21 [(.s 0 0 a0.length 11), (.a (k3 a1)), (iv a2), (iv a3), (iv a4)] [(.live false true (flat c47 a0))] (.t [(.a (k2 (F21_L a0 a1 a2 a3 a4).1)), (iv (F21_L a0 a1 a2 a3 a4).2)]) [] := by
  refine con_s Try.func21 (by kernel_rfl) fun cx hcx => ?_
  let t0 : List (St Try.prog) := [.c [] (C42 a1)]
  cases h0 : (F42 a1) with
  | true =>
   let t1 : List (St Try.prog) := (t0 ++ [.d h0, .c [] (C43 a2)])
   cases h1 : (F43 a2) with
   | true =>
    let t2 : List (St Try.prog) := (t1 ++ [.d h1, .c [] (C44 a3)])
    cases h2 : (F44 a3) with
    | true =>
     let t3 : List (St Try.prog) := (t2 ++ [.d h2, .c [] (C45 a4), .c [0] (C41_L a0 (F45 a4) (by (try simp only [List.length_append, List.length_cons, List.length_nil, Int.toNat_zero]); omega))])
     cases h3 : (((F41_L a0 (F45 a4)) : Int) != 0) with
     | true =>
      have q3 := bne_iff_ne.1 h3
      have e := Eq.refl (F21_L a0 a1 a2 a3 a4); conv at e => rhs; simp only [F21_L, h0, h1, h2, h3, cond_true, cond_false]
      rw [e]
      exact rt (t3 ++ [.d h3]) [] [] hcx (by kernel_rfl)
     | false =>
      have q3 := bne_eq_false_iff_eq.1 h3
      have e := Eq.refl (F21_L a0 a1 a2 a3 a4); conv at e => rhs; simp only [F21_L, h0, h1, h2, h3, cond_true, cond_false]
      rw [e]
      exact rt (t3 ++ [.d h3, .c [0] (C46_L a0 a1 a2 a3 a4 (by (try simp only [List.length_append, List.length_cons, List.length_nil, Int.toNat_zero]); omega) (by first | exact ckL_v h1 | exact ckL_v h2 | exact ckL_v h3) (by first | exact isp_p h0 | exact absurd (ckL_b h1) (by decide) | exact absurd (ckL_b h2) (by decide) | exact absurd (ckL_b h3) (by decide)) (by first | exact iss_p h1 | exact absurd (ckL_b h1) (by decide) | exact absurd (ckL_b h2) (by decide) | exact absurd (ckL_b h3) (by decide)) (by first | exact ist_p h2 | exact absurd (ckL_b h1) (by decide) | exact absurd (ckL_b h2) (by decide) | exact absurd (ckL_b h3) (by decide)) (by first | exact isd_p (ckL_b h3) | exact absurd (ckL_b h1) (by decide) | exact absurd (ckL_b h2) (by decide) | exact absurd (ckL_b h3) (by decide)))]) [] [] hcx (by kernel_rfl)
    | false =>
     let t3 : List (St Try.prog) := (t2 ++ [.d h2, .c [0] (C41_L a0 false (by (try simp only [List.length_append, List.length_cons, List.length_nil, Int.toNat_zero]); omega))])
     cases h3 : (((F41_L a0 false) : Int) != 0) with
     | true =>
      have q3 := bne_iff_ne.1 h3
      have e := Eq.refl (F21_L a0 a1 a2 a3 a4); conv at e => rhs; simp only [F21_L, h0, h1, h2, h3, cond_true, cond_false]
      rw [e]
      exact rt (t3 ++ [.d h3]) [] [] hcx (by kernel_rfl)
     | false =>
      have q3 := bne_eq_false_iff_eq.1 h3
      have e := Eq.refl (F21_L a0 a1 a2 a3 a4); conv at e => rhs; simp only [F21_L, h0, h1, h2, h3, cond_true, cond_false]
      rw [e]
      exact rt (t3 ++ [.d h3, .c [0] (C46_L a0 a1 a2 a3 a4 (by (try simp only [List.length_append, List.length_cons, List.length_nil, Int.toNat_zero]); omega) (by first | exact ckL_v h1 | exact ckL_v h2 | exact ckL_v h3) (by first | exact isp_p h0 | exact absurd (ckL_b h1) (by decide) | exact absurd (ckL_b h2) (by decide) | exact absurd (ckL_b h3) (by decide)) (by first | exact iss_p h1 | exact absurd (ckL_b h1) (by decide) | exact absurd (ckL_b h2) (by decide) | exact absurd (ckL_b h3) (by decide)) (by first | exact ist_p h2 | exact absurd (ckL_b h1) (by decide) | exact absurd (ckL_b h2) (by decide) | exact absurd (ckL_b h3) (by decide)) (by first | exact isd_p (ckL_b h3) | exact absurd (ckL_b h1) (by decide) | exact absurd (ckL_b h2) (by decide) | exact absurd (ckL_b h3) (by decide)))]) [] [] hcx (by kernel_rfl)
   | false =>
    let t2 : List (St Try.prog) := (t1 ++ [.d h1, .c [0] (C41_L a0 false (by (try simp only [List.length_append, List.length_cons, List.length_nil, Int.toNat_zero]); omega))])
    cases h2 : (((F41_L a0 false) : Int) != 0) with
    | true =>
     have q2 := bne_iff_ne.1 h2
     have e := Eq.refl (F21_L a0 a1 a2 a3 a4); conv at e => rhs; simp only [F21_L, h0, h1, h2, cond_true, cond_false]
     rw [e]
     exact rt (t2 ++ [.d h2]) [] [] hcx (by kernel_rfl)
    | false =>
     have q2 := bne_eq_false_iff_eq.1 h2
     have e := Eq.refl (F21_L a0 a1 a2 a3 a4); conv at e => rhs; simp only [F21_L, h0, h1, h2, cond_true, cond_false]
     rw [e]
     exact rt (t2 ++ [.d h2, .c [0] (C46_L a0 a1 a2 a3 a4 (by (try simp only [List.length_append, List.length_cons, List.length_nil, Int.toNat_zero]); omega) (by first | exact ckL_v h1 | exact ckL_v h2 | exact ckL_v h3) (by first | exact isp_p h0 | exact absurd (ckL_b h1) (by decide) | exact absurd (ckL_b h2) (by decide) | exact absurd (ckL_b h3) (by decide)) (by first | exact iss_p h1 | exact absurd (ckL_b h1) (by decide) | exact absurd (ckL_b h2) (by decide) | exact absurd (ckL_b h3) (by decide)) (by first | exact ist_p h2 | exact absurd (ckL_b h1) (by decide) | exact absurd (ckL_b h2) (by decide) | exact absurd (ckL_b h3) (by decide)) (by first | exact isd_p (ckL_b h3) | exact absurd (ckL_b h1) (by decide) | exact absurd (ckL_b h2) (by decide) | exact absurd (ckL_b h3) (by decide)))]) [] [] hcx (by kernel_rfl)
  | false =>
   let t1 : List (St Try.prog) := (t0 ++ [.d h0, .c [0] (C41_L a0 false (by (try simp only [List.length_append, List.length_cons, List.length_nil, Int.toNat_zero]); omega))])
   cases h1 : (((F41_L a0 false) : Int) != 0) with
   | true =>
    have q1 := bne_iff_ne.1 h1
    have e := Eq.refl (F21_L a0 a1 a2 a3 a4); conv at e => rhs; simp only [F21_L, h0, h1, cond_true, cond_false]
    rw [e]
    exact rt (t1 ++ [.d h1]) [] [] hcx (by kernel_rfl)
   | false =>
    have q1 := bne_eq_false_iff_eq.1 h1
    have e := Eq.refl (F21_L a0 a1 a2 a3 a4); conv at e => rhs; simp only [F21_L, h0, h1, cond_true, cond_false]
    rw [e]
    exact rt (t1 ++ [.d h1, .c [0] (C46_L a0 a1 a2 a3 a4 (by (try simp only [List.length_append, List.length_cons, List.length_nil, Int.toNat_zero]); omega) (by first | exact ckL_v h1 | exact ckL_v h2 | exact ckL_v h3) (by first | exact isp_p h0 | exact absurd (ckL_b h1) (by decide) | exact absurd (ckL_b h2) (by decide) | exact absurd (ckL_b h3) (by decide)) (by first | exact iss_p h1 | exact absurd (ckL_b h1) (by decide) | exact absurd (ckL_b h2) (by decide) | exact absurd (ckL_b h3) (by decide)) (by first | exact ist_p h2 | exact absurd (ckL_b h1) (by decide) | exact absurd (ckL_b h2) (by decide) | exact absurd (ckL_b h3) (by decide)) (by first | exact isd_p (ckL_b h3) | exact absurd (ckL_b h1) (by decide) | exact absurd (ckL_b h2) (by decide) | exact absurd (ckL_b h3) (by decide)))]) [] [] hcx (by kernel_rfl)

end Go.Proofs.Ytidhogejnafhaaa
