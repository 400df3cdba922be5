/-
  A symbolic executor for the model's code, part C: the operations that call no function. Generic in the program. No premise.
-/
import Derived.Test.YtopbnnmkdildgaaAwB
import Derived.Laws.StructEq
import Derived.WalkKit
namespace Go.Aw
open Go.RowKit
set_option linter.unusedVariables false
set_option linter.unusedSimpArgs false

inductive TK where
  | int (k : IntKind) | bool | str
  | slice (e es bytes : Nat)
  | arr (n e es : Nat)
  | st (fs : List (Nat × Nat × Nat))     -- offset, type, size
  | other

structure TI where
  size : Nat
  bytes : Nat
  zero : List Value
  agg : Bool
  eqok : Bool
  kind : TK

def isAggD : TypeDesc → Bool
  | .struct _ | .array _ _ => true
  | _ => false

def kindOf (P : Program) : TypeDesc → TK
  | .int k => .int k
  | .bool => .bool
  | .string => .str
  | .slice e => .slice e (P.cellsOf e) (P.bytesOf e)
  | .array n e => .arr n e (P.cellsOf e)
  | .struct fs => .st (fs.toList.map fun f => (f.offset, f.type, P.cellsOf f.type))
  | _ => .other

def noBlank : TypeDesc → Bool
  | .struct fs => fs.toList.all fun f => f.name != "_"
  | _ => true

def conv (P : Program) (t : Nat) : Option TI :=
  match P.info? t, P.underlying t with
  | some i, some d =>
    match i.zero with
    | some z => some { size := i.size, bytes := i.bytes, zero := z.cells.toList, agg := isAggD d, eqok := !P.stoodInHeld t && !P.eqGuardType P.depth t && noBlank d, kind := kindOf P d }
    | none => none
  | _, _ => none

/-- A table of types that is the program's. -/
def TOk (P : Program) (T : Nat → Option TI) : Prop := ∀ t i, T t = some i → conv P t = some i

theorem conv_spec {P : Program} {t : Nat} {i : TI} (h : conv P t = some i) : ∃ (n : TypeInfo) (d : TypeDesc) (z : Value), P.info? t = some n ∧ P.underlying t = some d ∧ n.zero = some z ∧
    i = { size := n.size, bytes := n.bytes, zero := z.cells.toList, agg := isAggD d, eqok := !P.stoodInHeld t && !P.eqGuardType P.depth t && noBlank d, kind := kindOf P d } := by
  unfold conv at h
  split at h
  · rename_i n d h1 h2
    split at h
    · rename_i z hz
      simp only [Option.some.injEq] at h
      exact ⟨n, d, z, h1, h2, hz, h.symm⟩
    · cases h
  · cases h

theorem run_typeInfo' {P : Program} {t : Nat} {n : TypeInfo} (h : P.info? t = some n) (W : World) : (typeInfo t).run P W = .ok n W := by simp [typeInfo, h]
theorem run_underlying' {P : Program} {t : Nat} {d : TypeDesc} (h : P.underlying t = some d) (W : World) : (underlying t).run P W = .ok d W := by simp [underlying, h]
theorem run_sizeOf' {P : Program} {t : Nat} {n : TypeInfo} (h : P.info? t = some n) (W : World) : (sizeOf t).run P W = .ok n.size W := by simp [sizeOf, run_typeInfo' h]
theorem run_zeroValue' {P : Program} {t : Nat} {n : TypeInfo} {z : Value} (h : P.info? t = some n) (hz : n.zero = some z) (W : World) : (zeroValue t).run P W = .ok z W := by simp [zeroValue, run_typeInfo' h, hz]
theorem run_isAgg' {P : Program} {t : Nat} {d : TypeDesc} (h : P.underlying t = some d) (W : World) : (isAgg t).run P W = .ok (isAggD d) W := by
  simp only [isAgg, Sem.run_bind, run_underlying' h, Result.andThen_ok]
  cases d <;> rfl

theorem cellsOf_run {P : Program} {t : Nat} (h : P.cellsOf t ≠ 0) (W : World) : (sizeOf t).run P W = .ok (P.cellsOf t) W := by
  unfold Program.cellsOf at h ⊢
  cases hi : P.info? t with
  | none => simp [hi] at h
  | some n => simp [run_sizeOf' hi]

/-! ### Obligations and the oracle -/
inductive Ob where
  | eq (b c : Bool)
  | pr (p : Prop)
  | call (f : Nat) (args : List SV) (bs : List BK) (res : SV) (nb : List BK) (mb : List BK := [])

inductive Or where
  | d (b : Bool)
  | ld (cells : List SV)
  | call (ks : List Nat) (res : SV) (nb : List BK) (mb : List BK := [])
  | un (m : Nat)
  | stop (id : Nat)

/-- Values of operands. -/
def ev (sl : Nat → SV) : Operand → SV
  | .tmp t => sl t
  | .const (.bool b) => .b b
  | .const v => .v v
  | .global g => .v (.pointer (some ⟨g, 0, none⟩))
  | .func f => .v (.func (.func f) #[] #[])

theorem ev_rel {w0 : Cx} {N : Nat} {D : List Deferred} {ρ : Env} {s : FS} {a : Act} {W : World} (h : Rep w0 N D ρ s a W) (x : Operand) : Rel ρ (ev s.sl x) (a.eval x) := by
  cases x with
  | tmp t => exact h.sl t
  | const v => cases v <;> simp [ev, Rel, Act.eval]
  | global g => simp [ev, Rel, Act.eval]
  | func f => simp [ev, Rel, Act.eval]

theorem ev_wf {w0 : Cx} {N : Nat} {D : List Deferred} {ρ : Env} {s : FS} {a : Act} {W : World} (h : Rep w0 N D ρ s a W) (x : Operand) (k : Nat) (hk : (ev s.sl x).has k) : s.bk k ≠ .un := by
  cases x with
  | tmp t => exact h.wf1 t k hk
  | const v => cases v <;> simp [ev, SV.has] at hk
  | global g => simp [ev, SV.has] at hk
  | func f => simp [ev, SV.has] at hk

/-! ### Plain operations on numbers -/
def binV (op : BinOp) (k : IntKind) (a b : Int) : Option (SV × List Ob) :=
  match op with
  | .add => some (.v (.int k (k.wrap (a + b))), [])
  | .sub => some (.v (.int k (k.wrap (a - b))), [])
  | .mul => some (.v (.int k (k.wrap (a * b))), [])
  | .quo => some (.v (.int k (k.wrap (a.tdiv b))), [.pr (b ≠ 0)])
  | .rem => some (.v (.int k (a.tmod b)), [.pr (b ≠ 0)])
  | .eql => some (.v (.bool (a == b)), [])
  | .neq => some (.v (.bool (a != b)), [])
  | .lss => some (.v (.bool (a < b)), [])
  | .leq => some (.v (.bool (a ≤ b)), [])
  | .gtr => some (.v (.bool (a > b)), [])
  | .geq => some (.v (.bool (a ≥ b)), [])
  | .shl => some (.v (.int k (k.wrap (a * 2 ^ (min b.toNat k.bits)))), [.pr (0 ≤ b)])
  | .shr => some (.v (.int k (a.fdiv (2 ^ (min b.toNat k.bits)))), [.pr (0 ≤ b)])
  | .and => some (.v (.int k (k.wrap (BitVec.ofInt k.bits a &&& BitVec.ofInt k.bits b).toNat)), [])
  | .or => some (.v (.int k (k.wrap (BitVec.ofInt k.bits a ||| BitVec.ofInt k.bits b).toNat)), [])
  | .xor => some (.v (.int k (k.wrap (BitVec.ofInt k.bits a ^^^ BitVec.ofInt k.bits b).toNat)), [])
  | _ => none

/-- Equality of the cells of two values of a type. -/
def eqC (T : Nat → Option TI) : Nat → Nat → List SV → List SV → Option Bool
  | 0, _, _, _ => none
  | d + 1, t, xs, ys =>
    match T t with
    | none => none
    | some i =>
      match i.kind with
      | .int _ =>
        match xs, ys with
        | [.v (.int k a)], [.v (.int k' b)] => if k = k' then some (a == b) else none
        | _, _ => none
      | .bool =>
        match xs, ys with
        | [.v (.bool a)], [.v (.bool b)] => some (a == b)
        | [.b a], [.v (.bool b)] => some (a == b)
        | [.v (.bool a)], [.b b] => some (a == b)
        | [.b a], [.b b] => some (a == b)
        | _, _ => none
      | .st fs =>
        match i.eqok with
        | true => fs.foldr (fun f r => if ((xs.drop f.1).take f.2.2).length = f.2.2 ∧ ((ys.drop f.1).take f.2.2).length = f.2.2 ∧ f.2.2 ≠ 0 then
            match eqC T d f.2.1 ((xs.drop f.1).take f.2.2) ((ys.drop f.1).take f.2.2), r with
            | some x, some y => some (x && y)
            | _, _ => none
          else none) (some true)
        | false => none
      | _ => none

/-- Parts go into cells. -/
def fillS (place : Nat → Option (Nat × Nat)) : List SV → List (Nat × SV) → Option (List SV)
  | cells, [] => some cells
  | cells, (i, x) :: rest =>
    match place i with
    | none => none
    | some (off, size) => if x.known && x.cells.length == size && decide (off + size ≤ cells.length) then fillS place (splice cells off x.cells) rest else none

theorem foldl_set_eq (off : Nat) : ∀ (vs : List Value) (j : Nat) (cs : Array Value), off + j + vs.length ≤ cs.size →
    (vs.zipIdx j).foldl (fun cs (c, j) => cs.setIfInBounds (off + j) c) cs = (splice cs.toList (off + j) vs).toArray
  | [], j, cs, _ => by simp [splice]
  | v :: vs, j, cs, h => by
    simp only [List.length_cons] at h
    simp only [List.zipIdx_cons, List.foldl_cons]
    rw [foldl_set_eq off vs (j + 1) _ (by simp; omega)]
    congr 1
    unfold splice
    rw [show off + (j + 1) = (off + j) + 1 by omega, List.take_add_one]
    simp only [Array.toList_setIfInBounds, List.take_set_of_le (Nat.le_refl _), List.length_cons]
    rw [List.getElem?_set_self (by simp; omega)]
    simp only [Option.toList_some, List.append_assoc, List.cons_append, List.nil_append]
    rw [List.drop_set_of_lt (by omega)]
    rw [show off + j + 1 + vs.length = off + j + (vs.length + 1) by omega]

theorem fill_ok {ρ : Env} {place : Nat → Option (Nat × Nat)} : ∀ (ps : List (Nat × SV)) (qs : List (Nat × Value)) (cells : List SV) (cs : List Value) (r : List SV),
    ps.map (·.1) = qs.map (·.1) → Rels ρ (ps.map (·.2)) (qs.map (·.2)) → Rels ρ cells cs → fillS place cells ps = some r →
    ∃ vs, Instr.fill place cs.toArray qs = some vs.toArray ∧ Rels ρ r vs
  | [], [], cells, cs, r, _, _, hc, h => by simp only [fillS, Option.some.injEq] at h; subst h; exact ⟨cs, rfl, hc⟩
  | [], _ :: _, _, _, _, h, _, _, _ => by simp at h
  | _ :: _, [], _, _, _, h, _, _, _ => by simp at h
  | (i, x) :: ps, (j, y) :: qs, cells, cs, r, h, hr, hc, hf => by
    simp only [List.map_cons, List.cons.injEq] at h
    obtain ⟨rfl, h⟩ := h
    simp only [List.map_cons, Rels] at hr
    simp only [fillS] at hf
    simp only [Instr.fill]
    cases hp : place i with
    | none => rw [hp] at hf; cases hf
    | some os =>
      obtain ⟨off, size⟩ := os
      rw [hp] at hf
      simp only at hf
      split at hf
      · rename_i hcond
        simp only [Bool.and_eq_true, beq_iff_eq, decide_eq_true_eq] at hcond
        obtain ⟨⟨hk, hl⟩, ho⟩ := hcond
        have hxc := Rel.cells hr.1 hk
        have hsz : y.cells.size = size := by rw [← hl, hxc.length]; simp
        have hlen := hc.length
        have : ¬ (y.cells.size ≠ size ∨ off + y.cells.size > cs.length) := by omega
        simp only [List.size_toArray, ne_eq, gt_iff_lt, decide_not, Bool.or_eq_true, Bool.not_eq_true', decide_eq_false_iff_not, decide_eq_true_eq]
        rw [if_neg (by omega)]
        have hz : (y.cells.zipIdx.foldl (fun cs (c, j) => cs.setIfInBounds (off + j) c) cs.toArray) = (splice cs off y.cells.toList).toArray := by
          rw [← Array.foldl_toList, Array.toList_zipIdx]
          have := foldl_set_eq off y.cells.toList 0 cs.toArray (by simp; omega)
          simpa using this
        rw [hz]
        exact fill_ok ps qs _ _ r h hr.2 (Rels.splice off hc hxc) hf
      · cases hf

end Go.Aw
