/-
  A symbolic executor for the model's code, part D: what an operation that calls no function does to a symbolic state, and that it does so. Generic in the program. No premise.
-/
import Derived.Test.YtopbnnmkdildgaaAwC
namespace Go.Aw
open Go.RowKit
set_option linter.unusedVariables false
set_option linter.unusedSimpArgs false

/-- The blocks that an operation looks into. -/
def opBlk (op : Op) (xs : List SV) : List Nat :=
  match op, xs with
  | .load _ _, .p k _ :: _ => [k]
  | .store _ _ _, .p k _ :: _ => [k]
  | .slice _ _ _ _ _, .p k _ :: _ => [k]
  | .call { callee := .builtin .append, .. }, [.s k _ _ _, .s j _ _ _] => [k, j]
  | .call { callee := .builtin .append, .. }, [.v _, .s j _ _ _] => [j]
  | _, _ => []

def mkV (agg : Bool) (cells : List SV) : Option SV :=
  match agg, cells with
  | true, l => some (.a l)
  | false, [x] => some x
  | false, _ => none

def minV (k : IntKind) : Int → List SV → Option SV
  | a, [] => some (.v (.int k a))
  | a, .v (.int _ b) :: l => minV k (if b < a then b else a) l
  | _, _ => none

def maxV (k : IntKind) : Int → List SV → Option SV
  | a, [] => some (.v (.int k a))
  | a, .v (.int _ b) :: l => maxV k (if a < b then b else a) l
  | _, _ => none

def lenV (T : Nat → Option TI) (t : Nat) : SV → Option SV
  | .s _ _ len _ => match T t with
    | some i => match i.kind with
      | .slice _ _ _ => some (iv len)
      | _ => none
    | none => none
  | .v (.slice _ len _) => match T t with
    | some i => match i.kind with
      | .slice _ _ _ => some (iv len)
      | _ => none
    | none => none
  | _ => none

def symCallB (T : Nat → Option TI) (b : Builtin) (ts : List Nat) (xs : List SV) : Option SV :=
  match b, ts, xs with
  | .len, t :: _, [x] => lenV T t x
  | .min, _, .v (.int k a) :: l => minV k a l
  | .max, _, .v (.int k a) :: l => maxV k a l
  | _, _, _ => none

def symUn (op : UnOp) : SV → Option SV
  | .b d => match op with
    | .not => some (.b (!d))
    | _ => none
  | .v (.bool c) => match op with
    | .not => some (.v (.bool (!c)))
    | _ => none
  | .v (.int k n) => match op with
    | .neg => some (.v (.int k (k.wrap (0 - n))))
    | _ => none
  | _ => none

def asB : SV → Option Bool
  | .b x => some x
  | .v (.bool x) => some x
  | _ => none

def boolBin (T : Nat → Option TI) (op : BinOp) (t : Nat) (x y : SV) : Option (SV × List Ob) :=
  match asB x, asB y, T t with
  | some a, some b, some i => match i.kind with
    | .bool => match op with
      | .eql => some (.v (.bool (a == b)), [])
      | .neq => some (.v (.bool (!(a == b))), [])
      | _ => none
    | _ => none
  | _, _, _ => none

def symBin (T : Nat → Option TI) (op : BinOp) (t : Nat) : SV → SV → Option (SV × List Ob)
  | .v (.int k a), .v (.int k' b) =>
    match op with
    | .shl => binV .shl k a b
    | .shr => binV .shr k a b
    | op => if k = k' then binV op k a b else none
  | .a xs, .a ys =>
    match T t with
    | some i =>
      if i.eqok && i.agg then
        match op, eqC T 100 t xs ys with
        | .eql, some r => some (.v (.bool r), [])
        | .neq, some r => some (.v (.bool (!r)), [])
        | _, _ => none
      else none
    | none => none
  | x, y => boolBin T op t x y

def placeSt (fs : List (Nat × Nat × Nat)) (i : Nat) : Option (Nat × Nat) :=
  match fs[i]? with
  | some f => if f.2.2 = 0 then none else some (f.1, f.2.2)
  | none => none

def zip1 : List Nat → List SV → List (Nat × SV) := List.zip

def SV.plain : SV → Bool
  | .v _ => true
  | .b _ => true
  | _ => false

theorem plain_all {l : List SV} (h : l.all SV.plain = true) : Plain l := fun k hk => by
  rw [hasl_iff] at hk
  obtain ⟨x, hx, hk⟩ := hk
  have := List.all_eq_true.1 h x hx
  cases x <;> simp [SV.plain] at this <;> simp [SV.has] at hk

/-- The cells of a slice that is appended. -/
def appSrc (off n es : Nat) : BK → Option (List SV)
  | .live _ false cells => if ((cells.drop off).take (n * es)).length = n * es then some ((cells.drop off).take (n * es)) else none
  | _ => none

def symAppend (T : Nat → Option TI) (ts : List TypeId) (xs : List SV) (bs : List BK) (fr : Nat) : Option (Eff × List Ob) :=
  match ts with
  | [t, t'] => if t' = t then
      match T t with
      | none => none
      | some i => match i.kind with
        | .slice e es _ => match T e with
          | none => none
          | some ei =>
            if es ≠ 0 ∧ ei.size = es ∧ ei.zero.length = es then
              match xs, bs with
              | [.v (.slice none 0 0), .s j off n es'], [src] => if es' = es ∧ n ≠ 0 ∧ n ≤ 2 ^ 40 ∧ n * ei.bytes ≤ 2 ^ 47 then
                  match appSrc off n es src with
                  | some new => if new.all SV.one then some ({ val := .s fr 0 n es, ups := [(fr, .live true false new)] }, []) else none
                  | none => none
                else none
              | [.s k 0 len es1, .s j off n es'], [.live true sym cells, src] => if es' = es ∧ es1 = es ∧ n ≠ 0 then
                  match appSrc off n es src with
                  | some new => if new.all SV.one then
                      match sym with
                      | false => if cells.length = len * es ∧ len + n ≤ 2 ^ 40 ∧ (len + n) * ei.bytes ≤ 2 ^ 47 then some ({ val := .s fr 0 (len + n) es, ups := [(k, .dead), (fr, .live true false (cells ++ new))] }, []) else none
                      | true => if new.all SV.plain = false then none else some ({ val := .s fr 0 (len + n) es, ups := [(k, .dead), (fr, .live true true (cells ++ new))] }, [.pr (cells.length = len * es ∧ len + n ≤ 2 ^ 40 ∧ (len + n) * ei.bytes ≤ 2 ^ 47)])
                    else none
                  | none => none
                else none
              | _, _ => none
            else none
        | _ => none
    else none
  | _ => none

/-- append of a list (a slice whose cells are not written out). -/
def symAppendL (T : Nat → Option TI) (ts : List TypeId) (xs : List SV) (bs : List BK) (fr : Nat) : Option (Eff × List Ob) :=
  match ts with
  | [t, t'] => if t' = t then
      match T t with
      | none => none
      | some i => match i.kind with
        | .slice e es _ => match T e with
          | none => none
          | some ei =>
            if es ≠ 0 ∧ ei.size = es ∧ ei.zero.length = es then
              match xs, bs with
              | [.v (.slice none 0 0), .s j 0 n es'], [.live _ true new] => if es' = es then
                  some ({ val := .s fr 0 n es, ups := [(fr, .live true true new)] }, [.pr (new.length = n * es ∧ new.all SV.one = true ∧ n ≤ 2 ^ 40 ∧ n * ei.bytes ≤ 2 ^ 47)])
                else none
              | [.s k 0 len es1, .s j 0 n es'], [.live true sym cells, .live _ true new] => if es' = es ∧ es1 = es ∧ (sym || cells.all SV.plain) = true then
                  some ({ val := .s fr 0 (len + n) es, ups := [(k, .dead), (fr, .live true true (cells ++ new))] }, [.pr (cells.length = len * es ∧ new.length = n * es ∧ new.all SV.one = true ∧ len + n ≤ 2 ^ 40 ∧ (len + n) * ei.bytes ≤ 2 ^ 47)])
                else none
              | _, _ => none
            else none
        | _ => none
    else none
  | _ => none

/-- What an operation that calls no function comes to: its effect, what is owed. 'fr': the number of the block that it makes, if it makes one. -/
def symOp (T : Nat → Option TI) (op : Op) (xs : List SV) (bs : List BK) (fr : Nat) (orc : List Or) : Option (Eff × List Ob × List Or) :=
  match op with
  | .move _ | .assign _ => match xs with
    | [x] => some ({ val := x }, [], orc)
    | _ => none
  | .pick _ _ _ => match xs with
    | [.b d, x, y] => some ({ val := match d with | true => x | false => y }, [], orc)
    | _ => none
  | .alloc t => match T t with
    | some i => some ({ val := .p fr 0, ups := [(fr, .live true false (i.zero.map .v))] }, [], orc)
    | none => none
  | .box t _ => match xs with
    | [x] => if x.known then some ({ val := .p fr 0, ups := [(fr, .live true false x.cells)] }, [], orc) else none
    | _ => none
  | .build t parts => match T t with
    | some i => match i.kind with
      | .st fs => match fillS (placeSt fs) (i.zero.map .v) (zip1 (parts.toList.map (·.1)) xs) with
        | some cells => if fs.all (fun f => decide (f.2.2 ≠ 0)) then some ({ val := .a cells }, [], orc) else none
        | none => none
      | .arr n e es => match fillS (fun i => some (i * es, es)) (i.zero.map .v) (zip1 (parts.toList.map (·.1)) xs) with
        | some cells => if es = 0 then none else some ({ val := .a cells }, [], orc)
        | none => none
      | _ => none
    | none => none
  | .buildSlice t len parts => match T t with
    | some i => match i.kind with
      | .slice e es _ => match T e with
        | some ei => if es ≠ 0 ∧ len * es ≤ 2 ^ 24 ∧ ei.zero.length = es then
          match fillS (fun i => some (i * es, es)) ((List.range (len * es)).map fun i => .v (ei.zero.getD (i % es) undef)) (zip1 (parts.toList.map (·.1)) xs) with
          | some cells => if cells.length = len * es then some ({ val := .s fr 0 len es, ups := [(fr, .live true false cells)] }, [], orc) else none
          | none => none
          else none
        | none => none
      | _ => none
    | none => none
  | .load t _ => match xs, bs, T t with
    | [.p k off], [.live own sym cells], some i =>
      match sym with
      | false => if ((cells.drop off).take i.size).length = i.size then
          match mkV i.agg ((cells.drop off).take i.size) with
          | some x => some ({ val := x }, [], orc)
          | none => none
        else none
      | true => match orc with
        | .ld r :: orc => if r.length = i.size then
            match mkV i.agg r with
            | some x => some ({ val := x }, [.pr ((cells.drop off).take i.size = r)], orc)
            | none => none
          else none
        | _ => none
    | _, _, _ => none
  | .store t _ _ => match xs, bs, T t with
    | [.p k off, x], [.live true sym cells], some i =>
      if x.known && x.cells.length == i.size && x.cells.all SV.one then
        match sym with
        | false => if off + i.size ≤ cells.length then some ({ val := .v undef, ups := [(k, .live true false (splice cells off x.cells))] }, [], orc) else none
        | true => if x.cells.all SV.plain then some ({ val := .v undef, ups := [(k, .live true true (splice cells off x.cells))] }, [.pr (off + i.size ≤ cells.length)], orc) else none
      else none
    | _, _, _ => none
  | .fieldAddr t _ f => match xs, T t with
    | [.p k off], some i => match i.kind with
      | .st fs => match placeSt fs f with
        | some fd => some ({ val := .p k (off + fd.1) }, [], orc)
        | none => none
      | _ => none
    | _, _ => none
  | .indexAddr t _ _ => match xs, T t with
    | [.p k off, .v (.int _ n)], some i => match i.kind with
      | .arr len e es => if es = 0 then none else some ({ val := .p k (off + n.toNat * es) }, [.pr (0 ≤ n ∧ n < len)], orc)
      | _ => none
    | [.s k off len es', .v (.int _ n)], some i => match i.kind with
      | .slice e es _ => if es = 0 then none else some ({ val := .p k (off + n.toNat * es) }, [.pr (0 ≤ n ∧ n < len)], orc)
      | _ => none
    | _, _ => none
  | .slice t _ lo hi mx => match lo, hi, mx, xs, bs, T t with
    | none, none, none, [.p k off], [.live own false cells], some i => match i.kind with
      | .arr len e es => if es ≠ 0 ∧ off + len * es ≤ cells.length then some ({ val := .s k off len es }, [], orc) else none
      | _ => none
    | some _, none, none, [.s k off len es', .v (.int _ n)], _, some i => match i.kind with
      | .slice e es _ => if es = es' ∧ es ≠ 0 then some ({ val := .s k (off + n.toNat * es) (len - n.toNat) es }, [.pr (0 ≤ n ∧ n ≤ len)], orc) else none
      | _ => none
    | _, _, _, _, _, _ => none
  | .index t _ _ => match xs, T t with
    | [.a cells, .v (.int _ n)], some i => match i.kind with
      | .arr len e es => match T e with
        | some ei => if es = 0 ∨ ei.size ≠ es then none else if ((cells.drop (n.toNat * es)).take es).length = es then
            match mkV ei.agg ((cells.drop (n.toNat * es)).take es) with
            | some v => some ({ val := v }, [.pr (0 ≤ n ∧ n < len)], orc)
            | none => none
          else none
        | none => none
      | _ => none
    | _, _ => none
  | .binOp op t _ _ _ => match xs with
    | [x, y] => match symBin T op t x y with
      | some (r, obs) => some ({ val := r }, obs, orc)
      | none => none
    | _ => none
  | .unOp op _ _ => match xs with
    | [x] => match symUn op x with
      | some r => some ({ val := r }, [], orc)
      | none => none
    | _ => none
  | .convert src dst _ => match xs, T dst, T src with
    | [.v (.int k n)], some i, some j => match i.kind, j.kind with
      | .int k', .int _ => some ({ val := .v (.int k' (k'.wrap n)) }, [], orc)
      | _, _ => none
    | _, _, _ => none
  | .extract _ i => match xs with
    | [.t l] => match l[i]? with
      | some x => some ({ val := x }, [], orc)
      | none => none
    | _ => none
  | .makeFunc (.func g) first captured => if first.size = 0 then some ({ val := .f g xs }, [], orc) else none
  | .call { callee := .builtin .append, args := _, argTypes := ts } => match symAppend T ts.toList xs bs fr with
    | some (e, obs) => some (e, obs, orc)
    | none => match symAppendL T ts.toList xs bs fr with
      | some (e, obs) => some (e, obs, orc)
      | none => none
  | .call { callee := .builtin b, args := _, argTypes := ts } => match symCallB T b ts.toList xs with
    | some r => some ({ val := r }, [], orc)
    | none => none
  | _ => none

end Go.Aw
