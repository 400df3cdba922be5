/-
  Parts of the proofs of the laws: the executor, what functions of the program compute, and that it is what the statements ask. No premise.
-/
import Derived.Below
import Derived.OrdersIn
import Derived.LoopNIn
import Derived.KernelRfl
import Derived.Laws.Sem
import Derived.Laws.StructEq
import Derived.WalkKit
import Derived.Lib.SliceRun
import Derived.Laws.Cover3
import Derived.Laws.AppendOwn
namespace Go.Aw
open Go.RowKit
set_option linter.unusedVariables false
set_option linter.unusedSimpArgs false

/-- Where a symbolic block lies: block, base, number of cells; none: nil. -/
abbrev Env := Nat → Option (Nat × Nat × Nat)

inductive SV where
  | u
  | b (x : Bool)
  | v (x : Value)
  | p (k off : Nat)
  | s (k off len es : Nat)
  | f (g : Nat) (caps : List SV)
  | a (l : List SV)
  | t (l : List SV)

def iv (n : Int) : SV := .v (.int .i64 n)

mutual
def Rel (ρ : Env) : SV → Value → Prop
  | .u, _ => True
  | .b x, y => y = .bool x
  | .v x, y => y = x
  | .p k off, y => ∃ b o n, ρ k = some (b, o, n) ∧ y = .pointer (some ⟨b, o + off, none⟩)
  | .s k off len es, y => (ρ k = none ∧ len = 0 ∧ y = .slice none 0 0) ∨
      (∃ b o n cap off', ρ k = some (b, o, n) ∧ y = .slice (some ⟨b, o + off', none⟩) len cap ∧ len ≤ cap ∧ off' + cap * es ≤ n ∧ (cap ≠ 0 → off' = off))
  | .f g caps, y => ∃ vs : List Value, y = .func (.func g) #[] vs.toArray ∧ Rels ρ caps vs
  | .a l, y => ∃ vs : List Value, y = .agg vs.toArray ∧ Rels ρ l vs
  | .t l, y => ∃ vs : List Value, y = .tuple vs.toArray ∧ Rels ρ l vs
def Rels (ρ : Env) : List SV → List Value → Prop
  | [], [] => True
  | x :: l, y :: m => Rel ρ x y ∧ Rels ρ l m
  | _, _ => False
end

mutual
/-- The symbolic value names block k. -/
def SV.has (k : Nat) : SV → Prop
  | .p j _ => j = k
  | .s j _ _ _ => j = k
  | .f _ caps => SV.hasl k caps
  | .a l => SV.hasl k l
  | .t l => SV.hasl k l
  | _ => False
def SV.hasl (k : Nat) : List SV → Prop
  | [] => False
  | x :: l => SV.has k x ∨ SV.hasl k l
end

theorem hasl_iff {k : Nat} {l : List SV} : SV.hasl k l ↔ ∃ x ∈ l, SV.has k x := by
  induction l with
  | nil => simp [SV.hasl]
  | cons x l ih => simp [SV.hasl, ih]

mutual
theorem Rel.congr {ρ ρ' : Env} : ∀ (x : SV) (y : Value), (∀ k, x.has k → ρ' k = ρ k) → Rel ρ x y → Rel ρ' x y
  | .u, _, _, _ => by simp [Rel]
  | .b x, y, _, h => by simpa [Rel] using h
  | .v x, y, _, h => by simpa [Rel] using h
  | .p k off, y, he, h => by
    simp only [Rel] at h ⊢
    rw [he k (by simp [SV.has])]; exact h
  | .s k off len es, y, he, h => by
    simp only [Rel] at h ⊢
    rw [he k (by simp [SV.has])]; exact h
  | .f g caps, y, he, h => by
    simp only [Rel] at h ⊢
    obtain ⟨vs, hy, h⟩ := h
    exact ⟨vs, hy, Rels.congr caps vs (fun k hk => he k (by simpa [SV.has] using hk)) h⟩
  | .a l, y, he, h => by
    simp only [Rel] at h ⊢
    obtain ⟨vs, hy, h⟩ := h
    exact ⟨vs, hy, Rels.congr l vs (fun k hk => he k (by simpa [SV.has] using hk)) h⟩
  | .t l, y, he, h => by
    simp only [Rel] at h ⊢
    obtain ⟨vs, hy, h⟩ := h
    exact ⟨vs, hy, Rels.congr l vs (fun k hk => he k (by simpa [SV.has] using hk)) h⟩
theorem Rels.congr {ρ ρ' : Env} : ∀ (l : List SV) (m : List Value), (∀ k, SV.hasl k l → ρ' k = ρ k) → Rels ρ l m → Rels ρ' l m
  | [], [], _, _ => by simp [Rels]
  | [], _ :: _, _, h => by simp [Rels] at h
  | _ :: _, [], _, h => by simp [Rels] at h
  | x :: l, y :: m, he, h => by
    simp only [Rels] at h ⊢
    exact ⟨Rel.congr x y (fun k hk => he k (by simp [SV.hasl, hk])) h.1, Rels.congr l m (fun k hk => he k (by simp [SV.hasl, hk])) h.2⟩
end

theorem Rels.length {ρ : Env} : ∀ {l : List SV} {m : List Value}, Rels ρ l m → l.length = m.length
  | [], [], _ => rfl
  | [], _ :: _, h => by simp [Rels] at h
  | _ :: _, [], h => by simp [Rels] at h
  | _ :: l, _ :: m, h => by simp only [Rels] at h; simp [Rels.length h.2]

theorem Rels.get {ρ : Env} : ∀ {l : List SV} {m : List Value} (i : Nat) {x : SV}, Rels ρ l m → l[i]? = some x → ∃ y, m[i]? = some y ∧ Rel ρ x y
  | [], _, i, _, _, hx => by simp at hx
  | _ :: _, [], _, _, h, _ => by simp [Rels] at h
  | x :: l, y :: m, 0, _, h, hx => by
    simp only [Rels] at h; simp at hx; subst hx; exact ⟨y, by simp, h.1⟩
  | x :: l, y :: m, i + 1, _, h, hx => by
    simp only [Rels] at h; simp at hx
    obtain ⟨y', hy, hr⟩ := Rels.get i h.2 hx
    exact ⟨y', by simpa using hy, hr⟩

theorem Rels.append {ρ : Env} : ∀ {l l' : List SV} {m m' : List Value}, Rels ρ l m → Rels ρ l' m' → Rels ρ (l ++ l') (m ++ m')
  | [], _, [], _, _, h => h
  | [], _, _ :: _, _, h, _ => by simp [Rels] at h
  | _ :: _, _, [], _, h, _ => by simp [Rels] at h
  | _ :: l, _, _ :: m, _, h, h' => by
    simp only [Rels] at h
    simp only [List.cons_append, Rels]; exact ⟨h.1, Rels.append h.2 h'⟩

theorem Rels.take {ρ : Env} : ∀ {l : List SV} {m : List Value} (n : Nat), Rels ρ l m → Rels ρ (l.take n) (m.take n)
  | [], [], n, _ => by simp [Rels]
  | [], _ :: _, _, h => by simp [Rels] at h
  | _ :: _, [], _, h => by simp [Rels] at h
  | _ :: _, _ :: _, 0, _ => by simp [Rels]
  | _ :: l, _ :: m, n + 1, h => by
    simp only [Rels] at h
    simp only [List.take_succ_cons, Rels]; exact ⟨h.1, Rels.take n h.2⟩

theorem Rels.drop {ρ : Env} : ∀ {l : List SV} {m : List Value} (n : Nat), Rels ρ l m → Rels ρ (l.drop n) (m.drop n)
  | [], [], n, _ => by simp [Rels]
  | [], _ :: _, _, h => by simp [Rels] at h
  | _ :: _, [], _, h => by simp [Rels] at h
  | _ :: _, _ :: _, 0, h => h
  | _ :: l, _ :: m, n + 1, h => by
    simp only [Rels] at h
    simp only [List.drop_succ_cons]; exact Rels.drop n h.2

theorem Rels.vals {ρ : Env} : ∀ (l : List Value), Rels ρ (l.map .v) l
  | [] => by simp [Rels]
  | x :: l => by simp only [List.map_cons, Rels, Rel]; exact ⟨trivial, Rels.vals l⟩

/-! ### Blocks -/
inductive BK where
  | un
  | dead
  | live (own sym : Bool) (cells : List SV)

def BK.has (k : Nat) : BK → Prop
  | .live _ _ cells => SV.hasl k cells
  | _ => False

def BK.own : BK → Prop
  | .live true _ _ => True
  | _ => False

/-- Cells that name no block. -/
def Plain (l : List SV) : Prop := ∀ k, ¬ SV.hasl k l

/-- Where a block's cells are not written out, they name no block. -/
def BK.pl : BK → Prop
  | .live _ true cells => Plain cells
  | _ => True

theorem Plain.congr {ρ ρ' : Env} {l : List SV} {m : List Value} (h : Plain l) (hr : Rels ρ l m) : Rels ρ' l m := Rels.congr l m (fun k hk => (h k hk).elim) hr

def BRep (ρ : Env) (M : Nat → Prop) (W : World) (k : Nat) : BK → Prop
  | .un | .dead => True
  | .live true _ cells => (ρ k = none ∧ cells = []) ∨
      ∃ (b : Nat) (vs rest : List Value) (ty : TypeId), ρ k = some (b, 0, (vs ++ rest).length) ∧ M b ∧ Rels ρ cells vs ∧
        W.heap[b]? = some (.cells (vs ++ rest).toArray ty (0, 0))
  | .live false _ cells => (ρ k = none ∧ cells = []) ∨
      ∃ (b o n : Nat) (vs : List Value), ρ k = some (b, o, n) ∧ (vs.length ≤ n ∧ (vs ≠ [] → ¬ M b)) ∧ Rels ρ cells vs ∧
        ∀ (i : Nat) (x : Value), vs[i]? = some x → W.cell? ⟨b, o + i, none⟩ = some x

structure FS where
  sl : Nat → SV
  bk : Nat → BK

/-- The world at the call; how many blocks were handed over, and where they lie; which blocks that lay before may be written. -/
structure Cx where
  w : World
  base : Nat
  ρ : Env
  own : Nat → Prop := fun _ => False

/-- The blocks that may be written: new ones, and those that were handed over for it. -/
def Cx.mine (cx : Cx) (b : Nat) : Prop := cx.w.heap.size ≤ b ∨ cx.own b

/-- All else lies as it lay. -/
structure Kept (w : World) (own : Nat → Prop) (W : World) : Prop where
  os : W.os = w.os
  tape : W.tape = w.tape
  output : W.output = w.output
  size : w.heap.size ≤ W.heap.size
  block : ∀ k, k < w.heap.size → ¬ own k → W.heap[k]? = w.heap[k]?

theorem Kept.refl (w : World) (own : Nat → Prop) : Kept w own w := ⟨rfl, rfl, rfl, Nat.le_refl _, fun _ _ _ => rfl⟩
theorem Kept.grow {w W W' : World} {own : Nat → Prop} (h : Kept w own W) (hb : Below W.heap.size W W') : Kept w own W' :=
  ⟨hb.os.trans h.os, hb.tape.trans h.tape, hb.output.trans h.output, Nat.le_trans h.size hb.size, fun k hk ho => (hb.block k (Nat.lt_of_lt_of_le hk h.size)).trans (h.block k hk ho)⟩
theorem Kept.below {w W : World} (h : Kept w (fun _ => False) W) : Below w.heap.size w W := ⟨h.os, h.tape, h.output, h.size, fun k hk => h.block k hk (fun h => h)⟩
theorem Kept.of_below {w W : World} (own : Nat → Prop) (h : Below w.heap.size w W) : Kept w own W := ⟨h.os, h.tape, h.output, h.size, fun k hk _ => h.block k hk⟩

structure Rep (w0 : Cx) (N : Nat) (D : List Deferred) (ρ : Env) (s : FS) (a : Act) (W : World) : Prop where
  defs : a.defers = D
  size : a.tmps.size = N
  sl : ∀ t, Rel ρ (s.sl t) (a.tmps.getD t undef)
  bk : ∀ k, BRep ρ w0.mine W k (s.bk k)
  apart : ∀ k k' b n b' n', k ≠ k' → (s.bk k).own → (s.bk k').own → ρ k = some (b, 0, n) → ρ k' = some (b', 0, n') → b ≠ b'
  wf1 : ∀ t k, (s.sl t).has k → s.bk k ≠ .un
  wf2 : ∀ j k, (s.bk j).has k → s.bk k ≠ .un
  kept : Kept w0.w w0.own W
  pl : ∀ k, (s.bk k).pl
  old : ∀ i, i < w0.base → ρ i = w0.ρ i ∧ s.bk i ≠ .un

/-- An operation's effect: the value of its slot; the blocks that it changes. -/
structure Eff where
  val : SV
  ups : List (Nat × BK) := []

def upds (f : Nat → BK) : List (Nat × BK) → Nat → BK
  | [] => f
  | (k, x) :: l => upds (fun j => if j = k then x else f j) l

def FS.app (s : FS) (dst : Option Nat) (e : Eff) : FS :=
  { sl := match dst with
      | some d => fun t => if t = d then e.val else s.sl t
      | none => s.sl
    bk := upds s.bk e.ups }

/-! ### The world grows: whatever lay there stays -/
theorem cell_below {n : Nat} {W W' : World} (h : Below n W W') {b o : Nat} (hb : b < n) : W'.cell? ⟨b, o, none⟩ = W.cell? ⟨b, o, none⟩ := by
  simp only [World.cell?, h.block b hb]

theorem heap_lt {W : World} {b : Nat} {o : Obj} (h : W.heap[b]? = some o) : b < W.heap.size := (Array.getElem?_eq_some_iff.1 h).1

theorem cell_lt {W : World} {b o : Nat} {x : Value} (h : W.cell? ⟨b, o, none⟩ = some x) : b < W.heap.size := World.block_lt_of_cell? W ⟨b, o, none⟩ h

theorem BRep.grow {ρ : Env} {M : Nat → Prop} {W W' : World} {k : Nat} {x : BK} (h : BRep ρ M W k x) (hb : Below W.heap.size W W') : BRep ρ M W' k x := by
  cases x with
  | un => trivial
  | dead => trivial
  | live own sym cells =>
    cases own with
    | true =>
      rcases h with h | ⟨b, vs, rest, ty, h1, h2, h3, h4⟩
      · exact .inl h
      · exact .inr ⟨b, vs, rest, ty, h1, h2, h3, by rw [hb.block b (heap_lt h4)]; exact h4⟩
    | false =>
      rcases h with h | ⟨b, o, n, vs, h1, h2, h3, h4⟩
      · exact .inl h
      · refine .inr ⟨b, o, n, vs, h1, h2, h3, fun i x hx => ?_⟩
        rw [cell_below hb (cell_lt (h4 i x hx))]; exact h4 i x hx

theorem BRep.congr {ρ ρ' : Env} {M : Nat → Prop} {W : World} {k : Nat} {x : BK} (hk : ρ' k = ρ k) (hx : ∀ j, x.has j → ρ' j = ρ j) (h : BRep ρ M W k x) : BRep ρ' M W k x := by
  cases x with
  | un => trivial
  | dead => trivial
  | live own sym cells =>
    cases own with
    | true =>
      rcases h with h | ⟨b, vs, rest, ty, h1, h2, h3, h4⟩
      · exact .inl ⟨hk.trans h.1, h.2⟩
      · exact .inr ⟨b, vs, rest, ty, hk.trans h1, h2, Rels.congr _ _ hx h3, h4⟩
    | false =>
      rcases h with h | ⟨b, o, n, vs, h1, h2, h3, h4⟩
      · exact .inl ⟨hk.trans h.1, h.2⟩
      · exact .inr ⟨b, o, n, vs, hk.trans h1, h2, Rels.congr _ _ hx h3, h4⟩

theorem Rep.size_le {w0 : Cx} {N : Nat} {D : List Deferred} {ρ : Env} {s : FS} {a : Act} {W : World} (h : Rep w0 N D ρ s a W) : w0.w.heap.size ≤ W.heap.size := h.kept.size

/-- The world has grown: the state stands for it as before. -/
theorem Rep.grow {w0 : Cx} {N : Nat} {D : List Deferred} {ρ : Env} {s : FS} {a : Act} {W W' : World} (h : Rep w0 N D ρ s a W) (hb : Below W.heap.size W W') : Rep w0 N D ρ s a W' :=
  { h with bk := fun k => (h.bk k).grow hb, kept := h.kept.grow hb }

theorem has_val {k : Nat} {x : Value} : ¬ (SV.v x).has k := by simp [SV.has]

/-- A value goes into a slot. -/
theorem Rep.put {w0 : Cx} {N : Nat} {D : List Deferred} {ρ : Env} {s : FS} {a : Act} {W : World} (h : Rep w0 N D ρ s a W) (dst : Option Nat) (hd : ∀ d, dst = some d → d < N)
    {x : SV} {y : Value} (hx : Rel ρ x y) (hw : ∀ k, x.has k → s.bk k ≠ .un) : Rep w0 N D ρ (s.app dst { val := x }) (a.put dst y) W := by
  cases dst with
  | none => exact h
  | some d =>
    have hdN := hd d rfl
    refine { defs := h.defs, size := by simp [Act.put, h.size], sl := fun t => ?_, bk := h.bk, apart := h.apart, wf1 := fun t k hk => ?_, wf2 := h.wf2, kept := h.kept, pl := h.pl, old := h.old }
    · simp only [FS.app, Act.put]
      by_cases ht : t = d
      · subst ht
        have : t < a.tmps.size := by rw [h.size]; exact hdN
        simp [this, hx]
      · rw [if_neg ht]
        have : (a.tmps.setIfInBounds d y).getD t undef = a.tmps.getD t undef := by
          simp only [Array.getD_eq_getD_getElem?, Array.getElem?_setIfInBounds]
          rw [if_neg (fun e => ht e.symm)]
        rw [this]; exact h.sl t
    · simp only [FS.app] at hk ⊢
      by_cases ht : t = d
      · rw [if_pos ht] at hk; exact hw k hk
      · rw [if_neg ht] at hk; exact h.wf1 t k hk

/-- A new block. -/
theorem Rep.new {w0 : Cx} {N : Nat} {D : List Deferred} {ρ : Env} {s : FS} {a : Act} {W : World} (h : Rep w0 N D ρ s a W) {k : Nat} (hk : s.bk k = .un)
    {cells : List SV} {vs rest : List Value} (sym : Bool) (ty : TypeId) (hc : Rels ρ cells vs) (hw : ∀ j, SV.hasl j cells → s.bk j ≠ .un) (hpl : (BK.live true sym cells).pl) :
    Rep w0 N D (fun j => if j = k then some (W.heap.size, 0, (vs ++ rest).length) else ρ j) (s.app none { val := .u, ups := [(k, .live true sym cells)] }) a
      { W with heap := W.heap.push (.cells (vs ++ rest).toArray ty) } := by
  have hne : ∀ j, s.bk j ≠ .un → (if j = k then some (W.heap.size, 0, (vs ++ rest).length) else ρ j) = ρ j := fun j hj => by
    rw [if_neg (fun e : j = k => hj (by rw [e]; exact hk))]
  have hbel : Below W.heap.size W { W with heap := W.heap.push (.cells (vs ++ rest).toArray ty) } :=
    ⟨rfl, rfl, rfl, by simp, fun i hi => by simp [Array.getElem?_push, Nat.ne_of_lt hi]⟩
  have h' := h.grow hbel
  refine { defs := h.defs, size := h.size, sl := fun t => Rel.congr _ _ (fun j hj => hne j (h.wf1 t j hj)) (h.sl t), bk := fun j => ?_, apart := ?_, wf1 := fun t j hj => ?_, wf2 := fun i j hj => ?_, kept := h'.kept, pl := fun j => (by simp only [FS.app, upds]; split; exact hpl; exact h.pl j), old := fun i hi => ⟨(hne i (h.old i hi).2).trans (h.old i hi).1, ?_⟩ }
  · simp only [FS.app, upds]
    by_cases hj : j = k
    · subst hj
      rw [if_pos rfl]
      refine .inr ⟨W.heap.size, vs, rest, ty, by simp, .inl h.size_le, Rels.congr _ _ (fun i hi => hne i (hw i hi)) hc, by simp⟩
    · rw [if_neg hj]
      exact BRep.congr (by simp [hj]) (fun i hi => hne i (h.wf2 j i hi)) (h'.bk j)
  · intro i j b n b' n' hij hi hj e1 e2
    simp only [FS.app, upds] at hi hj
    have lt : ∀ i b n, i ≠ k → (s.bk i).own → ρ i = some (b, 0, n) → b < W.heap.size := fun i b n hik hi e1 => by
      have := h.bk i
      cases hb : s.bk i with
      | un => rw [hb] at hi; exact hi.elim
      | dead => rw [hb] at hi; exact hi.elim
      | live own sy cs =>
        rw [hb] at hi this
        cases own with
        | false => exact hi.elim
        | true =>
          rcases this with ⟨e, _⟩ | ⟨b₁, vs₁, rest₁, ty₁, e, _, _, h4⟩
          · rw [e1] at e; cases e
          · rw [e1] at e; cases e; exact heap_lt h4
    by_cases hik : i = k
    · have hjk : j ≠ k := fun e => hij (hik.trans e.symm)
      rw [if_pos hik] at e1 hi
      rw [if_neg hjk] at e2 hj
      cases e1
      exact Nat.ne_of_gt (lt j b' n' hjk hj e2)
    · rw [if_neg hik] at e1 hi
      by_cases hjk : j = k
      · rw [if_pos hjk] at e2
        cases e2
        exact Nat.ne_of_lt (lt i b n hik hi e1)
      · rw [if_neg hjk] at e2 hj
        exact h.apart i j b n b' n' hij hi hj e1 e2
  · simp only [FS.app, upds]
    by_cases hjk : j = k
    · rw [if_pos hjk]; simp
    · rw [if_neg hjk]; exact h.wf1 t j hj
  · simp only [FS.app, upds] at hj ⊢
    have hj' : s.bk j ≠ .un := by
      by_cases hik : i = k
      · rw [if_pos hik] at hj; exact hw j hj
      · rw [if_neg hik] at hj; exact h.wf2 i j hj
    by_cases hjk : j = k
    · rw [if_pos hjk]; simp
    · rw [if_neg hjk]; exact hj'
  · simp only [FS.app, upds]
    by_cases hik : i = k
    · rw [if_pos hik]; simp
    · rw [if_neg hik]; exact (h.old i hi).2

end Go.Aw

namespace Go.Aw
open Go.RowKit
set_option linter.unusedVariables false
set_option linter.unusedSimpArgs false

theorem add_eq (b off i : Nat) : (Addr.mk b off none).add i = ⟨b, off + i, none⟩ := by
  unfold Addr.add; split <;> simp_all

def SV.known : SV → Bool
  | .u => false
  | _ => true

/-- One cell. -/
def SV.one : SV → Bool
  | .u | .a _ | .t _ => false
  | .v x => x.oneCell'
  | _ => true

def SV.cells : SV → List SV
  | .a l => l
  | .v (.agg cs) => cs.toList.map .v
  | x => [x]

theorem Rel.cells {ρ : Env} {x : SV} {y : Value} (h : Rel ρ x y) (hk : x.known = true) : Rels ρ x.cells y.cells.toList := by
  cases x with
  | u => simp [SV.known] at hk
  | b x => simp only [Rel] at h; subst h; simp [SV.cells, Value.cells, Rels, Rel]
  | v x =>
    simp only [Rel] at h; subst h
    cases y <;> first
      | (simp only [SV.cells, Value.cells]; exact Rels.vals _)
      | simp [SV.cells, Value.cells, Rels, Rel]
  | p k off =>
    have h' := h
    simp only [Rel] at h; obtain ⟨b, o, n, h1, rfl⟩ := h
    simp only [SV.cells, Value.cells, Rels]; exact ⟨h', trivial⟩
  | s k off len es =>
    have h' := h
    simp only [Rel] at h
    rcases h with ⟨h1, h2, rfl⟩ | ⟨b, o, n, cap, off', h1, rfl, h2⟩ <;> (simp only [SV.cells, Value.cells, Rels]; exact ⟨h', trivial⟩)
  | f g caps =>
    have h' := h
    simp only [Rel] at h; obtain ⟨vs, rfl, h⟩ := h
    simp only [SV.cells, Value.cells, Rels]; exact ⟨h', trivial⟩
  | a l => simp only [Rel] at h; obtain ⟨vs, rfl, h⟩ := h; simpa [SV.cells, Value.cells] using h
  | t l =>
    have h' := h
    simp only [Rel] at h; obtain ⟨vs, rfl, h⟩ := h
    simp only [SV.cells, Value.cells, Rels]; exact ⟨h', trivial⟩

theorem Rel.one {ρ : Env} {x : SV} {y : Value} (h : Rel ρ x y) (hk : x.one = true) : y.oneCell' = true := by
  cases x <;> simp only [Rel] at h <;> simp only [SV.one] at hk
  case b x => subst h; rfl
  case v x => subst h; exact hk
  case p => obtain ⟨b, o, n, h1, rfl⟩ := h; rfl
  case s => rcases h with ⟨h1, h2, rfl⟩ | ⟨b, o, n, cap, off', h1, rfl, h2⟩ <;> rfl
  case f => obtain ⟨vs, rfl, h⟩ := h; rfl
  all_goals cases hk

theorem Rels.ones {ρ : Env} : ∀ {l : List SV} {m : List Value}, Rels ρ l m → l.all SV.one = true → ∀ v ∈ m, v.oneCell' = true
  | [], [], _, _ => by simp
  | [], _ :: _, h, _ => by simp [Rels] at h
  | _ :: _, [], h, _ => by simp [Rels] at h
  | x :: l, y :: m, h, ho => by
    simp only [Rels] at h
    simp only [List.all_cons, Bool.and_eq_true] at ho
    intro v hv
    rcases List.mem_cons.1 hv with rfl | hv
    · exact Rel.one h.1 ho.1
    · exact Rels.ones h.2 ho.2 v hv

theorem has_cells {k : Nat} {x : SV} : SV.hasl k x.cells → x.has k := by
  cases x <;> simp only [SV.cells, SV.hasl, SV.has, or_false, imp_self]
  case v x =>
    intro h
    cases x <;> simp only [SV.cells, SV.hasl, SV.has, or_false] at h
    rw [hasl_iff] at h
    obtain ⟨z, hz, hk⟩ := h
    obtain ⟨q, _, rfl⟩ := List.mem_map.1 hz
    exact (has_val hk).elim

/-! ### Reading -/
theorem BRep.read {ρ : Env} {M : Nat → Prop} {W : World} {k : Nat} {own sym : Bool} {cells : List SV} (h : BRep ρ M W k (.live own sym cells)) :
    (ρ k = none ∧ cells = []) ∨ ∃ (b o n : Nat) (vs : List Value), ρ k = some (b, o, n) ∧ (Rels ρ cells vs ∧ vs.length ≤ n) ∧ (own = true → o = 0 ∧ M b ∧ b < W.heap.size) ∧
      ∀ (i : Nat) (x : Value), vs[i]? = some x → W.cell? ⟨b, o + i, none⟩ = some x := by
  cases own with
  | true =>
    rcases h with h | ⟨b, vs, rest, ty, h1, h2, h3, h4⟩
    · exact .inl h
    · refine .inr ⟨b, 0, _, vs, h1, ⟨h3, by simp⟩, fun _ => ⟨rfl, h2, heap_lt h4⟩, fun i x hx => ?_⟩
      have hi : i < vs.length := (List.getElem?_eq_some_iff.1 hx).1
      simp [World.cell?, h4, List.getElem?_append_left hi, hx]
  | false =>
    rcases h with h | ⟨b, o, n, vs, h1, h2, h3, h4⟩
    · exact .inl h
    · exact .inr ⟨b, o, n, vs, h1, ⟨h3, h2.1⟩, (fun h => by cases h), h4⟩

theorem run_loadCells {P : Program} {W : World} {b o : Nat} : ∀ (vs : List Value) (i : Nat) (acc : Array Value),
    (∀ (j : Nat) (x : Value), vs[j]? = some x → W.cell? ⟨b, o + (i + j), none⟩ = some x) → (loadCellsFrom ⟨b, o, none⟩ i vs.length acc).run P W = .ok (acc ++ vs.toArray) W
  | [], i, acc, _ => by simp [loadCellsFrom]
  | v :: vs, i, acc, h => by
    have h0 := h 0 v (by simp)
    simp only [List.length_cons, loadCellsFrom, Sem.run_bind, run_load, add_eq]
    rw [show o + i = o + (i + 0) by omega, h0]
    simp only [Result.andThen_ok]
    rw [run_loadCells vs (i + 1) (acc.push v) (fun j x hx => by
      have := h (j + 1) x (by simpa using hx)
      rw [show i + 1 + j = i + (j + 1) by omega]; exact this)]
    congr 1
    apply Array.ext'; simp

/-! ### Storing -/
def splice {α : Type} (l : List α) (off : Nat) (m : List α) : List α := l.take off ++ m ++ l.drop (off + m.length)

/-- Block b alone has been turned: it holds these cells now. -/
structure Turned (W W' : World) (b : Nat) (cells : List Value) (ty : TypeId) : Prop where
  os : W'.os = W.os
  tape : W'.tape = W.tape
  output : W'.output = W.output
  size : W'.heap.size = W.heap.size
  other : ∀ j, j ≠ b → W'.heap[j]? = W.heap[j]?
  this : W'.heap[b]? = some (.cells cells.toArray ty (0, 0))

theorem Turned.setCell {W : World} {b i : Nat} {cells : List Value} {ty : TypeId} {v : Value} (h : W.heap[b]? = some (.cells cells.toArray ty (0, 0))) (hi : i < cells.length) :
    Turned W (W.setCell ⟨b, i, none⟩ v) b (cells.set i v) ty := by
  refine ⟨rfl, rfl, rfl, by simp [World.setCell], fun j hj => ?_, ?_⟩
  · simp only [World.setCell, Array.getElem?_modify]; rw [if_neg (fun e => hj e.symm)]
  · simp only [World.setCell, Array.getElem?_modify, if_pos, h]
    simp

theorem run_storeCells {P : Program} {b o : Nat} {ty : TypeId} : ∀ (vs : List Value) (i : Nat) (W : World) (cells : List Value), W.heap[b]? = some (.cells cells.toArray ty (0, 0)) →
    (∀ v ∈ vs, v.oneCell' = true) → o + i + vs.length ≤ cells.length →
    ∃ W', (storeCells ⟨b, o, none⟩ vs i).run P W = .ok () W' ∧ Turned W W' b (splice cells (o + i) vs) ty
  | [], i, W, cells, h, _, hl => ⟨W, by simp [storeCells], ⟨rfl, rfl, rfl, rfl, fun _ _ => rfl, by rw [h]; simp [splice]⟩⟩
  | v :: vs, i, W, cells, h, hv, hl => by
    have hv0 : v.oneCell' = true := hv v (by simp)
    simp only [List.length_cons] at hl
    have hi : o + i < cells.length := by omega
    have hc : W.cell? ⟨b, o + i, none⟩ = some cells[o + i] := by simp [World.cell?, h, hi]
    have hf : W.frozen? ⟨b, o + i, none⟩ = false := by simp [World.frozen?, h]
    have ht := Turned.setCell (v := v) h hi
    obtain ⟨W', hr, h'⟩ := run_storeCells (P := P) (b := b) (o := o) (ty := ty) vs (i + 1) (W.setCell ⟨b, o + i, none⟩ v) (cells.set (o + i) v) ht.this (fun x hx => hv x (by simp [hx])) (by simp; omega)
    refine ⟨W', ?_, ?_⟩
    · simp only [storeCells, Sem.run_bind, add_eq, run_store _ _ _ _ _ hv0, hc, hf, Bool.false_eq_true, if_false, Result.andThen_ok]
      exact hr
    · refine ⟨h'.os.trans ht.os, h'.tape.trans ht.tape, h'.output.trans ht.output, h'.size.trans ht.size, fun j hj => (h'.other j hj).trans (ht.other j hj), ?_⟩
      rw [h'.this]
      have : splice (cells.set (o + i) v) (o + (i + 1)) vs = splice cells (o + i) (v :: vs) := by
        unfold splice
        rw [show o + (i + 1) = (o + i) + 1 by omega, List.take_add_one]
        simp only [List.take_set_of_le (Nat.le_refl _), List.getElem?_set_self hi, Option.toList_some, List.append_assoc, List.cons_append, List.nil_append, List.length_cons]
        rw [List.drop_set_of_lt (by omega)]
        rw [show o + i + 1 + vs.length = o + i + (vs.length + 1) by omega]
      rw [this]

theorem Rels.splice {ρ : Env} {l m : List SV} {l' m' : List Value} (off : Nat) (h : Rels ρ l l') (h' : Rels ρ m m') : Rels ρ (Aw.splice l off m) (Aw.splice l' off m') := by
  unfold Aw.splice
  rw [h'.length]
  exact Rels.append (Rels.append (Rels.take _ h) h') (Rels.drop _ h)

theorem splice_append {α : Type} {l r : List α} {off : Nat} {m : List α} (h : off + m.length ≤ l.length) : splice (l ++ r) off m = splice l off m ++ r := by
  unfold splice
  rw [List.take_append_of_le_length (by omega), List.drop_append_of_le_length h]
  simp [List.append_assoc]

theorem splice_length {α : Type} {l : List α} {off : Nat} {m : List α} (h : off + m.length ≤ l.length) : (splice l off m).length = l.length := by
  unfold splice; simp; omega

/-- An own block has been turned. -/
theorem Rep.turn {w0 : Cx} {N : Nat} {D : List Deferred} {ρ : Env} {s : FS} {a : Act} {W W' : World} (h : Rep w0 N D ρ s a W) {k b : Nat} {sym : Bool} {cells cells' : List SV}
    {vs' rest : List Value} {ty : TypeId} (hk : s.bk k = .live true sym cells) (hρ : ρ k = some (b, 0, (vs' ++ rest).length)) (hb0 : w0.mine b)
    (hc : Rels ρ cells' vs') (hw : ∀ j, SV.hasl j cells' → s.bk j ≠ .un) (hpl : (BK.live true sym cells').pl) (ht : Turned W W' b (vs' ++ rest) ty) :
    Rep w0 N D ρ (s.app none { val := .u, ups := [(k, .live true sym cells')] }) a W' := by
  have hown : (s.bk k).own := by rw [hk]; trivial
  refine { defs := h.defs, size := h.size, sl := h.sl, bk := fun j => ?_, apart := fun i j b1 n1 b2 n2 hij hi hj => ?_, wf1 := fun t j hj => ?_, wf2 := fun i j hj => ?_, kept := ?_, pl := fun j => (by simp only [FS.app, upds]; split; exact hpl; exact h.pl j), old := fun i hi => ⟨(h.old i hi).1, ?_⟩ }
  · simp only [FS.app, upds]
    by_cases hj : j = k
    · subst hj; rw [if_pos rfl]
      exact .inr ⟨b, vs', rest, ty, hρ, hb0, hc, ht.this⟩
    · rw [if_neg hj]
      have hb := h.bk j
      cases hx : s.bk j with
      | un => trivial
      | dead => trivial
      | live own sy cs =>
        rw [hx] at hb
        cases own with
        | true =>
          rcases hb with hb | ⟨b₁, vs₁, rest₁, ty₁, e1, e2, e3, e4⟩
          · exact .inl hb
          · refine .inr ⟨b₁, vs₁, rest₁, ty₁, e1, e2, e3, ?_⟩
            rw [ht.other b₁ (h.apart j k b₁ _ b _ hj (by rw [hx]; trivial) hown e1 hρ)]; exact e4
        | false =>
          rcases hb with hb | ⟨b₁, o, n, vs₁, e1, e2, e3, e4⟩
          · exact .inl hb
          · refine .inr ⟨b₁, o, n, vs₁, e1, e2, e3, fun i x hx => ?_⟩
            have hne : vs₁ ≠ [] := by rintro rfl; simp at hx
            have hnm := e2.2 hne
            have := e4 i x hx
            simp only [World.cell?] at this ⊢
            rw [ht.other b₁ (fun e => hnm (by rw [e]; exact hb0))]; exact this
  · simp only [FS.app, upds] at hi hj
    have fix : ∀ i, (if i = k then BK.live true sym cells' else s.bk i).own → (s.bk i).own := fun i hi => by
      by_cases hik : i = k
      · subst hik; exact hown
      · rwa [if_neg hik] at hi
    exact h.apart i j b1 n1 b2 n2 hij (fix i hi) (fix j hj)
  · simp only [FS.app, upds]
    by_cases hjk : j = k
    · rw [if_pos hjk]; simp
    · rw [if_neg hjk]; exact h.wf1 t j hj
  · simp only [FS.app, upds] at hj ⊢
    have hj' : s.bk j ≠ .un := by
      by_cases hik : i = k
      · rw [if_pos hik] at hj; exact hw j hj
      · rw [if_neg hik] at hj; exact h.wf2 i j hj
    by_cases hjk : j = k
    · rw [if_pos hjk]; simp
    · rw [if_neg hjk]; exact hj'
  · exact ⟨ht.os.trans h.kept.os, ht.tape.trans h.kept.tape, ht.output.trans h.kept.output, by rw [ht.size]; exact h.kept.size, fun j hj ho => (ht.other j (fun e => (by rw [← e] at hb0; exact hb0.elim (Nat.not_le_of_lt hj) ho))).trans (h.kept.block j hj ho)⟩
  · simp only [FS.app, upds]
    by_cases hik : i = k
    · rw [if_pos hik]; simp
    · rw [if_neg hik]; exact (h.old i hi).2

end Go.Aw

namespace Go.Aw
open Go.RowKit
set_option linter.unusedVariables false
set_option linter.unusedSimpArgs false

inductive TK where
  | int (k : IntKind) | bool | str
  | slice (e es bytes : Nat)
  | arr (n e es : Nat)
  | st (fs : List (Nat × Nat × Nat))     -- offset, type, size
  | other

structure TI where
  size : Nat
  bytes : Nat
  zero : List Value
  agg : Bool
  eqok : Bool
  kind : TK

def isAggD : TypeDesc → Bool
  | .struct _ | .array _ _ => true
  | _ => false

def kindOf (P : Program) : TypeDesc → TK
  | .int k => .int k
  | .bool => .bool
  | .string => .str
  | .slice e => .slice e (P.cellsOf e) (P.bytesOf e)
  | .array n e => .arr n e (P.cellsOf e)
  | .struct fs => .st (fs.toList.map fun f => (f.offset, f.type, P.cellsOf f.type))
  | _ => .other

def noBlank : TypeDesc → Bool
  | .struct fs => fs.toList.all fun f => f.name != "_"
  | _ => true

def conv (P : Program) (t : Nat) : Option TI :=
  match P.info? t, P.underlying t with
  | some i, some d =>
    match i.zero with
    | some z => some { size := i.size, bytes := i.bytes, zero := z.cells.toList, agg := isAggD d, eqok := !P.stoodInHeld t && !P.eqGuardType P.depth t && noBlank d, kind := kindOf P d }
    | none => none
  | _, _ => none

/-- A table of types that is the program's. -/
def TOk (P : Program) (T : Nat → Option TI) : Prop := ∀ t i, T t = some i → conv P t = some i

theorem conv_spec {P : Program} {t : Nat} {i : TI} (h : conv P t = some i) : ∃ (n : TypeInfo) (d : TypeDesc) (z : Value), P.info? t = some n ∧ P.underlying t = some d ∧ n.zero = some z ∧
    i = { size := n.size, bytes := n.bytes, zero := z.cells.toList, agg := isAggD d, eqok := !P.stoodInHeld t && !P.eqGuardType P.depth t && noBlank d, kind := kindOf P d } := by
  unfold conv at h
  split at h
  · rename_i n d h1 h2
    split at h
    · rename_i z hz
      simp only [Option.some.injEq] at h
      exact ⟨n, d, z, h1, h2, hz, h.symm⟩
    · cases h
  · cases h

theorem run_typeInfo' {P : Program} {t : Nat} {n : TypeInfo} (h : P.info? t = some n) (W : World) : (typeInfo t).run P W = .ok n W := by simp [typeInfo, h]
theorem run_underlying' {P : Program} {t : Nat} {d : TypeDesc} (h : P.underlying t = some d) (W : World) : (underlying t).run P W = .ok d W := by simp [underlying, h]
theorem run_sizeOf' {P : Program} {t : Nat} {n : TypeInfo} (h : P.info? t = some n) (W : World) : (sizeOf t).run P W = .ok n.size W := by simp [sizeOf, run_typeInfo' h]
theorem run_zeroValue' {P : Program} {t : Nat} {n : TypeInfo} {z : Value} (h : P.info? t = some n) (hz : n.zero = some z) (W : World) : (zeroValue t).run P W = .ok z W := by simp [zeroValue, run_typeInfo' h, hz]
theorem run_isAgg' {P : Program} {t : Nat} {d : TypeDesc} (h : P.underlying t = some d) (W : World) : (isAgg t).run P W = .ok (isAggD d) W := by
  simp only [isAgg, Sem.run_bind, run_underlying' h, Result.andThen_ok]
  cases d <;> rfl

theorem cellsOf_run {P : Program} {t : Nat} (h : P.cellsOf t ≠ 0) (W : World) : (sizeOf t).run P W = .ok (P.cellsOf t) W := by
  unfold Program.cellsOf at h ⊢
  cases hi : P.info? t with
  | none => simp [hi] at h
  | some n => simp [run_sizeOf' hi]

/-! ### Obligations and the oracle -/
inductive Ob where
  | eq (b c : Bool)
  | pr (p : Prop)
  | call (f : Nat) (args : List SV) (bs : List BK) (res : SV) (nb : List BK) (mb : List BK := [])

inductive Or where
  | d (b : Bool)
  | ld (cells : List SV)
  | call (ks : List Nat) (res : SV) (nb : List BK) (mb : List BK := [])
  | un (m : Nat)
  | stop (id : Nat)

/-- Values of operands. -/
def ev (sl : Nat → SV) : Operand → SV
  | .tmp t => sl t
  | .const (.bool b) => .b b
  | .const v => .v v
  | .global g => .v (.pointer (some ⟨g, 0, none⟩))
  | .func f => .v (.func (.func f) #[] #[])

theorem ev_rel {w0 : Cx} {N : Nat} {D : List Deferred} {ρ : Env} {s : FS} {a : Act} {W : World} (h : Rep w0 N D ρ s a W) (x : Operand) : Rel ρ (ev s.sl x) (a.eval x) := by
  cases x with
  | tmp t => exact h.sl t
  | const v => cases v <;> simp [ev, Rel, Act.eval]
  | global g => simp [ev, Rel, Act.eval]
  | func f => simp [ev, Rel, Act.eval]

theorem ev_wf {w0 : Cx} {N : Nat} {D : List Deferred} {ρ : Env} {s : FS} {a : Act} {W : World} (h : Rep w0 N D ρ s a W) (x : Operand) (k : Nat) (hk : (ev s.sl x).has k) : s.bk k ≠ .un := by
  cases x with
  | tmp t => exact h.wf1 t k hk
  | const v => cases v <;> simp [ev, SV.has] at hk
  | global g => simp [ev, SV.has] at hk
  | func f => simp [ev, SV.has] at hk

/-! ### Plain operations on numbers -/
def binV (op : BinOp) (k : IntKind) (a b : Int) : Option (SV × List Ob) :=
  match op with
  | .add => some (.v (.int k (k.wrap (a + b))), [])
  | .sub => some (.v (.int k (k.wrap (a - b))), [])
  | .mul => some (.v (.int k (k.wrap (a * b))), [])
  | .quo => some (.v (.int k (k.wrap (a.tdiv b))), [.pr (b ≠ 0)])
  | .rem => some (.v (.int k (a.tmod b)), [.pr (b ≠ 0)])
  | .eql => some (.v (.bool (a == b)), [])
  | .neq => some (.v (.bool (a != b)), [])
  | .lss => some (.v (.bool (a < b)), [])
  | .leq => some (.v (.bool (a ≤ b)), [])
  | .gtr => some (.v (.bool (a > b)), [])
  | .geq => some (.v (.bool (a ≥ b)), [])
  | .shl => some (.v (.int k (k.wrap (a * 2 ^ (min b.toNat k.bits)))), [.pr (0 ≤ b)])
  | .shr => some (.v (.int k (a.fdiv (2 ^ (min b.toNat k.bits)))), [.pr (0 ≤ b)])
  | .and => some (.v (.int k (k.wrap (BitVec.ofInt k.bits a &&& BitVec.ofInt k.bits b).toNat)), [])
  | .or => some (.v (.int k (k.wrap (BitVec.ofInt k.bits a ||| BitVec.ofInt k.bits b).toNat)), [])
  | .xor => some (.v (.int k (k.wrap (BitVec.ofInt k.bits a ^^^ BitVec.ofInt k.bits b).toNat)), [])
  | _ => none

/-- Equality of the cells of two values of a type. -/
def eqC (T : Nat → Option TI) : Nat → Nat → List SV → List SV → Option Bool
  | 0, _, _, _ => none
  | d + 1, t, xs, ys =>
    match T t with
    | none => none
    | some i =>
      match i.kind with
      | .int _ =>
        match xs, ys with
        | [.v (.int k a)], [.v (.int k' b)] => if k = k' then some (a == b) else none
        | _, _ => none
      | .bool =>
        match xs, ys with
        | [.v (.bool a)], [.v (.bool b)] => some (a == b)
        | [.b a], [.v (.bool b)] => some (a == b)
        | [.v (.bool a)], [.b b] => some (a == b)
        | [.b a], [.b b] => some (a == b)
        | _, _ => none
      | .st fs =>
        match i.eqok with
        | true => fs.foldr (fun f r => if ((xs.drop f.1).take f.2.2).length = f.2.2 ∧ ((ys.drop f.1).take f.2.2).length = f.2.2 ∧ f.2.2 ≠ 0 then
            match eqC T d f.2.1 ((xs.drop f.1).take f.2.2) ((ys.drop f.1).take f.2.2), r with
            | some x, some y => some (x && y)
            | _, _ => none
          else none) (some true)
        | false => none
      | _ => none

/-- Parts go into cells. -/
def fillS (place : Nat → Option (Nat × Nat)) : List SV → List (Nat × SV) → Option (List SV)
  | cells, [] => some cells
  | cells, (i, x) :: rest =>
    match place i with
    | none => none
    | some (off, size) => if x.known && x.cells.length == size && decide (off + size ≤ cells.length) then fillS place (splice cells off x.cells) rest else none

theorem foldl_set_eq (off : Nat) : ∀ (vs : List Value) (j : Nat) (cs : Array Value), off + j + vs.length ≤ cs.size →
    (vs.zipIdx j).foldl (fun cs (c, j) => cs.setIfInBounds (off + j) c) cs = (splice cs.toList (off + j) vs).toArray
  | [], j, cs, _ => by simp [splice]
  | v :: vs, j, cs, h => by
    simp only [List.length_cons] at h
    simp only [List.zipIdx_cons, List.foldl_cons]
    rw [foldl_set_eq off vs (j + 1) _ (by simp; omega)]
    congr 1
    unfold splice
    rw [show off + (j + 1) = (off + j) + 1 by omega, List.take_add_one]
    simp only [Array.toList_setIfInBounds, List.take_set_of_le (Nat.le_refl _), List.length_cons]
    rw [List.getElem?_set_self (by simp; omega)]
    simp only [Option.toList_some, List.append_assoc, List.cons_append, List.nil_append]
    rw [List.drop_set_of_lt (by omega)]
    rw [show off + j + 1 + vs.length = off + j + (vs.length + 1) by omega]

theorem fill_ok {ρ : Env} {place : Nat → Option (Nat × Nat)} : ∀ (ps : List (Nat × SV)) (qs : List (Nat × Value)) (cells : List SV) (cs : List Value) (r : List SV),
    ps.map (·.1) = qs.map (·.1) → Rels ρ (ps.map (·.2)) (qs.map (·.2)) → Rels ρ cells cs → fillS place cells ps = some r →
    ∃ vs, Instr.fill place cs.toArray qs = some vs.toArray ∧ Rels ρ r vs
  | [], [], cells, cs, r, _, _, hc, h => by simp only [fillS, Option.some.injEq] at h; subst h; exact ⟨cs, rfl, hc⟩
  | [], _ :: _, _, _, _, h, _, _, _ => by simp at h
  | _ :: _, [], _, _, _, h, _, _, _ => by simp at h
  | (i, x) :: ps, (j, y) :: qs, cells, cs, r, h, hr, hc, hf => by
    simp only [List.map_cons, List.cons.injEq] at h
    obtain ⟨rfl, h⟩ := h
    simp only [List.map_cons, Rels] at hr
    simp only [fillS] at hf
    simp only [Instr.fill]
    cases hp : place i with
    | none => rw [hp] at hf; cases hf
    | some os =>
      obtain ⟨off, size⟩ := os
      rw [hp] at hf
      simp only at hf
      split at hf
      · rename_i hcond
        simp only [Bool.and_eq_true, beq_iff_eq, decide_eq_true_eq] at hcond
        obtain ⟨⟨hk, hl⟩, ho⟩ := hcond
        have hxc := Rel.cells hr.1 hk
        have hsz : y.cells.size = size := by rw [← hl, hxc.length]; simp
        have hlen := hc.length
        have : ¬ (y.cells.size ≠ size ∨ off + y.cells.size > cs.length) := by omega
        simp only [List.size_toArray, ne_eq, gt_iff_lt, decide_not, Bool.or_eq_true, Bool.not_eq_true', decide_eq_false_iff_not, decide_eq_true_eq]
        rw [if_neg (by omega)]
        have hz : (y.cells.zipIdx.foldl (fun cs (c, j) => cs.setIfInBounds (off + j) c) cs.toArray) = (splice cs off y.cells.toList).toArray := by
          rw [← Array.foldl_toList, Array.toList_zipIdx]
          have := foldl_set_eq off y.cells.toList 0 cs.toArray (by simp; omega)
          simpa using this
        rw [hz]
        exact fill_ok ps qs _ _ r h hr.2 (Rels.splice off hc hxc) hf
      · cases hf

end Go.Aw

namespace Go.Aw
open Go.RowKit
set_option linter.unusedVariables false
set_option linter.unusedSimpArgs false

/-- The blocks that an operation looks into. -/
def opBlk (op : Op) (xs : List SV) : List Nat :=
  match op, xs with
  | .load _ _, .p k _ :: _ => [k]
  | .store _ _ _, .p k _ :: _ => [k]
  | .slice _ _ _ _ _, .p k _ :: _ => [k]
  | .call { callee := .builtin .append, .. }, [.s k _ _ _, .s j _ _ _] => [k, j]
  | .call { callee := .builtin .append, .. }, [.v _, .s j _ _ _] => [j]
  | _, _ => []

def mkV (agg : Bool) (cells : List SV) : Option SV :=
  match agg, cells with
  | true, l => some (.a l)
  | false, [x] => some x
  | false, _ => none

def minV (k : IntKind) : Int → List SV → Option SV
  | a, [] => some (.v (.int k a))
  | a, .v (.int _ b) :: l => minV k (if b < a then b else a) l
  | _, _ => none

def maxV (k : IntKind) : Int → List SV → Option SV
  | a, [] => some (.v (.int k a))
  | a, .v (.int _ b) :: l => maxV k (if a < b then b else a) l
  | _, _ => none

def lenV (T : Nat → Option TI) (t : Nat) : SV → Option SV
  | .s _ _ len _ => match T t with
    | some i => match i.kind with
      | .slice _ _ _ => some (iv len)
      | _ => none
    | none => none
  | .v (.slice _ len _) => match T t with
    | some i => match i.kind with
      | .slice _ _ _ => some (iv len)
      | _ => none
    | none => none
  | _ => none

def symCallB (T : Nat → Option TI) (b : Builtin) (ts : List Nat) (xs : List SV) : Option SV :=
  match b, ts, xs with
  | .len, t :: _, [x] => lenV T t x
  | .min, _, .v (.int k a) :: l => minV k a l
  | .max, _, .v (.int k a) :: l => maxV k a l
  | _, _, _ => none

def symUn (op : UnOp) : SV → Option SV
  | .b d => match op with
    | .not => some (.b (!d))
    | _ => none
  | .v (.bool c) => match op with
    | .not => some (.v (.bool (!c)))
    | _ => none
  | .v (.int k n) => match op with
    | .neg => some (.v (.int k (k.wrap (0 - n))))
    | _ => none
  | _ => none

def asB : SV → Option Bool
  | .b x => some x
  | .v (.bool x) => some x
  | _ => none

def boolBin (T : Nat → Option TI) (op : BinOp) (t : Nat) (x y : SV) : Option (SV × List Ob) :=
  match asB x, asB y, T t with
  | some a, some b, some i => match i.kind with
    | .bool => match op with
      | .eql => some (.v (.bool (a == b)), [])
      | .neq => some (.v (.bool (!(a == b))), [])
      | _ => none
    | _ => none
  | _, _, _ => none

/-- A slice against nil: one that is not empty is not nil. -/
def nilBin (T : Nat → Option TI) (op : BinOp) (t : Nat) : SV → SV → Option (SV × List Ob)
  | .s _ _ n _, .v (.slice none 0 0) => match T t with
    | some i => match i.kind with
      | .slice _ _ _ => match op with
        | .eql => some (.v (.bool false), [.pr (n ≠ 0)])
        | .neq => some (.v (.bool true), [.pr (n ≠ 0)])
        | _ => none
      | _ => none
    | none => none
  | .v (.slice a _ _), .v (.slice none 0 0) => match T t with
    | some i => match i.kind with
      | .slice _ _ _ => match op with
        | .eql => some (.v (.bool a.isNone), [])
        | .neq => some (.v (.bool (!a.isNone)), [])
        | _ => none
      | _ => none
    | none => none
  | _, _ => none

def symBin (T : Nat → Option TI) (op : BinOp) (t : Nat) : SV → SV → Option (SV × List Ob)
  | .v (.int k a), .v (.int k' b) =>
    match op with
    | .shl => binV .shl k a b
    | .shr => binV .shr k a b
    | op => if k = k' then binV op k a b else none
  | .a xs, .a ys =>
    match T t with
    | some i =>
      if i.eqok && i.agg then
        match op, eqC T 100 t xs ys with
        | .eql, some r => some (.v (.bool r), [])
        | .neq, some r => some (.v (.bool (!r)), [])
        | _, _ => none
      else none
    | none => none
  | x, y => match nilBin T op t x y with
    | some r => some r
    | none => boolBin T op t x y

def placeSt (fs : List (Nat × Nat × Nat)) (i : Nat) : Option (Nat × Nat) :=
  match fs[i]? with
  | some f => if f.2.2 = 0 then none else some (f.1, f.2.2)
  | none => none

def zip1 : List Nat → List SV → List (Nat × SV) := List.zip

def SV.plain : SV → Bool
  | .v _ => true
  | .b _ => true
  | _ => false

theorem plain_all {l : List SV} (h : l.all SV.plain = true) : Plain l := fun k hk => by
  rw [hasl_iff] at hk
  obtain ⟨x, hx, hk⟩ := hk
  have := List.all_eq_true.1 h x hx
  cases x <;> simp [SV.plain] at this <;> simp [SV.has] at hk

/-- The cells of a slice that is appended. -/
def appSrc (off n es : Nat) : BK → Option (List SV)
  | .live _ false cells => if ((cells.drop off).take (n * es)).length = n * es then some ((cells.drop off).take (n * es)) else none
  | _ => none

def symAppend (T : Nat → Option TI) (ts : List TypeId) (xs : List SV) (bs : List BK) (fr : Nat) : Option (Eff × List Ob) :=
  match ts with
  | [t, t'] => if t' = t then
      match T t with
      | none => none
      | some i => match i.kind with
        | .slice e es _ => match T e with
          | none => none
          | some ei =>
            if es ≠ 0 ∧ ei.size = es ∧ ei.zero.length = es then
              match xs, bs with
              | [.v (.slice none 0 0), .s j off n es'], [src] => if es' = es ∧ n ≠ 0 ∧ n ≤ 2 ^ 40 ∧ n * ei.bytes ≤ 2 ^ 47 then
                  match appSrc off n es src with
                  | some new => if new.all SV.one then some ({ val := .s fr 0 n es, ups := [(fr, .live true false new)] }, []) else none
                  | none => none
                else none
              | [.s k 0 len es1, .s j off n es'], [.live true sym cells, src] => if es' = es ∧ es1 = es ∧ n ≠ 0 then
                  match appSrc off n es src with
                  | some new => if new.all SV.one then
                      match sym with
                      | false => if cells.length = len * es ∧ len + n ≤ 2 ^ 40 ∧ (len + n) * ei.bytes ≤ 2 ^ 47 then some ({ val := .s fr 0 (len + n) es, ups := [(k, .dead), (fr, .live true false (cells ++ new))] }, []) else none
                      | true => if new.all SV.plain = false then none else some ({ val := .s fr 0 (len + n) es, ups := [(k, .dead), (fr, .live true true (cells ++ new))] }, [.pr (cells.length = len * es ∧ len + n ≤ 2 ^ 40 ∧ (len + n) * ei.bytes ≤ 2 ^ 47)])
                    else none
                  | none => none
                else none
              | _, _ => none
            else none
        | _ => none
    else none
  | _ => none

/-- append of a list (a slice whose cells are not written out). -/
def symAppendL (T : Nat → Option TI) (ts : List TypeId) (xs : List SV) (bs : List BK) (fr : Nat) : Option (Eff × List Ob) :=
  match ts with
  | [t, t'] => if t' = t then
      match T t with
      | none => none
      | some i => match i.kind with
        | .slice e es _ => match T e with
          | none => none
          | some ei =>
            if es ≠ 0 ∧ ei.size = es ∧ ei.zero.length = es then
              match xs, bs with
              | [.v (.slice none 0 0), .s j 0 n es'], [.live _ true new] => if es' = es then
                  some ({ val := .s fr 0 n es, ups := [(fr, .live true true new)] }, [.pr (new.length = n * es ∧ new.all SV.one = true ∧ n ≤ 2 ^ 40 ∧ n * ei.bytes ≤ 2 ^ 47)])
                else none
              | [.s k 0 len es1, .s j 0 n es'], [.live true sym cells, .live _ true new] => if es' = es ∧ es1 = es ∧ (sym || cells.all SV.plain) = true then
                  some ({ val := .s fr 0 (len + n) es, ups := [(k, .dead), (fr, .live true true (cells ++ new))] }, [.pr (cells.length = len * es ∧ new.length = n * es ∧ new.all SV.one = true ∧ len + n ≤ 2 ^ 40 ∧ (len + n) * ei.bytes ≤ 2 ^ 47)])
                else none
              | [.s k 0 len es1, .v (.slice _ 0 _)], _ => if es1 = es then some ({ val := .s k 0 len es1, ups := [(fr, .dead)] }, []) else none
              | _, _ => none
            else none
        | _ => none
    else none
  | _ => none

/-- What an operation that calls no function comes to: its effect, what is owed. 'fr': the number of the block that it makes, if it makes one. -/
def symOp (T : Nat → Option TI) (op : Op) (xs : List SV) (bs : List BK) (fr : Nat) (orc : List Or) : Option (Eff × List Ob × List Or) :=
  match op with
  | .move _ | .assign _ => match xs with
    | [x] => some ({ val := x }, [], orc)
    | _ => none
  | .pick _ _ _ => match xs with
    | [.b d, x, y] => some ({ val := match d with | true => x | false => y }, [], orc)
    | _ => none
  | .alloc t => match T t with
    | some i => some ({ val := .p fr 0, ups := [(fr, .live true false (i.zero.map .v))] }, [], orc)
    | none => none
  | .box t _ => match xs with
    | [x] => if x.known then some ({ val := .p fr 0, ups := [(fr, .live true false x.cells)] }, [], orc) else none
    | _ => none
  | .build t parts => match T t with
    | some i => match i.kind with
      | .st fs => match fillS (placeSt fs) (i.zero.map .v) (zip1 (parts.toList.map (·.1)) xs) with
        | some cells => if fs.all (fun f => decide (f.2.2 ≠ 0)) then some ({ val := .a cells }, [], orc) else none
        | none => none
      | .arr n e es => match fillS (fun i => some (i * es, es)) (i.zero.map .v) (zip1 (parts.toList.map (·.1)) xs) with
        | some cells => if es = 0 then none else some ({ val := .a cells }, [], orc)
        | none => none
      | _ => none
    | none => none
  | .buildSlice t len parts => match T t with
    | some i => match i.kind with
      | .slice e es _ => match T e with
        | some ei => if es ≠ 0 ∧ len * es ≤ 2 ^ 24 ∧ ei.zero.length = es then
          match fillS (fun i => some (i * es, es)) ((List.range (len * es)).map fun i => .v (ei.zero.getD (i % es) undef)) (zip1 (parts.toList.map (·.1)) xs) with
          | some cells => if cells.length = len * es then some ({ val := .s fr 0 len es, ups := [(fr, .live true false cells)] }, [], orc) else none
          | none => none
          else none
        | none => none
      | _ => none
    | none => none
  | .load t _ => match xs, bs, T t with
    | [.p k off], [.live own sym cells], some i =>
      match sym with
      | false => if ((cells.drop off).take i.size).length = i.size then
          match mkV i.agg ((cells.drop off).take i.size) with
          | some x => some ({ val := x }, [], orc)
          | none => none
        else none
      | true => match orc with
        | .ld r :: orc => if r.length = i.size then
            match mkV i.agg r with
            | some x => some ({ val := x }, [.pr ((cells.drop off).take i.size = r)], orc)
            | none => none
          else none
        | _ => none
    | _, _, _ => none
  | .store t _ _ => match xs, bs, T t with
    | [.p k off, x], [.live true sym cells], some i =>
      if x.known && x.cells.length == i.size && x.cells.all SV.one then
        match sym with
        | false => if off + i.size ≤ cells.length then some ({ val := .v undef, ups := [(k, .live true false (splice cells off x.cells))] }, [], orc) else none
        | true => if x.cells.all SV.plain then some ({ val := .v undef, ups := [(k, .live true true (splice cells off x.cells))] }, [.pr (off + i.size ≤ cells.length)], orc) else none
      else none
    | _, _, _ => none
  | .fieldAddr t _ f => match xs, T t with
    | [.p k off], some i => match i.kind with
      | .st fs => match placeSt fs f with
        | some fd => some ({ val := .p k (off + fd.1) }, [], orc)
        | none => none
      | _ => none
    | _, _ => none
  | .indexAddr t _ _ => match xs, T t with
    | [.p k off, .v (.int _ n)], some i => match i.kind with
      | .arr len e es => if es = 0 then none else some ({ val := .p k (off + n.toNat * es) }, [.pr (0 ≤ n ∧ n < len)], orc)
      | _ => none
    | [.s k off len es', .v (.int _ n)], some i => match i.kind with
      | .slice e es _ => if es = 0 then none else some ({ val := .p k (off + n.toNat * es) }, [.pr (0 ≤ n ∧ n < len)], orc)
      | _ => none
    | _, _ => none
  | .slice t _ lo hi mx => match lo, hi, mx, xs, bs, T t with
    | none, none, none, [.p k off], [.live own false cells], some i => match i.kind with
      | .arr len e es => if es ≠ 0 ∧ off + len * es ≤ cells.length then some ({ val := .s k off len es }, [], orc) else none
      | _ => none
    | some _, none, none, [.s k off len es', .v (.int _ n)], _, some i => match i.kind with
      | .slice e es _ => if es = es' ∧ es ≠ 0 then some ({ val := .s k (off + n.toNat * es) (len - n.toNat) es }, [.pr (0 ≤ n ∧ n ≤ len)], orc) else none
      | _ => none
    | _, _, _, _, _, _ => none
  | .index t _ _ => match xs, T t with
    | [.a cells, .v (.int _ n)], some i => match i.kind with
      | .arr len e es => match T e with
        | some ei => if es = 0 ∨ ei.size ≠ es then none else if ((cells.drop (n.toNat * es)).take es).length = es then
            match mkV ei.agg ((cells.drop (n.toNat * es)).take es) with
            | some v => some ({ val := v }, [.pr (0 ≤ n ∧ n < len)], orc)
            | none => none
          else none
        | none => none
      | _ => none
    | _, _ => none
  | .binOp op t _ _ _ => match xs with
    | [x, y] => match symBin T op t x y with
      | some (r, obs) => some ({ val := r }, obs, orc)
      | none => none
    | _ => none
  | .unOp op _ _ => match xs with
    | [x] => match symUn op x with
      | some r => some ({ val := r }, [], orc)
      | none => none
    | _ => none
  | .convert src dst _ => match xs, T dst, T src with
    | [.v (.int k n)], some i, some j => match i.kind, j.kind with
      | .int k', .int _ => some ({ val := .v (.int k' (k'.wrap n)) }, [], orc)
      | _, _ => none
    | _, _, _ => none
  | .extract _ i => match xs with
    | [.t l] => match l[i]? with
      | some x => some ({ val := x }, [], orc)
      | none => none
    | _ => none
  | .makeFunc (.func g) first captured => if first.size = 0 then some ({ val := .f g xs }, [], orc) else none
  | .call { callee := .builtin .append, args := _, argTypes := ts } => match symAppendL T ts.toList xs bs fr with
    | some (e, obs) => some (e, obs, orc)
    | none => match symAppend T ts.toList xs bs fr with
      | some (e, obs) => some (e, obs, orc)
      | none => none
  | .call { callee := .builtin b, args := _, argTypes := ts } => match symCallB T b ts.toList xs with
    | some r => some ({ val := r }, [], orc)
    | none => none
  | _ => none

end Go.Aw

namespace Go.Aw
open Go.RowKit
set_option linter.unusedVariables false
set_option linter.unusedSimpArgs false

/-- What a contract says of block j behind the call: of one that was handed over (.un: nothing has changed), of a new one. -/
def postB (n : Nat) (mb nb : List BK) (j : Nat) : BK := if j < n then mb.getD j .un else nb.getD (j - n) .un

/-- Where the blocks lie that were handed over to be written. -/
def ownOf (ρ : Env) (bs : List BK) (b : Nat) : Prop := ∃ i n, (bs.getD i .un).own ∧ ρ i = some (b, 0, n)

def callCx (ρ : Env) (W : World) (bs : List BK) : Cx := { w := W, base := bs.length, ρ := ρ, own := ownOf ρ bs }

/-- What a contract says of the world behind the call. -/
def RR (cx : Cx) (res : SV) (nb : List BK) (mb : List BK) (e : Ending) (W' : World) : Prop :=
  ∃ (ρ' : Env) (v : Value), e = .returned v ∧ (∀ i, i < cx.base → ρ' i = cx.ρ i) ∧ Rel ρ' res v ∧ Kept cx.w cx.own W' ∧
    (∀ j, BRep ρ' cx.mine W' j (postB cx.base mb nb j)) ∧ (∀ j, (postB cx.base mb nb j).pl) ∧
    (∀ i j b n b' n', i ≠ j → (postB cx.base mb nb i).own → (postB cx.base mb nb j).own → ρ' i = some (b, 0, n) → ρ' j = some (b', 0, n') → b ≠ b')

/-- A call of function f: given arguments, and the blocks that they name (those marked own may be written), it returns the result, and new blocks; of what was there nothing has changed but the blocks marked own. -/
def SymCall (P : Program) (f : Nat) (args : List SV) (bs : List BK) (res : SV) (nb : List BK) (mb : List BK) : Prop :=
  ∀ (ρ : Env) (W : World) (vs : List Value), Rels ρ args vs → (∀ i, BRep ρ (callCx ρ W bs).mine W i (bs.getD i .un)) → (∀ i, (bs.getD i .un).pl) →
    (∀ i j b n b' n', i ≠ j → (bs.getD i .un).own → (bs.getD j .un).own → ρ i = some (b, 0, n) → ρ j = some (b', 0, n') → b ≠ b') →
    Calls P f vs.toArray W (RR (callCx ρ W bs) res nb mb)

/-- A program in which calling a function with Go text enters it. -/
def Enters (P : Program) (g : Nat) : Prop := ∀ (args : Array Value) (w : World), (callFunc g args).run P w = .ok (.enter g args) w

def Con (P : Program) (f : Nat) (args : List SV) (bs : List BK) (res : SV) (nb : List BK) (mb : List BK := []) : Prop := Enters P f ∧ SymCall P f args bs res nb mb

def Ob.Holds (P : Program) : Ob → Prop
  | .eq b c => b = c
  | .pr p => p
  | .call f args bs res nb mb => Con P f args bs res nb mb

def Obs (P : Program) : List Ob → Prop
  | [] => True
  | x :: l => x.Holds P ∧ Obs P l

theorem Obs.append {P : Program} : ∀ {l m : List Ob}, Obs P (l ++ m) → Obs P l ∧ Obs P m
  | [], _, h => ⟨trivial, h⟩
  | _ :: _, _, h => ⟨⟨h.1, (Obs.append h.2).1⟩, (Obs.append h.2).2⟩

section
variable {P : Program} {T : Nat → Option TI} {w0 : Cx} {N : Nat} {D : List Deferred} {ρ : Env} {s : FS} {a : Act} {W : World}

/-- What is shown of an operation. -/
def Does (P : Program) (w0 : Cx) (N : Nat) (D : List Deferred) (s : FS) (a : Act) (W : World) (o : Oper) (e : Eff) : Prop :=
  ∃ nx v W' ρ', (execOp a.eval o).run P W = .ok nx W' ∧ (nx = .value v ∨ (nx = .skip ∧ v = undef)) ∧ Rep w0 N D ρ' (s.app o.dst e) (a.put o.dst v) W'

theorem app_split (s : FS) (dst : Option Nat) (e : Eff) : s.app dst e = (s.app none { val := .u, ups := e.ups }).app dst { val := e.val } := by
  cases dst <;> rfl

theorem Does.value {o : Oper} {x : SV} {y : Value} (h : Rep w0 N D ρ s a W) (hd : ∀ d, o.dst = some d → d < N) (hr : (execOp a.eval o).run P W = .ok (.value y) W) (hx : Rel ρ x y) (hw : ∀ k, x.has k → s.bk k ≠ .un) :
    Does P w0 N D s a W o { val := x } :=
  ⟨_, y, W, ρ, hr, .inl rfl, h.put o.dst hd hx hw⟩

theorem Does.new {o : Oper} {x : SV} {y : Value} {fr : Nat} {cells : List SV} {vs rest : List Value} {ty : TypeId} (h : Rep w0 N D ρ s a W) (hd : ∀ d, o.dst = some d → d < N) (hfr : s.bk fr = .un)
    (hr : (execOp a.eval o).run P W = .ok (.value y) { W with heap := W.heap.push (.cells (vs ++ rest).toArray ty) })
    (hc : Rels ρ cells vs) (hw : ∀ j, SV.hasl j cells → s.bk j ≠ .un)
    (hx : Rel (fun j => if j = fr then some (W.heap.size, 0, (vs ++ rest).length) else ρ j) x y) (hwx : ∀ k, x.has k → k = fr) :
    Does P w0 N D s a W o { val := x, ups := [(fr, .live true false cells)] } := by
  have hn := h.new hfr false ty hc hw trivial (rest := rest)
  refine ⟨_, y, _, (fun j => if j = fr then some (W.heap.size, 0, (vs ++ rest).length) else ρ j), hr, .inl rfl, ?_⟩
  rw [app_split]
  refine hn.put o.dst hd hx (fun k hk => ?_)
  rw [hwx k hk]
  simp [FS.app, upds]

theorem mkV_rel {agg : Bool} {l : List SV} {m : List Value} {x : SV} (h : mkV agg l = some x) (hr : Rels ρ l m) : Rel ρ x (if agg = true then .agg m.toArray else m.headD undef) := by
  cases agg with
  | true => simp only [mkV, Option.some.injEq] at h; subst h; simp only [if_true, Rel]; exact ⟨m, rfl, hr⟩
  | false =>
    match l, m, h, hr with
    | [x'], [y], h, hr =>
      simp only [mkV, Option.some.injEq] at h; subst h
      simp only [Rels] at hr
      simpa using hr.1
    | [], _, h, _ => simp [mkV] at h
    | [_], [], _, hr => simp [Rels] at hr
    | [_], _ :: _ :: _, _, hr => simp [Rels] at hr
    | _ :: _ :: _, _, h, _ => simp [mkV] at h

theorem mkV_has {agg : Bool} {l : List SV} {x : SV} {k : Nat} (h : mkV agg l = some x) (hk : x.has k) : SV.hasl k l := by
  cases agg with
  | true => simp only [mkV, Option.some.injEq] at h; subst h; simpa [SV.has] using hk
  | false =>
    match l, h with
    | [x'], h => simp only [mkV, Option.some.injEq] at h; subst h; simp [SV.hasl, hk]
    | [], h => simp [mkV] at h
    | _ :: _ :: _, h => simp [mkV] at h

theorem run_loadVar {t b o : Nat} {n : TypeInfo} {d : TypeDesc} (hi : P.info? t = some n) (hu : P.underlying t = some d) {vs : List Value} (hl : vs.length = n.size)
    (hone : isAggD d = false → vs ≠ [])
    (h : ∀ (j : Nat) (x : Value), vs[j]? = some x → W.cell? ⟨b, o + j, none⟩ = some x) :
    (loadVar t ⟨b, o, none⟩).run P W = .ok (if isAggD d = true then .agg vs.toArray else vs.headD undef) W := by
  simp only [loadVar, Sem.run_bind, run_isAgg' hu, Result.andThen_ok]
  cases hd : isAggD d with
  | true =>
    simp only [if_true, Sem.run_bind, run_sizeOf' hi, Result.andThen_ok, loadCells]
    rw [← hl, run_loadCells vs 0 #[] (fun j x hx => by simpa using h j x hx)]
    simp
  | false =>
    match vs, hone hd with
    | y :: rest, _ =>
      have := h 0 y (by simp)
      simp only [Nat.add_zero] at this
      simp [this]
    | [], hne => exact (hne rfl).elim

theorem hasl_take {k n : Nat} {l : List SV} (h : SV.hasl k (l.take n)) : SV.hasl k l := by
  rw [hasl_iff] at h ⊢
  obtain ⟨x, hx, hk⟩ := h
  exact ⟨x, List.mem_of_mem_take hx, hk⟩

theorem hasl_drop {k n : Nat} {l : List SV} (h : SV.hasl k (l.drop n)) : SV.hasl k l := by
  rw [hasl_iff] at h ⊢
  obtain ⟨x, hx, hk⟩ := h
  exact ⟨x, List.mem_of_mem_drop hx, hk⟩

theorem hasl_append {k : Nat} {l m : List SV} (h : SV.hasl k (l ++ m)) : SV.hasl k l ∨ SV.hasl k m := by
  rw [hasl_iff] at h
  obtain ⟨x, hx, hk⟩ := h
  rcases List.mem_append.1 hx with hx | hx
  · exact .inl (hasl_iff.2 ⟨x, hx, hk⟩)
  · exact .inr (hasl_iff.2 ⟨x, hx, hk⟩)

theorem hasl_splice {k off : Nat} {l m : List SV} (h : SV.hasl k (splice l off m)) : SV.hasl k l ∨ SV.hasl k m := by
  unfold splice at h
  rcases hasl_append h with h | h
  · rcases hasl_append h with h | h
    · exact .inl (hasl_take h)
    · exact .inr h
  · exact .inl (hasl_drop h)

theorem hasl_vals {k : Nat} {l : List Value} : ¬ SV.hasl k (l.map .v) := by
  rw [hasl_iff]
  rintro ⟨x, hx, hk⟩
  obtain ⟨q, _, rfl⟩ := List.mem_map.1 hx
  exact has_val hk

/-- A load. -/
theorem does_load (hrep : Rep w0 N D ρ s a W) {o : Oper} {t : TypeId} {x : Operand} (hop : o.op = .load t x) (hd : ∀ d, o.dst = some d → d < N) {k off : Nat} (hx : ev s.sl x = .p k off)
    {own sym : Bool} {cells r : List SV} (hb : s.bk k = .live own sym cells) {i : TI} (hc : conv P t = some i) (hr : (cells.drop off).take i.size = r) (hl : r.length = i.size) {v : SV} (hv : mkV i.agg r = some v) :
    Does P w0 N D s a W o { val := v } := by
  obtain ⟨n, d, z, h1, h2, h3, rfl⟩ := conv_spec hc
  have hxr := ev_rel hrep x
  rw [hx] at hxr
  simp only [Rel] at hxr
  obtain ⟨b, o', m, hρ, hy⟩ := hxr
  have hbk := hrep.bk k
  rw [hb] at hbk
  rcases hbk.read with ⟨he, _⟩ | ⟨b', o'', m', vs, e1, ⟨e2, _⟩, _, e4⟩
  · rw [hρ] at he; cases he
  rw [hρ] at e1; cases e1
  have hrr : Rels ρ r ((vs.drop off).take n.size) := by rw [← hr]; exact Rels.take _ (Rels.drop _ e2)
  have hlen := hrr.length
  refine Does.value hrep hd (y := if isAggD d = true then .agg ((vs.drop off).take n.size).toArray else ((vs.drop off).take n.size).headD undef) ?_ (mkV_rel hv hrr) (fun j hj => ?_)
  · simp only [execOp, hop, hy]
    simp only [Instr.loadAt, Instr.sureAddr, Sem.run_bind, Sem.run_pure, Result.andThen_ok]
    rw [run_loadVar h1 h2 (vs := (vs.drop off).take n.size) (by rw [← hlen]; exact hl) (fun hag hne => ?_) (fun j y hjy => ?_)]
    · simp
    · simp only at hv
      rw [hag] at hv
      rw [hne] at hlen
      have : r = [] := List.length_eq_zero_iff.1 (by simpa using hlen)
      rw [this] at hv; simp [mkV] at hv
    · have hj := (List.getElem?_eq_some_iff.1 hjy).1
      rw [List.getElem?_take_of_lt (by simp at hj; omega), List.getElem?_drop] at hjy
      have := e4 (off + j) y hjy
      rw [show o' + off + j = o' + (off + j) by omega]; exact this
  · have := mkV_has hv hj
    rw [← hr] at this
    exact hrep.wf2 k j (by rw [hb]; exact hasl_drop (hasl_take this))

/-- A store. -/
theorem does_store (hrep : Rep w0 N D ρ s a W) {o : Oper} {t : TypeId} {x y : Operand} (hop : o.op = .store t x y) (hd : ∀ d, o.dst = some d → d < N) {k off : Nat} (hx : ev s.sl x = .p k off)
    {sym : Bool} {cells : List SV} (hb : s.bk k = .live true sym cells) {i : TI} (hc : conv P t = some i) {v : SV} (hv : ev s.sl y = v) (hk : v.known = true) (hl : v.cells.length = i.size)
    (hone : v.cells.all SV.one = true) (hbd : off + i.size ≤ cells.length) (hpl : (BK.live true sym (splice cells off v.cells)).pl) :
    Does P w0 N D s a W o { val := .v undef, ups := [(k, .live true sym (splice cells off v.cells))] } := by
  obtain ⟨n, d, z, h1, h2, h3, rfl⟩ := conv_spec hc
  have hxr := ev_rel hrep x
  rw [hx] at hxr
  simp only [Rel] at hxr
  obtain ⟨b, o', m, hρ, hy⟩ := hxr
  have hyr := ev_rel hrep y
  rw [hv] at hyr
  have hcr := Rel.cells hyr hk
  have hbk := hrep.bk k
  rw [hb] at hbk
  rcases hbk with ⟨he, _⟩ | ⟨b', vs, rest, ty, e1, e2, e3, e4⟩
  · rw [hρ] at he; cases he
  rw [hρ] at e1
  simp only [Option.some.injEq, Prod.mk.injEq] at e1
  obtain ⟨rfl, rfl, rfl⟩ := e1
  have hlen := e3.length
  have hlc := hcr.length
  simp only at hl hbd
  obtain ⟨W', hrun, ht⟩ := run_storeCells (P := P) (b := b) (o := 0 + off) (ty := ty) (a.eval y).cells.toList 0 W (vs ++ rest) e4 (Rels.ones hcr hone) (by simp only [List.length_append]; omega)
  have hspl : splice (vs ++ rest) (0 + off + 0) (a.eval y).cells.toList = splice vs off (a.eval y).cells.toList ++ rest := by
    rw [show 0 + off + 0 = off by omega]; exact splice_append (by omega)
  rw [hspl] at ht
  have hlen2 : (splice vs off (a.eval y).cells.toList ++ rest).length = (vs ++ rest).length := by
    simp only [List.length_append]; rw [splice_length (by omega)]
  have hrep' := hrep.turn (k := k) (vs' := splice vs off (a.eval y).cells.toList) (rest := rest) hb (by rw [hlen2]; exact hρ) e2 (Rels.splice off e3 hcr)
    (fun j hj => by
      rcases hasl_splice hj with hj | hj
      · exact hrep.wf2 k j (by rw [hb]; exact hj)
      · exact ev_wf hrep y j (by rw [hv]; exact has_cells hj)) hpl ht
  refine ⟨.skip, undef, W', ρ, ?_, .inr ⟨rfl, rfl⟩, ?_⟩
  · simp only [execOp, hop, hy]
    simp only [Instr.storeAt, Instr.sureAddr, Sem.run_bind, Sem.run_pure, Result.andThen_ok, storeVar, run_sizeOf' h1]
    have hsz : (a.eval y).cells.size = n.size := by rw [← hl, hlc]; simp
    simp only [hsz, ne_eq, not_true_eq_false, if_false, Sem.run_pure, Result.andThen_ok]
    rw [hrun]
    simp
  · rw [app_split]
    exact hrep'.put o.dst hd (by simp [Rel]) (fun k hk => (has_val hk).elim)

theorem run_newRow (t : TypeId) (cells : Array Value) : (newRow t cells).run P W = .ok ⟨W.heap.size, 0, none⟩ { W with heap := W.heap.push (.cells cells t) } := by
  simp [newRow]

theorem does_alloc (hrep : Rep w0 N D ρ s a W) {o : Oper} {t : TypeId} (hop : o.op = .alloc t) (hd : ∀ d, o.dst = some d → d < N) {i : TI} (hc : conv P t = some i) {fr : Nat} (hfr : s.bk fr = .un) :
    Does P w0 N D s a W o { val := .p fr 0, ups := [(fr, .live true false (i.zero.map .v))] } := by
  obtain ⟨n, d, z, h1, h2, h3, rfl⟩ := conv_spec hc
  refine Does.new (vs := z.cells.toList) (rest := []) (ty := t) (y := .pointer (some ⟨W.heap.size, 0, none⟩)) hrep hd hfr ?_ (Rels.vals _) (fun j hj => (hasl_vals hj).elim) ?_ (by simp [SV.has])
  · simp only [execOp, hop, Instr.alloc, Sem.run_bind, run_zeroValue' h1 h3, Result.andThen_ok]
    simp [newVar, run_newRow]
  · simp [Rel]

theorem does_box (hrep : Rep w0 N D ρ s a W) {o : Oper} {t : TypeId} {x : Operand} (hop : o.op = .box t x) (hd : ∀ d, o.dst = some d → d < N) {v : SV} (hv : ev s.sl x = v) (hk : v.known = true) {fr : Nat} (hfr : s.bk fr = .un) :
    Does P w0 N D s a W o { val := .p fr 0, ups := [(fr, .live true false v.cells)] } := by
  have hxr := ev_rel hrep x
  rw [hv] at hxr
  refine Does.new (vs := (a.eval x).cells.toList) (rest := []) (ty := t) (y := .pointer (some ⟨W.heap.size, 0, none⟩)) hrep hd hfr ?_ (Rel.cells hxr hk)
    (fun j hj => ev_wf hrep x j (by rw [hv]; exact has_cells hj)) ?_ (by simp [SV.has])
  · simp only [execOp, hop, Instr.box, Sem.run_bind]
    simp [newVar, run_newRow]
  · simp [Rel]

end
end Go.Aw

namespace Go.Aw
open Go.RowKit
set_option linter.unusedVariables false
set_option linter.unusedSimpArgs false

section
variable {P : Program} {T : Nat → Option TI} {w0 : Cx} {N : Nat} {D : List Deferred} {ρ : Env} {s : FS} {a : Act} {W : World}

theorem evs_rel (h : Rep w0 N D ρ s a W) : ∀ (l : List Operand), Rels ρ (l.map (ev s.sl)) (l.map a.eval)
  | [] => by simp [Rels]
  | x :: l => by simp only [List.map_cons, Rels]; exact ⟨ev_rel h x, evs_rel h l⟩

theorem evs_wf (h : Rep w0 N D ρ s a W) {l : List Operand} {k : Nat} (hk : SV.hasl k (l.map (ev s.sl))) : s.bk k ≠ .un := by
  rw [hasl_iff] at hk
  obtain ⟨x, hx, hk⟩ := hk
  obtain ⟨y, _, rfl⟩ := List.mem_map.1 hx
  exact ev_wf h y k hk

theorem fillS_has {place : Nat → Option (Nat × Nat)} {k : Nat} : ∀ (ps : List (Nat × SV)) (cells r : List SV), fillS place cells ps = some r → SV.hasl k r → SV.hasl k cells ∨ SV.hasl k (ps.map (·.2))
  | [], cells, r, h, hk => by simp only [fillS, Option.some.injEq] at h; subst h; exact .inl hk
  | (i, x) :: ps, cells, r, h, hk => by
    simp only [fillS] at h
    split at h
    · cases h
    · split at h
      · rcases fillS_has ps _ r h hk with h' | h'
        · rcases hasl_splice h' with h' | h'
          · exact .inl h'
          · exact .inr (by simp only [List.map_cons, SV.hasl]; exact .inl (has_cells h'))
        · exact .inr (by simp only [List.map_cons, SV.hasl]; exact .inr h')
      · cases h

theorem run_places (P : Program) (W : World) : ∀ (fs : List Field), (∀ f ∈ fs, P.cellsOf f.type ≠ 0) →
    ∀ (acc : Array (Nat × Nat)), (fs.foldlM (fun (acc : Array (Nat × Nat)) f => do pure (acc.push (f.offset, ← sizeOf f.type))) acc : Sem _).run P W = .ok (acc ++ (fs.map fun f => (f.offset, P.cellsOf f.type)).toArray) W
  | [], _, acc => by simp
  | f :: fs, h, acc => by
    simp only [List.foldlM_cons, Sem.run_bind, cellsOf_run (h f (by simp)), Result.andThen_ok, Sem.run_pure]
    rw [run_places P W fs (fun g hg => h g (by simp [hg]))]
    simp

theorem run_mapM_places (fs : Array Field) (h : ∀ f ∈ fs.toList, P.cellsOf f.type ≠ 0) :
    (fs.mapM (fun f => do pure (f.offset, ← sizeOf f.type)) : Sem (Array (Nat × Nat))).run P W = .ok (fs.toList.map fun f => (f.offset, P.cellsOf f.type)).toArray W := by
  rw [Array.mapM_eq_foldlM, ← Array.foldlM_toList]
  have := run_places P W fs.toList h #[]
  simp only [Array.empty_append, List.append_toArray, List.nil_append] at this
  rw [← this]
  congr 1
  congr 1
  funext acc f
  simp [bind_pure_comp]

theorem parts_map (s : FS) (a : Act) (parts : Array (Nat × Operand)) :
    (zip1 (parts.toList.map (·.1)) ((parts.toList.map (·.2)).map (ev s.sl))).map (·.1) = (parts.map fun (i, x) => (i, a.eval x)).toList.map (·.1) := by
  unfold zip1
  rw [List.map_fst_zip (by simp)]
  simp only [Array.toList_map, List.map_map]
  rfl

theorem parts_map2 (s : FS) (parts : Array (Nat × Operand)) :
    (zip1 (parts.toList.map (·.1)) ((parts.toList.map (·.2)).map (ev s.sl))).map (·.2) = (parts.toList.map (·.2)).map (ev s.sl) := by
  unfold zip1
  rw [List.map_snd_zip (by simp)]

theorem parts_vals (a : Act) (parts : Array (Nat × Operand)) : (parts.map fun (i, x) => (i, a.eval x)).toList.map (·.2) = (parts.toList.map (·.2)).map a.eval := by
  simp only [Array.toList_map, List.map_map]
  rfl

theorem does_build_st (hrep : Rep w0 N D ρ s a W) {o : Oper} {t : TypeId} {parts : Array (Nat × Operand)} (hop : o.op = .build t parts) (hd : ∀ d, o.dst = some d → d < N) {i : TI} (hc : conv P t = some i) {fs : List (Nat × Nat × Nat)}
    (hk : i.kind = .st fs) {cells : List SV}
    (hf : fillS (placeSt fs) (i.zero.map .v) (zip1 (parts.toList.map (·.1)) ((parts.toList.map (·.2)).map (ev s.sl))) = some cells)
    (hall : fs.all (fun f => decide (f.2.2 ≠ 0)) = true) :
    Does P w0 N D s a W o { val := .a cells } := by
  obtain ⟨n, d, z, h1, h2, h3, rfl⟩ := conv_spec hc
  simp only at hk hf
  cases d with
  | struct fields =>
    simp only [kindOf, TK.st.injEq] at hk
    have hsz : ∀ f ∈ fields.toList, P.cellsOf f.type ≠ 0 := fun f hf => by
      rw [← hk, List.all_eq_true] at hall
      have := hall (f.offset, f.type, P.cellsOf f.type) (List.mem_map.2 ⟨f, hf, rfl⟩)
      simpa using this
    have hplace : ∀ j, placeSt fs j = ((fields.toList.map fun f => (f.offset, P.cellsOf f.type)).toArray[j]? : Option (Nat × Nat)) := fun j => by
      rw [← hk]
      simp only [placeSt, List.getElem?_map, List.getElem?_toArray]
      cases hj : fields.toList[j]? with
      | none => simp
      | some f =>
        have := hsz f (List.mem_of_getElem? hj)
        simp [this]
    rw [funext hplace] at hf
    have hrels : Rels ρ ((zip1 (parts.toList.map (·.1)) ((parts.toList.map (·.2)).map (ev s.sl))).map (·.2)) ((parts.map fun (i, x) => (i, a.eval x)).toList.map (·.2)) := by
      rw [parts_map2, parts_vals]; exact evs_rel hrep _
    obtain ⟨vs, hfill, hr⟩ := fill_ok _ (parts.map fun (i, x) => (i, a.eval x)).toList _ z.cells.toList _ (parts_map s a parts) hrels (Rels.vals _) hf
    refine Does.value hrep hd (y := .agg vs.toArray) ?_ (by simp only [Rel]; exact ⟨vs, rfl, hr⟩) (fun k hk => ?_)
    · simp only [execOp, hop, Instr.build, Sem.run_bind, run_zeroValue' h1 h3, Result.andThen_ok, run_underlying' h2, run_mapM_places fields hsz]
      rw [show z.cells = z.cells.toList.toArray by simp]
      rw [hfill]
      simp
    · simp only [SV.has] at hk
      rcases fillS_has _ _ _ hf hk with hk | hk
      · exact (hasl_vals hk).elim
      · rw [parts_map2] at hk; exact evs_wf hrep hk
  | _ => simp [kindOf] at hk

theorem does_build_arr (hrep : Rep w0 N D ρ s a W) {o : Oper} {t : TypeId} {parts : Array (Nat × Operand)} (hop : o.op = .build t parts) (hd : ∀ d, o.dst = some d → d < N) {i : TI} (hc : conv P t = some i) {m e es : Nat}
    (hk : i.kind = .arr m e es) (hes : es ≠ 0) {cells : List SV}
    (hf : fillS (fun i => some (i * es, es)) (i.zero.map .v) (zip1 (parts.toList.map (·.1)) ((parts.toList.map (·.2)).map (ev s.sl))) = some cells) :
    Does P w0 N D s a W o { val := .a cells } := by
  obtain ⟨n, d, z, h1, h2, h3, rfl⟩ := conv_spec hc
  simp only at hk hf
  cases d with
  | array m' e' =>
    simp only [kindOf, TK.arr.injEq] at hk
    obtain ⟨rfl, rfl, rfl⟩ := hk
    have hrels : Rels ρ ((zip1 (parts.toList.map (·.1)) ((parts.toList.map (·.2)).map (ev s.sl))).map (·.2)) ((parts.map fun (i, x) => (i, a.eval x)).toList.map (·.2)) := by
      rw [parts_map2, parts_vals]; exact evs_rel hrep _
    obtain ⟨vs, hfill, hr⟩ := fill_ok _ (parts.map fun (i, x) => (i, a.eval x)).toList _ z.cells.toList _ (parts_map s a parts) hrels (Rels.vals _) hf
    refine Does.value hrep hd (y := .agg vs.toArray) ?_ (by simp only [Rel]; exact ⟨vs, rfl, hr⟩) (fun k hk => ?_)
    · simp only [execOp, hop, Instr.build, Sem.run_bind, run_zeroValue' h1 h3, Result.andThen_ok, run_underlying' h2, cellsOf_run hes]
      rw [show z.cells = z.cells.toList.toArray by simp]
      rw [hfill]
      simp
    · simp only [SV.has] at hk
      rcases fillS_has _ _ _ hf hk with hk | hk
      · exact (hasl_vals hk).elim
      · rw [parts_map2] at hk; exact evs_wf hrep hk
  | _ => simp [kindOf] at hk

theorem does_buildSlice (hrep : Rep w0 N D ρ s a W) {o : Oper} {t : TypeId} {len : Nat} {parts : Array (Nat × Operand)} (hop : o.op = .buildSlice t len parts) (hd : ∀ d, o.dst = some d → d < N) {i ei : TI} (hc : conv P t = some i) {e es bytes : Nat}
    (hk : i.kind = .slice e es bytes) (hes : es ≠ 0) (hce : conv P e = some ei) (hle : len * es ≤ 2 ^ 24) (hz : ei.zero.length = es) {cells : List SV} {fr : Nat} (hfr : s.bk fr = .un)
    (hf : fillS (fun i => some (i * es, es)) ((List.range (len * es)).map fun i => .v (ei.zero.getD (i % es) undef)) (zip1 (parts.toList.map (·.1)) ((parts.toList.map (·.2)).map (ev s.sl))) = some cells)
    (hlc : cells.length = len * es) :
    Does P w0 N D s a W o { val := .s fr 0 len es, ups := [(fr, .live true false cells)] } := by
  obtain ⟨n, d, z, h1, h2, h3, rfl⟩ := conv_spec hc
  obtain ⟨ne, de, ze, g1, g2, g3, rfl⟩ := conv_spec hce
  simp only at hk hf hz
  cases d with
  | slice e' =>
    simp only [kindOf, TK.slice.injEq] at hk
    obtain ⟨rfl, rfl, rfl⟩ := hk
    have hrels : Rels ρ ((zip1 (parts.toList.map (·.1)) ((parts.toList.map (·.2)).map (ev s.sl))).map (·.2)) ((parts.map fun (i, x) => (i, a.eval x)).toList.map (·.2)) := by
      rw [parts_map2, parts_vals]; exact evs_rel hrep _
    have hz' : ze.cells.size = P.cellsOf e' := by rw [← hz]; simp
    have hzero : Rels ρ ((List.range (len * P.cellsOf e')).map fun i => SV.v (ze.cells.toList.getD (i % P.cellsOf e') undef)) ((List.range (len * P.cellsOf e')).map fun i => ze.cells[i % ze.cells.size]!) := by
      have : (List.range (len * P.cellsOf e')).map (fun i => SV.v (ze.cells.toList.getD (i % P.cellsOf e') undef)) = ((List.range (len * P.cellsOf e')).map fun i => ze.cells[i % ze.cells.size]!).map SV.v := by
        simp only [List.map_map]
        refine List.map_congr_left fun i _ => ?_
        simp only [Function.comp]
        have hlt : i % P.cellsOf e' < ze.cells.size := by rw [hz']; exact Nat.mod_lt _ (Nat.pos_of_ne_zero hes)
        congr 1
        rw [hz', Array.getElem!_eq_getD, Array.getD_eq_getD_getElem?, List.getD_eq_getElem?_getD]
        simp [hlt]
      rw [this]; exact Rels.vals _
    obtain ⟨vs, hfill, hr⟩ := fill_ok _ (parts.map fun (i, x) => (i, a.eval x)).toList _ _ _ (parts_map s a parts) hrels hzero hf
    have hvl := hr.length
    refine Does.new (vs := vs) (rest := []) (ty := e') (y := .slice (some ⟨W.heap.size, 0, none⟩) len len) hrep hd hfr ?_ hr (fun j hj => ?_) ?_ (by simp [SV.has])
    · simp only [execOp, hop, Instr.buildSlice, Sem.run_bind, Result.andThen_ok, run_underlying' h2, cellsOf_run hes]
      have hnz : ¬ len * P.cellsOf e' > 2 ^ 24 := by omega
      simp only [hnz, if_false]
      have hrun0 : (do if len * P.cellsOf e' = 0 then pure #[] else (do pure (← zeroValue e').cells) : Sem (Array Value)).run P W = .ok (if len * P.cellsOf e' = 0 then #[] else ze.cells) W := by
        split <;> simp [run_zeroValue' g1 g3]
      by_cases h0 : len * P.cellsOf e' = 0
      · simp only [h0, if_true, Sem.run_pure, Result.andThen_ok]
        simp only [h0] at hfill
        simp only [Array.range, List.range_zero, List.map_nil] at hfill ⊢
        have : (Array.ofFn (n := 0) fun i => (i : Nat)) = #[] := by simp
        simp only [Array.ofFn_zero, Array.map_empty, hfill]
        simp [run_newRow]
      · simp only [h0, if_false, Sem.run_bind, run_zeroValue' g1 g3, Result.andThen_ok, Sem.run_pure]
        have hr2 : (Array.range (len * P.cellsOf e')).map (fun i => ze.cells[i % ze.cells.size]!) = ((List.range (len * P.cellsOf e')).map fun i => ze.cells[i % ze.cells.size]!).toArray := by
          apply Array.ext'; simp [Array.toList_range]
        rw [hr2, hfill]
        simp [run_newRow]
    · rcases fillS_has _ _ _ hf hj with hj | hj
      · rw [hasl_iff] at hj
        obtain ⟨x, hx, hk⟩ := hj
        obtain ⟨q, _, rfl⟩ := List.mem_map.1 hx
        exact (has_val hk).elim
      · rw [parts_map2] at hj; exact evs_wf hrep hj
    · simp only [Rel]
      refine .inr ⟨W.heap.size, 0, (vs ++ []).length, len, 0, by simp, by simp, Nat.le_refl _, ?_, fun _ => rfl⟩
      simp only [List.append_nil]
      omega
  | _ => simp [kindOf] at hk

end
end Go.Aw

namespace Go.Aw
open Go.RowKit
set_option linter.unusedVariables false
set_option linter.unusedSimpArgs false

section
variable {P : Program} {T : Nat → Option TI} {w0 : Cx} {N : Nat} {D : List Deferred} {ρ : Env} {s : FS} {a : Act} {W : World}

/-! ### Equality of values -/
def mkVal (agg : Bool) (vs : List Value) : Value := if agg = true then .agg vs.toArray else vs.headD undef

theorem rels1 {ρ : Env} {x : SV} {vs : List Value} (h : Rels ρ [x] vs) : ∃ y, vs = [y] ∧ Rel ρ x y := by
  match vs, h with
  | [y], h => simp only [Rels] at h; exact ⟨y, rfl, h.1⟩
  | [], h => simp [Rels] at h
  | _ :: _ :: _, h => simp [Rels] at h

theorem run_part {t : Nat} {n : TypeInfo} {d : TypeDesc} (h1 : P.info? t = some n) (h2 : P.underlying t = some d) {vs : List Value} {off : Nat} (hl : ((vs.drop off).take n.size).length = n.size) (h0 : isAggD d = false → n.size ≠ 0) :
    (part t vs.toArray off).run P W = .ok (mkVal (isAggD d) ((vs.drop off).take n.size)) W := by
  simp only [part, Sem.run_bind, run_isAgg' h2, Result.andThen_ok]
  cases hd : isAggD d with
  | true =>
    simp only [if_true, Sem.run_bind, run_sizeOf' h1, Result.andThen_ok, Sem.run_pure, mkVal]
    congr 2
    apply Array.ext'
    simp [List.extract_eq_take_drop]
  | false =>
    have := h0 hd
    simp only [List.length_take, List.length_drop] at hl
    have hlt : off < vs.length := by omega
    have e1 : (vs.toArray)[off]? = some vs[off] := by simp [hlt]
    simp only [Bool.false_eq_true, if_false, e1, mkVal]
    have : (vs.drop off).take n.size = vs[off] :: ((vs.drop (off + 1)).take (n.size - 1)) := by
      obtain ⟨m, hn⟩ : ∃ m, n.size = m + 1 := ⟨n.size - 1, by omega⟩
      rw [hn, List.drop_eq_getElem_cons hlt, List.take_succ_cons]; simp
    simp [this]

theorem eqC_ok (hT : TOk P T) : ∀ (d t : Nat) (xs ys : List SV) (vs us : List Value) (r : Bool), eqC T d t xs ys = some r → Rels ρ xs vs → Rels ρ ys us →
    ∀ (i : TI), conv P t = some i → ∀ m, d ≤ m → (Op.equalIn m t (mkVal i.agg vs) (mkVal i.agg us)).run P W = .ok r W
  | 0, t, xs, ys, vs, us, r, h, _, _, _, _, _, _ => by simp [eqC] at h
  | d + 1, t, xs, ys, vs, us, r, h, hx, hy, i, hi, m, hm => by
    obtain ⟨m', rfl⟩ : ∃ m', m = m' + 1 := ⟨m - 1, by omega⟩
    obtain ⟨n, de, z, h1, h2, h3, hie⟩ := conv_spec hi
    simp only [eqC] at h
    split at h
    · cases h
    rename_i i0 hTt
    have hii : i0 = i := by have := (hT t _ hTt).symm.trans hi; simpa using this
    subst hii
    split at h
    · rename_i k hk
      rw [hie] at hk
      simp only at hk
      cases de <;> simp [kindOf] at hk
      subst hk
      split at h
      · rename_i k1 a1 k2 b1
        split at h
        · rename_i hkk
          subst hkk
          simp only [Option.some.injEq] at h
          obtain ⟨y1, rfl, e1⟩ := rels1 hx
          obtain ⟨y2, rfl, e2⟩ := rels1 hy
          simp only [Rel] at e1 e2
          subst e1 e2
          rw [hie]
          simp only [mkVal, isAggD, Bool.false_eq_true, if_false, List.headD_cons]
          rw [run_equalIn_int W m' t _ _ a1 b1 h2, h]
        · cases h
      · cases h
    · rename_i hk
      rw [hie] at hk
      simp only at hk
      cases de <;> simp [kindOf] at hk
      have key : ∀ (p q : Bool), vs = [.bool p] → us = [.bool q] → (p == q) = r → (Op.equalIn (m' + 1) t (mkVal i0.agg vs) (mkVal i0.agg us)).run P W = .ok r W := fun p q e1 e2 e3 => by
        subst e1 e2
        rw [hie]
        simp only [mkVal, isAggD, Bool.false_eq_true, if_false, List.headD_cons]
        rw [run_equalIn_bool' W m' t p q h2, e3]
      split at h <;> first
        | (simp only [Option.some.injEq] at h
           obtain ⟨y1, rfl, e1⟩ := rels1 hx
           obtain ⟨y2, rfl, e2⟩ := rels1 hy
           simp only [Rel] at e1 e2
           subst e1 e2
           exact key _ _ rfl rfl h)
        | cases h
    · rename_i fs hk
      split at h
      · rename_i hok
        rw [hie] at hk hok
        simp only at hk hok
        cases de <;> simp [kindOf] at hk
        rename_i fields
        simp only [Bool.and_eq_true, Bool.not_eq_true'] at hok
        obtain ⟨⟨hok1, hok2⟩, hok3⟩ := hok
        simp only [noBlank, List.all_eq_true] at hok3
        rw [hie]
        simp only [mkVal, isAggD, if_true]
        have hfo : P.fieldsOf t = fields := by simp [Program.fieldsOf, h2]
        rw [run_equalIn_struct W m' t _ _ (by rw [hfo]; exact h2) hok1, hfo]
        -- the fields, one after the other
        have go : ∀ (fl : List Field) (r : Bool), (∀ f ∈ fl, (f.name != "_") = true) →
            (fl.map fun f => (f.offset, f.type, P.cellsOf f.type)).foldr (fun f r => if ((xs.drop f.1).take f.2.2).length = f.2.2 ∧ ((ys.drop f.1).take f.2.2).length = f.2.2 ∧ f.2.2 ≠ 0 then
              match eqC T d f.2.1 ((xs.drop f.1).take f.2.2) ((ys.drop f.1).take f.2.2), r with
              | some x, some y => some (x && y)
              | _, _ => none
              else none) (some true) = some r →
            (Op.eqFields m' vs.toArray us.toArray fl).run P W = .ok r W := by
          intro fl
          induction fl with
          | nil => intro r _ h; simp only [List.map_nil, List.foldr_nil, Option.some.injEq] at h; subst h; simp [Op.eqFields]
          | cons f fl ih =>
            intro r hn h
            simp only [List.map_cons, List.foldr_cons] at h
            have hne : f.name ≠ "_" := by have := hn f (by simp); simpa using this
            split at h
            · rename_i hlens
              obtain ⟨hl1, hl2, hl3⟩ := hlens
              split at h
              · rename_i x y hx1 hy1
                simp only [Option.some.injEq] at h
                have ih' := ih y (fun g hg => hn g (by simp [hg])) hy1
                -- the field's own type
                have hd0 : ∃ i', conv P f.type = some i' := by
                  cases d with
                  | zero => simp [eqC] at hx1
                  | succ d' =>
                    simp only [eqC] at hx1
                    split at hx1
                    · cases hx1
                    · rename_i i' hTf; exact ⟨_, hT _ _ hTf⟩
                obtain ⟨i', hi'⟩ := hd0
                obtain ⟨n', de', z', g1, g2, g3, hie'⟩ := conv_spec hi'
                have hcs : P.cellsOf f.type = n'.size := by simp [Program.cellsOf, g1]
                rw [hcs] at hl1 hl2 hl3 hx1
                have rx : Rels ρ ((xs.drop f.offset).take n'.size) ((vs.drop f.offset).take n'.size) := Rels.take _ (Rels.drop _ hx)
                have ry : Rels ρ ((ys.drop f.offset).take n'.size) ((us.drop f.offset).take n'.size) := Rels.take _ (Rels.drop _ hy)
                have heq := eqC_ok hT d f.type _ _ _ _ x hx1 rx ry i' hi' m' (by omega)
                have px := run_part (P := P) (W := W) g1 g2 (vs := vs) (off := f.offset) (by rw [← rx.length]; exact hl1) (fun _ => hl3)
                have py := run_part (P := P) (W := W) g1 g2 (vs := us) (off := f.offset) (by rw [← ry.length]; exact hl2) (fun _ => hl3)
                rw [hie'] at heq
                simp only at heq
                simp only [Op.eqFields, hne, ne_eq, not_false_eq_true, if_true, Sem.run_bind, px, py, Result.andThen_ok, heq]
                cases x with
                | false => simp at h; subst h; simp
                | true => simp at h; subst h; simp [ih']
              · cases h
            · cases h
        exact go fields.toList r (fun f hf => hok3 f hf) (by rw [hk]; exact h)
      · cases h
    · cases h

end
end Go.Aw

namespace Go.Aw
open Go.RowKit
set_option linter.unusedVariables false
set_option linter.unusedSimpArgs false

section
variable {P : Program} {T : Nat → Option TI} {w0 : Cx} {N : Nat} {D : List Deferred} {ρ : Env} {s : FS} {a : Act} {W : World}

theorem binV_run {op : BinOp} {t : TypeId} {k k' : IntKind} {p q : Int} {r : SV} {obs : List Ob} (h : binV op k p q = some (r, obs)) (hk : op ≠ .shl → op ≠ .shr → k = k') (hob : Obs P obs) :
    ∃ v, r = .v v ∧ (binOp op t (.int k p) (.int k' q)).run P W = .ok v W := by
  cases op <;> simp only [binV] at h <;> first
    | (cases h; done)
    | (simp only [Option.some.injEq, Prod.mk.injEq] at h
       obtain ⟨rfl, rfl⟩ := h
       obtain rfl := hk (by simp) (by simp)
       simp only [Obs, Ob.Holds, and_true] at hob
       refine ⟨_, rfl, ?_⟩
       simp [binOp, Op.intArith, Op.intDiv, Op.intCmp, Op.intBits, Op.shift, hob]
       done)
    | (simp only [Option.some.injEq, Prod.mk.injEq] at h
       obtain ⟨rfl, rfl⟩ := h
       simp only [Obs, Ob.Holds, and_true] at hob
       refine ⟨_, rfl, ?_⟩
       have : ¬ q < 0 := by omega
       simp [binOp, Op.shift, this])

theorem does_binV (hrep : Rep w0 N D ρ s a W) {o : Oper} {op : BinOp} {t ty : TypeId} {x y : Operand} (hop : o.op = .binOp op t x y ty) (hd : ∀ d, o.dst = some d → d < N) {k k' : IntKind} {p q : Int}
    (hx : ev s.sl x = .v (.int k p)) (hy : ev s.sl y = .v (.int k' q)) {r : SV} {obs : List Ob} (h : binV op k p q = some (r, obs)) (hk : op ≠ .shl → op ≠ .shr → k = k') (hob : Obs P obs) :
    Does P w0 N D s a W o { val := r } := by
  have hxr := ev_rel hrep x
  have hyr := ev_rel hrep y
  rw [hx] at hxr; rw [hy] at hyr
  simp only [Rel] at hxr hyr
  have hg : (eqGuard op t x y (.int k p) (.int k' q)).run P W = .ok () W := by cases op <;> simp [eqGuard]
  obtain ⟨v, rfl, hr⟩ := binV_run (P := P) (W := W) (t := t) h hk hob
  refine Does.value hrep hd (y := v) ?_ (by simp only [Rel]) (fun j hj => (has_val hj).elim)
  simp only [execOp, hop, hxr, hyr, Sem.run_bind, hg, Result.andThen_ok, hr, Sem.run_pure]

theorem minV_ok (hrep : Rep w0 N D ρ s a W) {k : IntKind} : ∀ (xs : List SV) (vs : List Value) (p : Int) (r : SV), minV k p xs = some r → Rels ρ xs vs →
    ∃ v, (vs.foldlM Builtin.min2 (.int k p)).run P W = .ok v W ∧ Rel ρ r v ∧ ∀ j, ¬ r.has j
  | [], vs, p, r, h, hr => by
    simp only [minV, Option.some.injEq] at h
    subst h
    match vs, hr with
    | [], _ => exact ⟨_, rfl, by simp [Rel], fun j hj => has_val hj⟩
    | _ :: _, hr => simp [Rels] at hr
  | x :: xs, vs, p, r, h, hr => by
    match vs, hr with
    | [], hr => simp [Rels] at hr
    | v :: vs, hr =>
      simp only [Rels] at hr
      unfold minV at h
      split at h
      · rename_i heq; cases heq
      · rename_i k' b l heq
        simp only [List.cons.injEq] at heq
        obtain ⟨rfl, rfl⟩ := heq
        have hv := hr.1
        simp only [Rel] at hv
        subst hv
        obtain ⟨v, hv, hrel⟩ := minV_ok hrep xs vs _ r h hr.2
        refine ⟨v, ?_, hrel⟩
        simp only [List.foldlM_cons, Sem.run_bind, Builtin.min2, Sem.run_pure, Result.andThen_ok]
        exact hv
      · cases h

theorem maxV_ok (hrep : Rep w0 N D ρ s a W) {k : IntKind} : ∀ (xs : List SV) (vs : List Value) (p : Int) (r : SV), maxV k p xs = some r → Rels ρ xs vs →
    ∃ v, (vs.foldlM Builtin.max2 (.int k p)).run P W = .ok v W ∧ Rel ρ r v ∧ ∀ j, ¬ r.has j
  | [], vs, p, r, h, hr => by
    simp only [maxV, Option.some.injEq] at h
    subst h
    match vs, hr with
    | [], _ => exact ⟨_, rfl, by simp [Rel], fun j hj => has_val hj⟩
    | _ :: _, hr => simp [Rels] at hr
  | x :: xs, vs, p, r, h, hr => by
    match vs, hr with
    | [], hr => simp [Rels] at hr
    | v :: vs, hr =>
      simp only [Rels] at hr
      unfold maxV at h
      split at h
      · rename_i heq; cases heq
      · rename_i k' b l heq
        simp only [List.cons.injEq] at heq
        obtain ⟨rfl, rfl⟩ := heq
        have hv := hr.1
        simp only [Rel] at hv
        subst hv
        obtain ⟨v, hv, hrel⟩ := maxV_ok hrep xs vs _ r h hr.2
        refine ⟨v, ?_, hrel⟩
        simp only [List.foldlM_cons, Sem.run_bind, Builtin.max2, Sem.run_pure, Result.andThen_ok]
        exact hv
      · cases h

theorem lenV_ok (hT : TOk P T) {t : Nat} {x r : SV} {y : Value} (h : lenV T t x = some r) (hr : Rel ρ x y) : ∃ n d, P.underlying t = some (.slice d) ∧ (∃ b c, y = .slice b n c) ∧ r = iv n := by
  have key : ∀ i : TI, T t = some i → ∀ e es by', i.kind = .slice e es by' → ∃ d, P.underlying t = some (.slice d) := fun i hi e es by' hk => by
    obtain ⟨n, de, z, h1, h2, h3, hie⟩ := conv_spec (hT t i hi)
    rw [hie] at hk
    simp only at hk
    cases de <;> simp [kindOf] at hk
    exact ⟨_, h2⟩
  unfold lenV at h
  split at h
  · rename_i k off len es
    split at h
    · rename_i i hi
      split at h
      · rename_i e es' by' hk
        obtain ⟨d, hd⟩ := key i hi _ _ _ hk
        simp only [Option.some.injEq] at h
        simp only [Rel] at hr
        rcases hr with ⟨_, rfl, rfl⟩ | ⟨b, o, n, cap, off', _, rfl, _⟩
        · exact ⟨0, d, hd, ⟨_, _, rfl⟩, h.symm⟩
        · exact ⟨len, d, hd, ⟨_, _, rfl⟩, h.symm⟩
      · cases h
    · cases h
  · rename_i b len c
    split at h
    · rename_i i hi
      split at h
      · rename_i e es' by' hk
        obtain ⟨d, hd⟩ := key i hi _ _ _ hk
        simp only [Option.some.injEq] at h
        simp only [Rel] at hr
        exact ⟨len, d, hd, ⟨_, _, hr⟩, h.symm⟩
      · cases h
    · cases h
  · cases h

theorem placeSt_spec (P : Program) {fields : Array Field} {f off size : Nat} (h : placeSt (fields.toList.map fun f => (f.offset, f.type, P.cellsOf f.type)) f = some (off, size)) :
    ∃ fd, fields[f]? = some fd ∧ off = fd.offset ∧ P.cellsOf fd.type ≠ 0 := by
  unfold placeSt at h
  simp only [List.getElem?_map] at h
  cases hf : fields.toList[f]? with
  | none => simp [hf] at h
  | some fd =>
    simp only [hf, Option.map_some] at h
    split at h
    · cases h
    · rename_i hne
      simp only [Option.some.injEq, Prod.mk.injEq] at h
      exact ⟨fd, by simpa using hf, h.1.symm, hne⟩

theorem does_fieldAddr (hrep : Rep w0 N D ρ s a W) {o : Oper} {t f : Nat} {x : Operand} (hop : o.op = .fieldAddr t x f) (hd : ∀ d, o.dst = some d → d < N) {k off : Nat} (hx : ev s.sl x = .p k off) {i : TI} (hc : conv P t = some i)
    {fs : List (Nat × Nat × Nat)} (hk : i.kind = .st fs) {fd : Nat × Nat} (hf : placeSt fs f = some fd) : Does P w0 N D s a W o { val := .p k (off + fd.1) } := by
  obtain ⟨n, de, z, h1, h2, h3, rfl⟩ := conv_spec hc
  simp only at hk
  cases de <;> simp [kindOf] at hk
  rename_i fields
  subst hk
  obtain ⟨fd, hfd, e1, e2⟩ := placeSt_spec P (off := fd.1) (size := fd.2) hf
  have hxr := ev_rel hrep x
  have hxw := ev_wf hrep x
  rw [hx] at hxr hxw
  simp only [Rel] at hxr
  obtain ⟨b, o', m, hρ, hy⟩ := hxr
  refine Does.value hrep hd (y := .pointer (some ⟨b, o' + off + fd.offset, none⟩)) ?_ ?_ (fun j hj => hxw j (by simpa [SV.has] using hj))
  · simp only [execOp, hop, hy, Instr.fieldAt, Sem.run_bind, run_underlying' h2, Result.andThen_ok, hfd, Instr.sureAddr, Sem.run_pure, fieldPlace, cellsOf_run e2]
    simp only [e2, if_false, Sem.run_pure, Result.andThen_ok, add_eq]
  · simp only [Rel]
    exact ⟨b, o', m, hρ, by rw [e1]; simp [Nat.add_assoc]⟩

theorem does_indexArr (hrep : Rep w0 N D ρ s a W) {o : Oper} {t : Nat} {x y : Operand} (hop : o.op = .indexAddr t x y) (hd : ∀ d, o.dst = some d → d < N) {k off : Nat} (hx : ev s.sl x = .p k off) {kk : IntKind} {n : Int} (hy : ev s.sl y = .v (.int kk n))
    {i : TI} (hc : conv P t = some i) {len e es : Nat} (hk : i.kind = .arr len e es) (hes : es ≠ 0) (hn : 0 ≤ n ∧ n < len) : Does P w0 N D s a W o { val := .p k (off + n.toNat * es) } := by
  obtain ⟨m, de, z, h1, h2, h3, rfl⟩ := conv_spec hc
  simp only at hk
  cases de <;> simp [kindOf] at hk
  obtain ⟨rfl, rfl, hes'⟩ := hk
  have hso : ∀ W, (sizeOf _).run P W = .ok es W := fun W => by rw [← hes']; exact cellsOf_run (by rw [hes']; exact hes) W
  have hxr := ev_rel hrep x
  have hxw := ev_wf hrep x
  have hyr := ev_rel hrep y
  rw [hx] at hxr hxw
  rw [hy] at hyr
  simp only [Rel] at hxr hyr
  obtain ⟨b, o', m', hρ, hx'⟩ := hxr
  refine Does.value hrep hd (y := .pointer (some ⟨b, o' + off + n.toNat * es, none⟩)) ?_ ?_ (fun j hj => hxw j (by simpa [SV.has] using hj))
  · simp only [execOp, hop, hx', hyr, Instr.indexAt, Sem.run_bind, asIntOf, Sem.run_pure, Result.andThen_ok, run_underlying' h2, Instr.sureAddr]
    simp only [hn, and_self, if_true, Sem.run_bind, hso, Result.andThen_ok, Sem.run_pure, add_eq]
  · simp only [Rel]
    exact ⟨b, o', m', hρ, by simp [Nat.add_assoc]⟩

theorem does_index (hrep : Rep w0 N D ρ s a W) {o : Oper} {t : Nat} {x y : Operand} (hop : o.op = .index t x y) (hd : ∀ d, o.dst = some d → d < N) {cells : List SV} (hx : ev s.sl x = .a cells) {kk : IntKind} {n : Int} (hy : ev s.sl y = .v (.int kk n))
    {i : TI} (hc : conv P t = some i) {len e es : Nat} (hk : i.kind = .arr len e es) {ei : TI} (hce : conv P e = some ei) (hes : es ≠ 0) (hsz : ei.size = es) (hl : ((cells.drop (n.toNat * es)).take es).length = es) {v : SV} (hv : mkV ei.agg ((cells.drop (n.toNat * es)).take es) = some v) (hn : 0 ≤ n ∧ n < len) :
    Does P w0 N D s a W o { val := v } := by
  obtain ⟨m, de, z, h1, h2, h3, rfl⟩ := conv_spec hc
  simp only at hk
  cases de <;> simp [kindOf] at hk
  obtain ⟨rfl, rfl, hes'⟩ := hk
  obtain ⟨m', de', z', g1, g2, g3, rfl⟩ := conv_spec hce
  have hso : ∀ W, (sizeOf _).run P W = .ok es W := fun W => by rw [← hes']; exact cellsOf_run (by rw [hes']; exact hes) W
  have hxr := ev_rel hrep x
  have hxw := ev_wf hrep x
  have hyr := ev_rel hrep y
  rw [hx] at hxr hxw
  rw [hy] at hyr
  simp only [Rel] at hxr hyr
  obtain ⟨vs, hx', hrs⟩ := hxr
  have hrr : Rels ρ ((cells.drop (n.toNat * es)).take es) ((vs.drop (n.toNat * es)).take es) := Rels.take _ (Rels.drop _ hrs)
  simp only at hsz
  have hpl : ((vs.drop (n.toNat * es)).take m'.size).length = m'.size := by rw [hsz, ← hrr.length]; exact hl
  refine Does.value hrep hd (y := mkVal (isAggD de') ((vs.drop (n.toNat * es)).take m'.size)) ?_ ?_ (fun j hj => hxw j ?_)
  · simp only [execOp, hop, hx', hyr, Instr.index, Sem.run_bind, asIntOf, Sem.run_pure, Result.andThen_ok, run_underlying' h2]
    simp only [hn, and_self, if_true, Sem.run_bind, hso, Result.andThen_ok, run_part g1 g2 hpl (fun _ => by rw [hsz]; exact hes)]
  · rw [hsz]; exact mkV_rel hv hrr
  · have := mkV_has hv hj
    simp only [SV.has]
    exact hasl_drop (hasl_take this)

theorem does_indexSlice (hrep : Rep w0 N D ρ s a W) {o : Oper} {t : Nat} {x y : Operand} (hop : o.op = .indexAddr t x y) (hd : ∀ d, o.dst = some d → d < N) {k off len es' : Nat} (hx : ev s.sl x = .s k off len es') {kk : IntKind} {n : Int} (hy : ev s.sl y = .v (.int kk n))
    {i : TI} (hc : conv P t = some i) {e es bytes : Nat} (hk : i.kind = .slice e es bytes) (hes : es ≠ 0) (hn : 0 ≤ n ∧ n < len) : Does P w0 N D s a W o { val := .p k (off + n.toNat * es) } := by
  obtain ⟨m, de, z, h1, h2, h3, rfl⟩ := conv_spec hc
  simp only at hk
  cases de <;> simp [kindOf] at hk
  obtain ⟨rfl, hes', _⟩ := hk
  have hso : ∀ W, (sizeOf _).run P W = .ok es W := fun W => by rw [← hes']; exact cellsOf_run (by rw [hes']; exact hes) W
  have hxr := ev_rel hrep x
  have hxw := ev_wf hrep x
  have hyr := ev_rel hrep y
  rw [hx] at hxr hxw
  rw [hy] at hyr
  simp only [Rel] at hxr hyr
  rcases hxr with ⟨_, h0, _⟩ | ⟨b, o', m', cap, off', hρ, hx', hcl, _, hoff⟩
  · subst h0; omega
  have hoff := hoff (by omega)
  rw [hoff] at hx'
  refine Does.value hrep hd (y := .pointer (some ⟨b, o' + off + n.toNat * es, none⟩)) ?_ ?_ (fun j hj => hxw j (by simpa [SV.has] using hj))
  · simp only [execOp, hop, hx', hyr, Instr.indexAt, Sem.run_bind, asIntOf, Sem.run_pure, Result.andThen_ok, run_underlying' h2]
    simp only [hn, and_self, if_true, Sem.run_bind, hso, Result.andThen_ok, Sem.run_pure, add_eq]
  · simp only [Rel]
    exact ⟨b, o', m', hρ, by simp [Nat.add_assoc]⟩

theorem does_sliceArr (hrep : Rep w0 N D ρ s a W) {o : Oper} {t : Nat} {x : Operand} (hop : o.op = .slice t x none none none) (hd : ∀ d, o.dst = some d → d < N) {k off : Nat} (hx : ev s.sl x = .p k off)
    {own : Bool} {cells : List SV} (hb : s.bk k = .live own false cells) {i : TI} (hc : conv P t = some i) {len e es : Nat} (hk : i.kind = .arr len e es) (hes : es ≠ 0) (hl : off + len * es ≤ cells.length) :
    Does P w0 N D s a W o { val := .s k off len es } := by
  obtain ⟨m, de, z, h1, h2, h3, rfl⟩ := conv_spec hc
  simp only at hk
  cases de <;> simp [kindOf] at hk
  rename_i len' e'
  obtain ⟨rfl, rfl, hes'⟩ := hk
  have hso : ∀ W, (sizeOf _).run P W = .ok es W := fun W => by rw [← hes']; exact cellsOf_run (by rw [hes']; exact hes) W
  have hxr := ev_rel hrep x
  have hxw := ev_wf hrep x
  rw [hx] at hxr hxw
  simp only [Rel] at hxr
  obtain ⟨b, o', m', hρ, hx'⟩ := hxr
  have hbk := hrep.bk k
  rw [hb] at hbk
  rcases hbk.read with ⟨he, _⟩ | ⟨b', o'', m'', vs, e1, ⟨e2, e2'⟩, _, _⟩
  · rw [hρ] at he; cases he
  rw [hρ] at e1; cases e1
  have hlen := e2.length
  refine Does.value hrep hd (y := .slice (some ⟨b, o' + off, none⟩) len' len') ?_ ?_ (fun j hj => hxw j (by simpa [SV.has] using hj))
  · simp only [execOp, hop, hx', Instr.sliceAt, Option.map_none, Sem.run_bind, run_underlying' h2, Result.andThen_ok, Instr.sureAddr, Sem.run_pure, Instr.sliceBounds, hso]
    simp only [Nat.sub_zero]
    split
    · rename_i h0
      simp
    · simp [add_eq]
  · simp only [Rel]
    exact .inr ⟨b, o', _, _, off, hρ, rfl, Nat.le_refl _, by omega, fun _ => rfl⟩

theorem does_resliceLow (hrep : Rep w0 N D ρ s a W) {o : Oper} {t : Nat} {x y : Operand} (hop : o.op = .slice t x (some y) none none) (hd : ∀ d, o.dst = some d → d < N) {k off len es : Nat} (hx : ev s.sl x = .s k off len es) {kk : IntKind} {n : Int} (hy : ev s.sl y = .v (.int kk n))
    {i : TI} (hc : conv P t = some i) {e bytes : Nat} (hk : i.kind = .slice e es bytes) (hes : es ≠ 0) (hn : 0 ≤ n ∧ n ≤ len) : Does P w0 N D s a W o { val := .s k (off + n.toNat * es) (len - n.toNat) es } := by
  obtain ⟨m, de, z, h1, h2, h3, rfl⟩ := conv_spec hc
  simp only at hk
  cases de <;> simp [kindOf] at hk
  obtain ⟨rfl, hes', _⟩ := hk
  have hso : ∀ W, (sizeOf _).run P W = .ok es W := fun W => by rw [← hes']; exact cellsOf_run (by rw [hes']; exact hes) W
  have hxr := ev_rel hrep x
  have hxw := ev_wf hrep x
  have hyr := ev_rel hrep y
  rw [hx] at hxr hxw
  rw [hy] at hyr
  simp only [Rel] at hxr hyr
  rcases hxr with ⟨e1, rfl, hx'⟩ | ⟨b, o', m', cap, off', hρ, hx', hle, hcap, hoff⟩
  · have hn0 : n = 0 := by omega
    subst hn0
    refine Does.value hrep hd (y := .slice none 0 0) ?_ ?_ (fun j hj => hxw j (by simpa [SV.has] using hj))
    · simp only [execOp, hop, hx', hyr, Instr.sliceAt, Option.map_none, Option.map_some, Sem.run_bind, run_underlying' h2, Result.andThen_ok, Instr.slice, Sem.run_pure, Instr.sliceBounds, Instr.sliceBound, asIntOf, hso]
      simp
    · simp only [Rel]
      exact .inl ⟨e1, by simp, by first | trivial | rfl⟩
  · have hnc : n.toNat ≤ cap := by omega
    refine Does.value hrep hd (y := .slice (if cap = n.toNat then some ⟨b, o' + off', none⟩ else some ⟨b, o' + off' + n.toNat * es, none⟩) (len - n.toNat) (cap - n.toNat)) ?_ ?_ (fun j hj => hxw j (by simpa [SV.has] using hj))
    · simp only [execOp, hop, hx', hyr, Instr.sliceAt, Option.map_none, Option.map_some, Sem.run_bind, run_underlying' h2, Result.andThen_ok, Instr.slice, Sem.run_pure, Instr.sliceBounds, Instr.sliceBound, asIntOf, hso]
      simp only [hn, and_self, if_true, Sem.run_pure, Result.andThen_ok, hso, Sem.run_bind, Option.isSome_none, Bool.false_eq_true, if_false, Option.map_some, add_eq]
    · simp only [Rel]
      have hmul : n.toNat * es + (cap - n.toNat) * es = cap * es := by
        rw [← Nat.add_mul, Nat.add_sub_cancel' hnc]
      by_cases hcn : cap = n.toNat
      · rw [if_pos hcn]
        exact .inr ⟨b, o', m', cap - n.toNat, off', hρ, rfl, by omega, by rw [hcn]; simp; omega, fun h => by omega⟩
      · rw [if_neg hcn]
        refine .inr ⟨b, o', m', cap - n.toNat, off' + n.toNat * es, hρ, by simp [Nat.add_assoc], by omega, by omega, fun h => ?_⟩
        rw [hoff (by omega)]

theorem asB_rel {x : SV} {b : Bool} {y : Value} (h : asB x = some b) (hr : Rel ρ x y) : y = .bool b := by
  unfold asB at h
  split at h
  · simp only [Option.some.injEq] at h; subst h; simpa [Rel] using hr
  · simp only [Option.some.injEq] at h; subst h; simpa [Rel] using hr
  · cases h

theorem does_boolBin (hT : TOk P T) (hrep : Rep w0 N D ρ s a W) {o : Oper} {op : BinOp} {t ty : TypeId} {x y : Operand} (hop : o.op = .binOp op t x y ty) (hd : ∀ d, o.dst = some d → d < N)
    {r : SV} {obs : List Ob} (h : boolBin T op t (ev s.sl x) (ev s.sl y) = some (r, obs)) : Does P w0 N D s a W o { val := r } := by
  unfold boolBin at h
  split at h
  · rename_i p q i hx hy hi
    have hxv := asB_rel hx (ev_rel hrep x)
    have hyv := asB_rel hy (ev_rel hrep y)
    obtain ⟨n, de, z, h1, h2, h3, hie⟩ := conv_spec (hT t i hi)
    split at h
    · rename_i hk
      have hbool : P.underlying t = some .bool := by
        rw [h2]
        rw [hie] at hk
        simp only [kindOf] at hk
        cases de <;> simp at hk ⊢
      have hg : (eqGuard op t x y (.bool p) (.bool q)).run P W = .ok () W := by cases op <;> simp [eqGuard]
      split at h
      · simp only [Option.some.injEq, Prod.mk.injEq] at h
        obtain ⟨rfl, rfl⟩ := h
        refine Does.value hrep hd (y := .bool (p == q)) ?_ (by simp only [Rel]) (fun j hj => (has_val hj).elim)
        simp only [execOp, hop, hxv, hyv, Sem.run_bind, hg, Result.andThen_ok, run_eql_bool W t p q hbool, Sem.run_pure]
      · simp only [Option.some.injEq, Prod.mk.injEq] at h
        obtain ⟨rfl, rfl⟩ := h
        refine Does.value hrep hd (y := .bool (!(p == q))) ?_ (by simp only [Rel]) (fun j hj => (has_val hj).elim)
        simp only [execOp, hop, hxv, hyv, Sem.run_bind, hg, Result.andThen_ok, run_neq_bool W t p q hbool, Sem.run_pure]
      · cases h
    · cases h
  · cases h

theorem does_nilBin (hT : TOk P T) (hrep : Rep w0 N D ρ s a W) {o : Oper} {op : BinOp} {t ty : TypeId} {x y : Operand} (hop : o.op = .binOp op t x y ty) (hd : ∀ d, o.dst = some d → d < N)
    {r : SV} {obs : List Ob} (h : nilBin T op t (ev s.sl x) (ev s.sl y) = some (r, obs)) (hob : Obs P obs) : Does P w0 N D s a W o { val := r } := by
  have hslice : ∀ i, T t = some i → ∀ e es b, i.kind = .slice e es b → ∃ e', P.underlying t = some (.slice e') := by
    intro i hi e es b hk
    obtain ⟨n, de, z, h1, h2, h3, hie⟩ := conv_spec (hT t i hi)
    rw [hie] at hk
    cases de with
    | slice e' => exact ⟨e', h2⟩
    | _ => simp [kindOf] at hk
  have run : ∀ (b : Option Addr) (n c : Nat) (e' : TypeId), P.underlying t = some (.slice e') → a.eval x = .slice b n c → a.eval y = .slice none 0 0 →
      (op = .eql → (execOp a.eval o).run P W = .ok (.value (.bool b.isNone)) W) ∧ (op = .neq → (execOp a.eval o).run P W = .ok (.value (.bool (!b.isNone))) W) := by
    intro b n c e' ht hx hy
    have hg : (eqGuard op t x y (.slice b n c) (.slice none 0 0)).run P W = .ok () W := by cases op <;> simp [eqGuard]
    refine ⟨fun h => ?_, fun h => ?_⟩
    · subst h
      simp only [execOp, hop, hx, hy, Sem.run_bind, hg, Result.andThen_ok, Go.Lib.run_eql_slice_nil W t e' b n c 0 0 ht, Sem.run_pure]
    · subst h
      simp only [execOp, hop, hx, hy, Sem.run_bind, hg, Result.andThen_ok, run_neq_slice_nil W t e' b n c ht, Sem.run_pure]
  have hxr := ev_rel hrep x
  have hyr := ev_rel hrep y
  unfold nilBin at h
  split at h
  · rename_i k off n es hx hy
    rw [hx] at hxr; rw [hy] at hyr
    simp only [Rel] at hyr
    split at h
    · rename_i i hi
      split at h
      · rename_i e es' b hk
        obtain ⟨e', ht⟩ := hslice i hi e es' b hk
        have key : n ≠ 0 → ∃ b m c, a.eval x = .slice (some b) m c := by
          intro hn
          simp only [Rel] at hxr
          rcases hxr with ⟨_, h0, _⟩ | ⟨b, o, nn, cap, off', _, h1, _⟩
          · exact (hn h0).elim
          · exact ⟨_, _, _, h1⟩
        split at h
        · simp only [Option.some.injEq, Prod.mk.injEq] at h
          obtain ⟨rfl, rfl⟩ := h
          obtain ⟨b, m, c, hv⟩ := key hob.1
          refine Does.value hrep hd (y := .bool false) ?_ (by simp only [Rel]) (fun j hj => (has_val hj).elim)
          simpa using (run (some b) m c e' ht hv hyr).1 rfl
        · simp only [Option.some.injEq, Prod.mk.injEq] at h
          obtain ⟨rfl, rfl⟩ := h
          obtain ⟨b, m, c, hv⟩ := key hob.1
          refine Does.value hrep hd (y := .bool true) ?_ (by simp only [Rel]) (fun j hj => (has_val hj).elim)
          simpa using (run (some b) m c e' ht hv hyr).2 rfl
        · cases h
      · cases h
    · cases h
  · rename_i b n c hx hy
    rw [hx] at hxr; rw [hy] at hyr
    simp only [Rel] at hxr hyr
    split at h
    · rename_i i hi
      split at h
      · rename_i e es' b' hk
        obtain ⟨e', ht⟩ := hslice i hi e es' b' hk
        split at h
        · simp only [Option.some.injEq, Prod.mk.injEq] at h
          obtain ⟨rfl, rfl⟩ := h
          exact Does.value hrep hd (y := .bool b.isNone) ((run b n c e' ht hxr hyr).1 rfl) (by simp only [Rel]) (fun j hj => (has_val hj).elim)
        · simp only [Option.some.injEq, Prod.mk.injEq] at h
          obtain ⟨rfl, rfl⟩ := h
          exact Does.value hrep hd (y := .bool (!b.isNone)) ((run b n c e' ht hxr hyr).2 rfl) (by simp only [Rel]) (fun j hj => (has_val hj).elim)
        · cases h
      · cases h
    · cases h
  · cases h

theorem does_symBin (hT : TOk P T) (hrep : Rep w0 N D ρ s a W) {o : Oper} {op : BinOp} {t ty : TypeId} {x y : Operand} (hop : o.op = .binOp op t x y ty) (hd : ∀ d, o.dst = some d → d < N)
    {r : SV} {obs : List Ob} (h : symBin T op t (ev s.sl x) (ev s.sl y) = some (r, obs)) (hob : Obs P obs) : Does P w0 N D s a W o { val := r } := by
  unfold symBin at h
  split at h
  · rename_i k p k' q hx hy
    split at h
    · exact does_binV hrep hop hd hx hy h (fun h => (h rfl).elim) hob
    · exact does_binV hrep hop hd hx hy h (fun _ h => (h rfl).elim) hob
    · split at h
      · rename_i hk
        exact does_binV hrep hop hd hx hy h (fun _ _ => hk) hob
      · cases h
  · rename_i xs ys hx hy
    split at h
    · rename_i i hi
      split at h
      · rename_i hok
        simp only [Bool.and_eq_true] at hok
        have hci := hT t i hi
        obtain ⟨n, de, z, h1, h2, h3, hie⟩ := conv_spec hci
        have hxr := ev_rel hrep x
        have hyr := ev_rel hrep y
        rw [hx] at hxr; rw [hy] at hyr
        simp only [Rel] at hxr hyr
        obtain ⟨vs, hxv, hxs⟩ := hxr
        obtain ⟨us, hyv, hys⟩ := hyr
        have hg : (eqGuard op t x y (.agg vs.toArray) (.agg us.toArray)).run P W = .ok () W := by
          refine run_eqGuard_agg W op t x y _ _ ?_
          have := hok.1
          rw [hie] at this
          simp only [Bool.and_eq_true, Bool.not_eq_true'] at this
          exact this.1.2
        have heq : ∀ r', eqC T 100 t xs ys = some r' → (Op.equalIn 10000 t (.agg vs.toArray) (.agg us.toArray)).run P W = .ok r' W := fun r' hr' => by
          have := eqC_ok (W := W) hT 100 t xs ys vs us r' hr' hxs hys i hci 10000 (by omega)
          simpa [mkVal, hok.2] using this
        split at h
        · rename_i r' hr'
          simp only [Option.some.injEq, Prod.mk.injEq] at h
          obtain ⟨rfl, rfl⟩ := h
          refine Does.value hrep hd (y := .bool r') ?_ (by simp only [Rel]) (fun j hj => (has_val hj).elim)
          simp only [execOp, hop, hxv, hyv, Sem.run_bind, hg, Result.andThen_ok, run_eql_struct, heq r' hr', Sem.run_pure]
        · rename_i r' hr'
          simp only [Option.some.injEq, Prod.mk.injEq] at h
          obtain ⟨rfl, rfl⟩ := h
          refine Does.value hrep hd (y := .bool (!r')) ?_ (by simp only [Rel]) (fun j hj => (has_val hj).elim)
          simp only [execOp, hop, hxv, hyv, Sem.run_bind, hg, Result.andThen_ok, run_neq_struct, heq r' hr', Sem.run_pure]
        · cases h
      · cases h
    · cases h
  · split at h
    · rename_i r' hr'
      simp only [Option.some.injEq] at h
      subst h
      exact does_nilBin hT hrep hop hd hr' hob
    · exact does_boolBin hT hrep hop hd h

theorem does_symUn (hrep : Rep w0 N D ρ s a W) {o : Oper} {op : UnOp} {t : TypeId} {x : Operand} (hop : o.op = .unOp op t x) (hd : ∀ d, o.dst = some d → d < N)
    {r : SV} (h : symUn op (ev s.sl x) = some r) : Does P w0 N D s a W o { val := r } := by
  have hxr := ev_rel hrep x
  unfold symUn at h
  split at h
  · rename_i d hx
    rw [hx] at hxr
    simp only [Rel] at hxr
    split at h
    · simp only [Option.some.injEq] at h; subst h
      refine Does.value hrep hd (y := .bool (!d)) ?_ (by simp only [Rel]) (fun j hj => by simp [SV.has] at hj)
      simp [execOp, hop, hxr, Op.unary]
    · cases h
  · rename_i c hx
    rw [hx] at hxr
    simp only [Rel] at hxr
    split at h
    · simp only [Option.some.injEq] at h; subst h
      refine Does.value hrep hd (y := .bool (!c)) ?_ (by simp only [Rel]) (fun j hj => (has_val hj).elim)
      simp [execOp, hop, hxr, Op.unary]
    · cases h
  · rename_i k n hx
    rw [hx] at hxr
    simp only [Rel] at hxr
    split at h
    · simp only [Option.some.injEq] at h; subst h
      refine Does.value hrep hd (y := .int k (k.wrap (0 - n))) ?_ (by simp only [Rel]) (fun j hj => (has_val hj).elim)
      simp [execOp, hop, hxr, Op.unary, Op.intArith]
    · cases h
  · cases h

theorem does_callB (hT : TOk P T) (hrep : Rep w0 N D ρ s a W) {o : Oper} {b : Builtin} {args : Array Operand} {ts : Array TypeId} (hop : o.op = .call { callee := .builtin b, args := args, argTypes := ts }) (hd : ∀ d, o.dst = some d → d < N)
    {r : SV} (h : symCallB T b ts.toList (args.toList.map (ev s.sl)) = some r) : Does P w0 N D s a W o { val := r } := by
  have hrels := evs_rel hrep args.toList
  have hex : ∀ v, (builtin b ts o.type (args.map fun | .const _ => true | _ => false) (args.map a.eval)).run P W = .ok (.value v) W → (execOp a.eval o).run P W = .ok (.value v) W := fun v hv => by
    simp only [execOp, hop, resolve, Sem.run_bind, Sem.run_pure, Result.andThen_ok, invoke]
    exact hv
  unfold symCallB at h
  split at h
  · rename_i t rest x hts hxs
    rw [hxs] at hrels
    obtain ⟨y, hy, hxy⟩ := rels1 hrels
    obtain ⟨n, d, hu, ⟨b', c', rfl⟩, rfl⟩ := lenV_ok hT h hxy
    refine Does.value hrep hd (y := .int .i64 n) (hex _ ?_) (by simp [iv, Rel]) (fun j hj => by simp [iv, SV.has] at hj)
    have ht0 : ts[0]? = some t := by
      have : ts.toList[0]? = some t := by rw [hts]; rfl
      simpa using this
    have hx0 : (args.map a.eval)[0]? = some (.slice b' n c') := by
      have : (args.toList.map a.eval)[0]? = some (.slice b' n c') := by rw [hy]; rfl
      simpa using this
    simp [builtin, Builtin.len_, ht0, hx0, run_underlying' hu, goInt]
  · rename_i k p l hxs
    rw [hxs] at hrels
    obtain ⟨y0, ys, hys, h0, hl⟩ : ∃ y0 ys, args.toList.map a.eval = y0 :: ys ∧ Rel ρ (.v (.int k p)) y0 ∧ Rels ρ l ys := by
      match hm : args.toList.map a.eval, hrels with
      | [], hr => simp [Rels] at hr
      | y0 :: ys, hr => simp only [Rels] at hr; exact ⟨y0, ys, rfl, hr.1, hr.2⟩
    simp only [Rel] at h0
    subst h0
    obtain ⟨v, hv, hrel, hno⟩ := minV_ok (P := P) hrep _ _ _ _ h hl
    refine Does.value hrep hd (y := v) (hex _ ?_) hrel (fun j hj => (hno j hj).elim)
    have : (args.map a.eval).toList = .int k p :: ys := by simpa using hys
    simp only [builtin, Builtin.min_, this, Sem.run_bind, hv, Result.andThen_ok, Sem.run_pure]
  · rename_i k p l hxs
    rw [hxs] at hrels
    obtain ⟨y0, ys, hys, h0, hl⟩ : ∃ y0 ys, args.toList.map a.eval = y0 :: ys ∧ Rel ρ (.v (.int k p)) y0 ∧ Rels ρ l ys := by
      match hm : args.toList.map a.eval, hrels with
      | [], hr => simp [Rels] at hr
      | y0 :: ys, hr => simp only [Rels] at hr; exact ⟨y0, ys, rfl, hr.1, hr.2⟩
    simp only [Rel] at h0
    subst h0
    obtain ⟨v, hv, hrel, hno⟩ := maxV_ok (P := P) hrep _ _ _ _ h hl
    refine Does.value hrep hd (y := v) (hex _ ?_) hrel (fun j hj => (hno j hj).elim)
    have : (args.map a.eval).toList = .int k p :: ys := by simpa using hys
    simp only [builtin, Builtin.max_, this, Sem.run_bind, hv, Result.andThen_ok, Sem.run_pure]
  · cases h

end
end Go.Aw

namespace Go.Aw
open Go.RowKit
set_option linter.unusedVariables false
set_option linter.unusedSimpArgs false

section
variable {P : Program} {T : Nat → Option TI} {w0 : Cx} {N : Nat} {D : List Deferred} {ρ : Env} {s : FS} {a : Act} {W : World}

/-- The world behind an append in place: block b turned. -/
theorem Rep.inplace (h : Rep w0 N D ρ s a W) {k fr b nn : Nat} {sym sym' : Bool} {cells cells' : List SV} {vs' rest' : List Value} {W' : World} {ty : TypeId}
    (hk : s.bk k = .live true sym cells) (hfr : s.bk fr = .un) (hρ : ρ k = some (b, 0, nn)) (hb0 : w0.mine b) (hn : nn = (vs' ++ rest').length) (hc : Rels ρ cells' vs') (hw : ∀ j, SV.hasl j cells' → s.bk j ≠ .un) (hpl : (BK.live true sym' cells').pl)
    (ht : Turned W W' b (vs' ++ rest') ty) :
    Rep w0 N D (fun j => if j = fr then some (b, 0, nn) else ρ j) (s.app none { val := .u, ups := [(k, .dead), (fr, .live true sym' cells')] }) a W' := by
  have hkf : k ≠ fr := fun e => by rw [e, hfr] at hk; cases hk
  have hown : (s.bk k).own := by rw [hk]; trivial
  have hne : ∀ j, s.bk j ≠ .un → (if j = fr then some (b, 0, nn) else ρ j) = ρ j := fun j hj => by
    rw [if_neg (fun e : j = fr => hj (by rw [e]; exact hfr))]
  have hbk : ∀ j, (s.app none { val := .u, ups := [(k, .dead), (fr, .live true sym' cells')] }).bk j = if j = fr then .live true sym' cells' else if j = k then .dead else s.bk j := fun j => by
    simp [FS.app, upds]
  have hnun : ∀ j, s.bk j ≠ .un → (s.app none { val := .u, ups := [(k, .dead), (fr, .live true sym' cells')] }).bk j ≠ .un := fun j hj => by
    rw [hbk]; split
    · simp
    · split
      · simp
      · exact hj
  refine { defs := h.defs, size := h.size, sl := fun t => Rel.congr _ _ (fun j hj => hne j (h.wf1 t j hj)) (h.sl t), bk := fun j => ?_, apart := fun i j b1 n1 b2 n2 hij hi hj e1 e2 => ?_, wf1 := fun t j hj => hnun j (h.wf1 t j hj), wf2 := fun i j hj => ?_, kept := ?_, pl := fun j => (by rw [hbk]; split; exact hpl; split; trivial; exact h.pl j), old := fun i hi => ⟨(hne i (h.old i hi).2).trans (h.old i hi).1, hnun i (h.old i hi).2⟩ }
  · rw [hbk]
    by_cases hjf : j = fr
    · subst hjf
      rw [if_pos rfl]
      exact .inr ⟨b, vs', rest', ty, by simp [hn], hb0, Rels.congr _ _ (fun i hi => hne i (hw i hi)) hc, ht.this⟩
    · rw [if_neg hjf]
      by_cases hjk : j = k
      · rw [if_pos hjk]; trivial
      · rw [if_neg hjk]
        have hb := h.bk j
        refine BRep.congr (by simp [hjf]) (fun i hi => hne i (h.wf2 j i hi)) ?_
        cases hx : s.bk j with
        | un => trivial
        | dead => trivial
        | live own sy cs =>
          rw [hx] at hb
          cases own with
          | true =>
            rcases hb with hb | ⟨b₁, vs₁, rest₁, ty₁, e1, e2, e3, e4⟩
            · exact .inl hb
            · refine .inr ⟨b₁, vs₁, rest₁, ty₁, e1, e2, e3, ?_⟩
              rw [ht.other b₁ (h.apart j k b₁ _ b _ hjk (by rw [hx]; trivial) hown e1 hρ)]; exact e4
          | false =>
            rcases hb with hb | ⟨b₁, o, n, vs₁, e1, e2, e3, e4⟩
            · exact .inl hb
            · refine .inr ⟨b₁, o, n, vs₁, e1, e2, e3, fun i x hx => ?_⟩
              have hne : vs₁ ≠ [] := by rintro rfl; simp at hx
              have hnm := e2.2 hne
              have := e4 i x hx
              simp only [World.cell?] at this ⊢
              rw [ht.other b₁ (fun e => hnm (by rw [e]; exact hb0))]; exact this
  · rw [hbk] at hi hj
    have fix : ∀ i b1 n1, (if i = fr then BK.live true sym' cells' else if i = k then BK.dead else s.bk i).own → (if i = fr then some (b, 0, nn) else ρ i) = some (b1, 0, n1) → ∃ i', (i' = if i = fr then k else i) ∧ (s.bk i').own ∧ ρ i' = some (b1, 0, n1) := fun i b1 n1 hi e => by
      by_cases hif : i = fr
      · rw [if_pos hif] at e; cases e
        exact ⟨k, by simp [hif], hown, hρ⟩
      · rw [if_neg hif] at hi e
        by_cases hik : i = k
        · rw [if_pos hik] at hi; exact hi.elim
        · rw [if_neg hik] at hi; exact ⟨i, by simp [hif], hi, e⟩
    have notk : ∀ i, (if i = fr then BK.live true sym' cells' else if i = k then BK.dead else s.bk i).own → i ≠ k := fun i hi e => by
      subst e; rw [if_neg hkf, if_pos rfl] at hi; exact hi.elim
    obtain ⟨i', q1, q2, q3⟩ := fix i b1 n1 hi e1
    obtain ⟨j', r1, r2, r3⟩ := fix j b2 n2 hj e2
    refine h.apart i' j' b1 n1 b2 n2 (fun e => ?_) q2 r2 q3 r3
    have h1 := notk i hi
    have h2 := notk j hj
    rw [q1, r1] at e
    by_cases hif : i = fr <;> by_cases hjf : j = fr <;> simp [hif, hjf] at e <;> omega
  · rw [hbk] at hj
    have hj' : s.bk j ≠ .un := by
      by_cases hif : i = fr
      · rw [if_pos hif] at hj; exact hw j hj
      · rw [if_neg hif] at hj
        by_cases hik : i = k
        · rw [if_pos hik] at hj; exact hj.elim
        · rw [if_neg hik] at hj; exact h.wf2 i j hj
    exact hnun j hj'
  · exact ⟨ht.os.trans h.kept.os, ht.tape.trans h.kept.tape, ht.output.trans h.kept.output, by rw [ht.size]; exact h.kept.size, fun j hj ho => (ht.other j (fun e => (by rw [← e] at hb0; exact hb0.elim (Nat.not_le_of_lt hj) ho))).trans (h.kept.block j hj ho)⟩

theorem Rep.kill0 (h : Rep w0 N D ρ s a W) (k : Nat) : Rep w0 N D ρ (s.app none { val := .u, ups := [(k, .dead)] }) a W := by
  have hbk : ∀ j, (s.app none { val := .u, ups := [(k, .dead)] }).bk j = if j = k then .dead else s.bk j := fun j => by simp [FS.app, upds]
  have hnun : ∀ j, s.bk j ≠ .un → (s.app none { val := .u, ups := [(k, .dead)] }).bk j ≠ .un := fun j hj => by
    rw [hbk]; split
    · simp
    · exact hj
  refine { h with bk := fun j => ?_, apart := fun i j b1 n1 b2 n2 hij hi hj e1 e2 => ?_, wf1 := fun t j hj => hnun j (h.wf1 t j hj), wf2 := fun i j hj => ?_, pl := fun j => (by rw [hbk]; split; trivial; exact h.pl j), old := fun i hi => ⟨(h.old i hi).1, hnun i (h.old i hi).2⟩ }
  · rw [hbk]; split
    · trivial
    · exact h.bk j
  · rw [hbk] at hi hj
    have : ∀ i, (if i = k then BK.dead else s.bk i).own → (s.bk i).own := fun i hi => by
      split at hi
      · exact hi.elim
      · exact hi
    exact h.apart i j b1 n1 b2 n2 hij (this i hi) (this j hj) e1 e2
  · rw [hbk] at hj
    split at hj
    · exact hj.elim
    · exact hnun j (h.wf2 i j hj)

theorem Rep.kill (h : Rep w0 N D ρ s a W) (k : Nat) (hk : s.bk k ≠ .un) : Rep w0 N D ρ (s.app none { val := .u, ups := [(k, .dead)] }) a W := h.kill0 k

theorem appSrc_spec {off n es : Nat} {x : BK} {new : List SV} (h : appSrc off n es x = some new) : ∃ own cells, x = .live own false cells ∧ new = (cells.drop off).take (n * es) ∧ new.length = n * es := by
  unfold appSrc at h
  split at h
  · split at h
    · rename_i own cells hl
      simp only [Option.some.injEq] at h; subst h
      exact ⟨own, cells, rfl, rfl, hl⟩
    · cases h
  · cases h

/-- What is appended. -/
theorem src_cells (hrep : Rep w0 N D ρ s a W) {j off n es : Nat} {y : Value} (hy : Rel ρ (.s j off n es) y) {x : BK} (hx : s.bk j = x) {new : List SV} (hs : appSrc off n es x = some new) (hes : es ≠ 0) (hn : n ≠ 0) :
    ∃ (b : Addr) (c : Nat) (us : List Value), y = .slice (some b) n c ∧ Rels ρ new us ∧ us.length = n * es ∧ ∀ (i : Nat) (u : Value), us[i]? = some u → W.cell? (b.add i) = some u := by
  obtain ⟨own, cells, rfl, rfl, hl⟩ := appSrc_spec hs
  have hbk := hrep.bk j
  rw [hx] at hbk
  simp only [Rel] at hy
  rcases hy with ⟨h1, h2, rfl⟩ | ⟨b, o, nn, cap, off', hρ, rfl, hle, hcap, hoff⟩
  · exact (hn h2).elim
  · rcases hbk.read with ⟨he, _⟩ | ⟨b', o', n', vs, e1, ⟨e2, e2'⟩, _, e4⟩
    · rw [hρ] at he; cases he
    rw [hρ] at e1; cases e1
    have hrel : Rels ρ ((cells.drop off).take (n * es)) ((vs.drop off).take (n * es)) := Rels.take _ (Rels.drop _ e2)
    have hlen := hrel.length
    refine ⟨_, cap, (vs.drop off).take (n * es), rfl, hrel, by rw [← hlen]; exact hl, fun i x hi => ?_⟩
    have hi' := (List.getElem?_eq_some_iff.1 hi).1
    rw [hoff (by omega), add_eq]
    rw [List.getElem?_take_of_lt (by simp at hi'; omega), List.getElem?_drop] at hi
    have := e4 (off + i) x hi
    rw [show o + off + i = o + (off + i) by omega]; exact this

theorem src_has {j off n es k : Nat} {x : BK} (hx : s.bk j = x) {new : List SV} (hs : appSrc off n es x = some new) (hw : ∀ i, x.has i → s.bk i ≠ .un) (h : SV.hasl k new) : s.bk k ≠ .un := by
  obtain ⟨own, cells, rfl, rfl, hl⟩ := appSrc_spec hs
  exact hw k (hasl_drop (hasl_take h))

theorem append_app (s : FS) (dst : Option Nat) (v : SV) (ups : List (Nat × BK)) : s.app dst { val := v, ups := ups } = (s.app none { val := .u, ups := ups }).app dst { val := v } := by
  cases dst <;> rfl

theorem drew_below (W : World) : Below W.heap.size W W.drew := ⟨rfl, rfl, rfl, Nat.le_refl _, fun _ _ => rfl⟩

theorem grown_cap (e need old : Nat) (z : Value) (es : Nat) (vs : List Value) (hz : z.cells.size = es) (hl : vs.length = need * es) :
    grownCap W need old e * es ≤ (vs ++ (Builtin.zeroCells z.cells (grownCap W need old e - need)).toList).length := by
  have := grownCap_ge W need old e
  simp only [List.length_append, Array.length_toList, size_zeroCells, hz, hl]
  rw [← Nat.add_mul]
  exact Nat.mul_le_mul_right _ (by omega)

/-- append at a slice that has no block, or that has no room. -/
theorem append_grown (hrep : Rep w0 N D ρ s a W) {o : Oper} (hd : ∀ d, o.dst = some d → d < N) {fr : Nat} (hfr : s.bk fr = .un) (sym : Bool) {cells : List SV} {us : List Value} {e need old es : Nat} {z : Value}
    (hz : z.cells.size = es) (hl : us.length = need * es) (hc : Rels ρ cells us) (hw : ∀ j, SV.hasl j cells → s.bk j ≠ .un) (hpl : (BK.live true sym cells).pl)
    (hr : (execOp a.eval o).run P W = .ok (.value (.slice (some ⟨W.heap.size, 0, none⟩) need (grownCap W need old e))) (W.drew.alloc (.cells (us.toArray ++ Builtin.zeroCells z.cells (grownCap W need old e - need)) e))) :
    Does P w0 N D s a W o { val := .s fr 0 need es, ups := [(fr, .live true sym cells)] } := by
  have hrep' : Rep w0 N D ρ s a W.drew := hrep.grow (drew_below W)
  have hnew := hrep'.new hfr (cells := cells) (vs := us) (rest := (Builtin.zeroCells z.cells (grownCap W need old e - need)).toList) sym e hc hw hpl
  have hW : ({ W.drew with heap := W.drew.heap.push (.cells (us ++ (Builtin.zeroCells z.cells (grownCap W need old e - need)).toList).toArray e) } : World) = W.drew.alloc (.cells (us.toArray ++ Builtin.zeroCells z.cells (grownCap W need old e - need)) e) := by
    have : (us ++ (Builtin.zeroCells z.cells (grownCap W need old e - need)).toList).toArray = us.toArray ++ Builtin.zeroCells z.cells (grownCap W need old e - need) := by apply Array.ext'; simp
    rw [this]; rfl
  rw [hW] at hnew
  refine ⟨_, _, _, (fun j => if j = fr then some (W.drew.heap.size, 0, (us ++ (Builtin.zeroCells z.cells (grownCap W need old e - need)).toList).length) else ρ j), hr, .inl rfl, ?_⟩
  rw [append_app]
  refine hnew.put o.dst hd ?_ (fun k hk => ?_)
  · simp only [Rel]
    refine .inr ⟨W.heap.size, 0, (us ++ (Builtin.zeroCells z.cells (grownCap W need old e - need)).toList).length, grownCap W need old e, 0, (if_pos trivial), rfl, grownCap_ge W need old e, ?_, fun _ => rfl⟩
    have := grown_cap (W := W) e need old z es us hz hl
    omega
  · simp only [SV.has] at hk
    subst hk
    simp [FS.app, upds]

theorem Does.killed {o : Oper} {k fr : Nat} {x : BK} {v : SV} (hne : k ≠ fr) (h : Does P w0 N D (s.app none { val := .u, ups := [(k, .dead)] }) a W o { val := v, ups := [(fr, x)] }) :
    Does P w0 N D s a W o { val := v, ups := [(k, .dead), (fr, x)] } := h

/-- A new name for no block. -/
theorem Rep.empty (h : Rep w0 N D ρ s a W) {fr : Nat} (hfr : s.bk fr = .un) : Rep w0 N D (fun j => if j = fr then none else ρ j) (s.app none { val := .u, ups := [(fr, .live true true [])] }) a W := by
  have hne : ∀ j, s.bk j ≠ .un → (if j = fr then none else ρ j) = ρ j := fun j hj => by
    rw [if_neg (fun e : j = fr => hj (by rw [e]; exact hfr))]
  have hbk : ∀ j, (s.app none { val := .u, ups := [(fr, .live true true [])] }).bk j = if j = fr then .live true true [] else s.bk j := fun j => by simp [FS.app, upds]
  have hnun : ∀ j, s.bk j ≠ .un → (s.app none { val := .u, ups := [(fr, .live true true [])] }).bk j ≠ .un := fun j hj => by
    rw [hbk]; split
    · simp
    · exact hj
  refine { defs := h.defs, size := h.size, sl := fun t => Rel.congr _ _ (fun j hj => hne j (h.wf1 t j hj)) (h.sl t), bk := fun j => ?_, apart := fun i j b1 n1 b2 n2 hij hi hj e1 e2 => ?_, wf1 := fun t j hj => hnun j (h.wf1 t j hj), wf2 := fun i j hj => ?_, kept := h.kept, pl := fun j => (by rw [hbk]; split; exact (fun k hk => by simp [SV.hasl] at hk); exact h.pl j), old := fun i hi => ⟨(hne i (h.old i hi).2).trans (h.old i hi).1, hnun i (h.old i hi).2⟩ }
  · rw [hbk]
    by_cases hjf : j = fr
    · subst hjf
      rw [if_pos rfl]
      exact .inl ⟨by simp, rfl⟩
    · rw [if_neg hjf]
      exact BRep.congr (by simp [hjf]) (fun i hi => hne i (h.wf2 j i hi)) (h.bk j)
  · rw [hbk] at hi hj
    by_cases hif : i = fr
    · rw [if_pos hif] at e1; cases e1
    · by_cases hjf : j = fr
      · rw [if_pos hjf] at e2; cases e2
      · rw [if_neg hif] at hi e1; rw [if_neg hjf] at hj e2
        exact h.apart i j b1 n1 b2 n2 hij hi hj e1 e2
  · rw [hbk] at hj
    by_cases hif : i = fr
    · rw [if_pos hif] at hj; simp [BK.has, SV.hasl] at hj
    · rw [if_neg hif] at hj; exact hnun j (h.wf2 i j hj)

/-- append behind an own block. -/
theorem append_own (hrep : Rep w0 N D ρ s a W) {o : Oper} {args : Array Operand} {t' e' : TypeId} (hop : o.op = .call { callee := .builtin .append, args := args, argTypes := #[t', t'] }) (hd : ∀ d, o.dst = some d → d < N)
    {fr : Nat} (hfr : s.bk fr = .un) {ne : TypeInfo} {ze : Value} {es1 : Nat} (h2 : P.underlying t' = some (.slice e')) (g1 : P.info? e' = some ne) (g3 : ne.zero = some ze) (hsz : ne.size = es1) (hz' : ze.cells.size = es1)
    {k len n : Nat} {sym sym' : Bool} {cells new : List SV} (hkb : s.bk k = .live true sym cells) (hkf : k ≠ fr) (hcl : cells.length = len * es1) (hn : n ≠ 0) (hn1 : len + n ≤ 2 ^ 40) (hn2 : (len + n) * ne.bytes ≤ 2 ^ 47)
    {y1 : Value} {b : Addr} {c : Nat} {us : List Value} (r1 : Rel ρ (.s k 0 len es1) y1) (hargs : args.toList.map a.eval = [y1, .slice (some b) n c]) (hrl : Rels ρ new us) (hlen : us.length = n * es1)
    (hcell : ∀ (i : Nat) (u : Value), us[i]? = some u → W.cell? (b.add i) = some u) (hone : new.all SV.one = true) (hnewwf : ∀ i, SV.hasl i new → s.bk i ≠ .un) (hplc : (BK.live true sym' (cells ++ new)).pl) :
    Does P w0 N D s a W o { val := .s fr 0 (len + n) es1, ups := [(k, .dead), (fr, .live true sym' (cells ++ new))] } := by
  have hcellwf : ∀ i, SV.hasl i (cells ++ new) → s.bk i ≠ .un := fun i hi => by
    rcases hasl_append hi with hi | hi
    · exact hrep.wf2 k i (by rw [hkb]; exact hi)
    · exact hnewwf i hi
  have hkill := hrep.kill k (by rw [hkb]; simp)
  have hfr' : (s.app none { val := .u, ups := [(k, .dead)] }).bk fr = .un := by simp [FS.app, upds, Ne.symm hkf, hfr]
  have hwf' : ∀ i, SV.hasl i (cells ++ new) → (s.app none { val := .u, ups := [(k, .dead)] }).bk i ≠ .un := fun i hi => by
    simp only [FS.app, upds]
    split
    · simp
    · exact hcellwf i hi
  have hbk := hrep.bk k
  rw [hkb] at hbk
  have hones : ∀ v ∈ us, v.oneCell' = true := Rels.ones hrl hone
  simp only [Rel] at r1
  rcases r1 with ⟨q1, rfl, rfl⟩ | ⟨b1, o1, nn1, cap, off', q1, rfl, q3, q4, q5⟩
  · -- nil after all
    have hcn : cells = [] := List.eq_nil_of_length_eq_zero (by simpa using hcl)
    subst hcn
    have hev : args.map a.eval = #[.slice none 0 0, .slice (some b) n c] := by apply Array.ext'; simpa using hargs
    simp only [Nat.zero_add, List.nil_append] at hn1 hn2 hwf' hplc ⊢
    refine Does.killed hkf (append_grown hkill hd hfr' sym' (old := 0) (e := e') (z := ze) hz' hlen hrl hwf' hplc ?_)
    have hr := run_append_nil (P := P) W t' o.type e' ne ze h2 g1 g3 b n c us (by rw [hsz]; exact hlen) hcell (by omega) (by omega) (by omega)
    simp only [execOp, hop, resolve, invoke, builtin, Sem.run_bind, Sem.run_pure, Result.andThen_ok, hev, hr]
  · rcases hbk with ⟨x1, _⟩ | ⟨b2, vs, rest, ty, x1, x2, x3, x4⟩
    · rw [q1] at x1; cases x1
    rw [q1] at x1; cases x1
    have hvl : vs.length = len * es1 := by rw [← x3.length]; exact hcl
    have hev : args.map a.eval = #[.slice (some ⟨b1, 0 + off', none⟩) len cap, .slice (some b) n c] := by apply Array.ext'; simpa using hargs
    by_cases hroom : len + n ≤ cap
    · -- in place
      have ho : off' = 0 := q5 (by omega)
      subst ho
      have hfit : len * es1 + us.length ≤ (vs ++ rest).length := by
        rw [hlen, ← Nat.add_mul]
        have := Nat.mul_le_mul_right es1 hroom
        omega
      obtain ⟨W', hst, hturn⟩ := run_storeCells (P := P) (b := b1) (o := 0 + (0 + len * es1)) (ty := ty) us 0 W (vs ++ rest) x4 hones (by simpa using hfit)
      have hsp : splice (vs ++ rest) (0 + (0 + len * es1) + 0) us = (vs ++ us) ++ rest.drop us.length := by
        unfold splice
        simp only [Nat.zero_add, Nat.add_zero]
        rw [← hvl, List.take_left, List.drop_append]
        simp
      rw [hsp] at hturn
      have hrun : (execOp a.eval o).run P W = .ok (.value (.slice (some ⟨b1, 0, none⟩) (len + n) cap)) W' := by
        have hfc := run_firstCells_some (P := P) W es1 n b n c us hlen hcell
        simp only [execOp, hop, resolve, invoke, builtin, Sem.run_bind, Sem.run_pure, Result.andThen_ok, hev]
        simp only [Nat.zero_add] at hst
        simp [Builtin.append_, run_underlying h2, sizeOf, typeInfo, g1, Builtin.lenOf, hroom, hfc, Addr.add_lit, hsz, hst]
      have hin := hrep.inplace (cells' := cells ++ new) (vs' := vs ++ us) (rest' := rest.drop us.length) (sym' := sym') hkb hfr q1 x2 (by simp at hfit ⊢; omega) (Rels.append x3 hrl) hcellwf hplc hturn
      refine ⟨_, _, _, (fun j => if j = fr then some (b1, 0, (vs ++ rest).length) else ρ j), hrun, .inl rfl, ?_⟩
      rw [append_app]
      refine hin.put o.dst hd ?_ (fun i hi => ?_)
      · simp only [Rel]
        exact .inr ⟨b1, 0, (vs ++ rest).length, cap, 0, by simp, rfl, hroom, q4, fun _ => rfl⟩
      · simp only [SV.has] at hi
        subst hi
        simp [FS.app, upds]
    · -- it grows
      have hlen' : (vs ++ us).length = (len + n) * es1 := by rw [List.length_append, hvl, hlen, Nat.add_mul]
      have holds : ∀ (i : Nat) (u : Value), vs[i]? = some u → W.cell? ((Addr.mk b1 (0 + off') none).add i) = some u := fun i u hi => by
        have hi' := (List.getElem?_eq_some_iff.1 hi).1
        have hc0 : cap ≠ 0 := fun e => by
          have : len = 0 := by omega
          subst this; simp at hvl; subst hvl; simp at hi'
        rw [q5 hc0, add_eq]
        have hc1 : W.cell? ⟨b1, i, none⟩ = some u := by
          have hg : (vs ++ rest)[i]? = some u := by rw [List.getElem?_append_left hi', hi]
          simp [World.cell?, x4, hg]
        simpa using hc1
      refine Does.killed hkf (append_grown hkill hd hfr' sym' (old := cap) (e := e') (z := ze) hz' hlen' (Rels.append x3 hrl) hwf' hplc ?_)
      have hr := run_append_grow (P := P) W t' o.type e' ne ze h2 g1 g3 ⟨b1, 0 + off', none⟩ len cap vs (by rw [hsz]; exact hvl) holds b n c us (by rw [hsz]; exact hlen) hcell (by omega) (by omega) (growslice_fits (by omega) (by omega))
      simp only [execOp, hop, resolve, invoke, builtin, Sem.run_bind, Sem.run_pure, Result.andThen_ok, hev, hr]
      simp

theorem does_append (hT : TOk P T) (hrep : Rep w0 N D ρ s a W) {o : Oper} {args : Array Operand} {ts : Array TypeId} (hop : o.op = .call { callee := .builtin .append, args := args, argTypes := ts }) (hd : ∀ d, o.dst = some d → d < N)
    {fr : Nat} (hfr : s.bk fr = .un) {xs : List SV} (hxs : xs = args.toList.map (ev s.sl)) {bs : List BK} (hbs : bs = (opBlk o.op xs).map s.bk) {e : Eff} {obs : List Ob}
    (h : symAppend T ts.toList xs bs fr = some (e, obs)) (hob : Obs P obs) : Does P w0 N D s a W o e := by
  have hrels : Rels ρ xs (args.toList.map a.eval) := by rw [hxs]; exact evs_rel hrep _
  have hwfx : ∀ k, SV.hasl k xs → s.bk k ≠ .un := fun k hk => evs_wf hrep (by rw [hxs] at hk; exact hk)
  unfold symAppend at h
  split at h
  case h_2 => cases h
  rename_i t t' hts
  split at h
  case isFalse => cases h
  rename_i htt
  subst htt
  split at h
  · cases h
  rename_i i hTi
  split at h
  case h_2 => cases h
  rename_i el es by0 hk
  split at h
  · cases h
  rename_i ei hTe
  split at h
  case isFalse => cases h
  rename_i hes
  obtain ⟨hes, hsz, hzl⟩ := hes
  obtain ⟨nn, d, z0, h1, h2, h3, rfl⟩ := conv_spec (hT _ _ hTi)
  obtain ⟨ne, de, ze, g1, g2, g3, rfl⟩ := conv_spec (hT _ _ hTe)
  simp only at hk hsz hzl h
  have htsA : ts = #[t', t'] := by apply Array.ext'; simpa using hts
  cases d with
  | slice e' =>
    simp only [kindOf, TK.slice.injEq] at hk
    obtain ⟨rfl, he, -⟩ := hk
    clear he
    have hz' : ze.cells.size = es := by rw [← hzl]; simp
    split at h
    · -- a nil slice
      rename_i j off n es' src
      split at h
      case isFalse => cases h
      rename_i hc
      obtain ⟨rfl, hn, hn1, hn2⟩ := hc
      split at h
      case h_2 => cases h
      rename_i new hs
      split at h
      case isFalse => cases h
      rename_i hone
      simp only [Option.some.injEq, Prod.mk.injEq] at h
      obtain ⟨rfl, rfl⟩ := h
      obtain ⟨y1, l1, hargs⟩ : ∃ y1 l1, args.toList.map a.eval = y1 :: l1 := by
        cases hm : args.toList.map a.eval with
        | nil => rw [hm] at hrels; simp [Rels] at hrels
        | cons y1 l1 => exact ⟨y1, l1, rfl⟩
      rw [hargs] at hrels
      simp only [Rels] at hrels
      obtain ⟨r1, r2⟩ := hrels
      cases l1 with
      | nil => simp [Rels] at r2
      | cons y2 l2 =>
      simp only [Rels] at r2
      obtain ⟨r2, r3⟩ := r2
      cases l2 with
      | cons _ _ => simp [Rels] at r3
      | nil =>
      simp only [Rel] at r1
      subst r1
      have hsrc : s.bk j = src := by rw [hop] at hbs; simpa [opBlk] using hbs.symm
      obtain ⟨b, c, us, rfl, hrl, hlen, hcell⟩ := src_cells hrep r2 hsrc hs hes hn
      have hev : args.map a.eval = #[.slice none 0 0, .slice (some b) n c] := by apply Array.ext'; simpa using hargs
      refine append_grown hrep hd hfr false (old := 0) (e := e') (z := ze) hz' hlen hrl (fun k hk => src_has hsrc hs (fun i hi => hrep.wf2 j i (by rw [hsrc]; exact hi)) hk) trivial ?_
      have hr := run_append_nil (P := P) W t' o.type e' ne ze h2 g1 g3 b n c us (by rw [hsz]; exact hlen) hcell (by omega) (by omega) (by omega)
      simp only [execOp, hop, resolve, invoke, builtin, Sem.run_bind, Sem.run_pure, Result.andThen_ok, hev, htsA, hr]
    · -- an own block
      rename_i k len es1 j off n es' sym cells src
      split at h
      case isFalse => cases h
      rename_i hc
      obtain ⟨rfl, rfl, hn⟩ := hc
      split at h
      case h_2 => cases h
      rename_i new hs
      split at h
      case isFalse => cases h
      rename_i hone
      have hh : ∃ hfacts : (cells.length = len * es1 ∧ len + n ≤ 2 ^ 40 ∧ (len + n) * ne.bytes ≤ 2 ^ 47) ∧ (BK.live true sym new).pl, e = { val := .s fr 0 (len + n) es1, ups := [(k, .dead), (fr, .live true sym (cells ++ new))] } := by
        cases sym with
        | false =>
          simp only at h
          split at h
          · rename_i hf
            simp only [Option.some.injEq, Prod.mk.injEq] at h
            exact ⟨⟨hf, trivial⟩, h.1.symm⟩
          · cases h
        | true =>
          simp only at h
          split at h
          · cases h
          · rename_i hpl
            simp only [Option.some.injEq, Prod.mk.injEq] at h
            obtain ⟨rfl, rfl⟩ := h
            exact ⟨⟨hob.1, plain_all (by simpa using hpl)⟩, rfl⟩
      obtain ⟨⟨⟨hcl, hn1, hn2⟩, hpln⟩, rfl⟩ := hh
      clear h
      obtain ⟨y1, l1, hargs⟩ : ∃ y1 l1, args.toList.map a.eval = y1 :: l1 := by
        cases hm : args.toList.map a.eval with
        | nil => rw [hm] at hrels; simp [Rels] at hrels
        | cons y1 l1 => exact ⟨y1, l1, rfl⟩
      rw [hargs] at hrels
      simp only [Rels] at hrels
      obtain ⟨r1, r2⟩ := hrels
      cases l1 with
      | nil => simp [Rels] at r2
      | cons y2 l2 =>
      simp only [Rels] at r2
      obtain ⟨r2, r3⟩ := r2
      cases l2 with
      | cons _ _ => simp [Rels] at r3
      | nil =>
      have hbs' : s.bk k = .live true sym cells ∧ s.bk j = src := by
        rw [hop] at hbs; simp only [opBlk, List.map_cons, List.map_nil, List.cons.injEq, and_true] at hbs; exact ⟨hbs.1.symm, hbs.2.symm⟩
      obtain ⟨hkb, hsrc⟩ := hbs'
      have hkf : k ≠ fr := fun e => by rw [e, hfr] at hkb; cases hkb
      obtain ⟨b, c, us, rfl, hrl, hlen, hcell⟩ := src_cells hrep r2 hsrc hs hes hn
      have hnewwf : ∀ i, SV.hasl i new → s.bk i ≠ .un := fun i hi => src_has hsrc hs (fun i hi => hrep.wf2 j i (by rw [hsrc]; exact hi)) hi
      have hplc : (BK.live true sym (cells ++ new)).pl := by
        have h1 := hrep.pl k
        rw [hkb] at h1
        cases sym with
        | false => trivial
        | true =>
          intro j hj
          rcases hasl_append hj with hj | hj
          · exact h1 j hj
          · exact hpln j hj
      exact append_own hrep (by rw [hop, htsA]) hd hfr h2 g1 g3 hsz hz' hkb hkf hcl hn hn1 hn2 r1 hargs hrl hlen hcell hone hnewwf hplc
    · cases h
  | _ => simp [kindOf] at hk

theorem run_append_none (t ty e : TypeId) (i : TypeInfo) (ht : P.underlying t = some (.slice e)) (hi : P.info? e = some i) (base : Option Addr) (len cap : Nat) (hle : len ≤ cap) (y : Value) (hy : (∃ b c, y = .slice b 0 c)) :
    (Builtin.append_ #[t, t] ty #[.slice base len cap, y]).run P W = .ok (.slice base len cap) W := by
  obtain ⟨b, c, rfl⟩ := hy
  have hf : (Builtin.firstCells i.size 0 (.slice b 0 c)).run P W = .ok #[] W := by
    cases b with
    | none => exact run_firstCells_none _ _ _ _ _
    | some b => exact run_firstCells_some (P := P) W i.size 0 b 0 c [] (by simp) (by simp)
  cases base with
  | none => simp [Builtin.append_, run_underlying ht, sizeOf, typeInfo, hi, Builtin.lenOf, hle, hf]
  | some base => simp [Builtin.append_, run_underlying ht, sizeOf, typeInfo, hi, Builtin.lenOf, hle, hf, storeCells]

/-- append of a list. -/
theorem does_appendL (hT : TOk P T) (hrep : Rep w0 N D ρ s a W) {o : Oper} {args : Array Operand} {ts : Array TypeId} (hop : o.op = .call { callee := .builtin .append, args := args, argTypes := ts }) (hd : ∀ d, o.dst = some d → d < N)
    {fr : Nat} (hfr : s.bk fr = .un) {xs : List SV} (hxs : xs = args.toList.map (ev s.sl)) {bs : List BK} (hbs : bs = (opBlk o.op xs).map s.bk) {e : Eff} {obs : List Ob}
    (h : symAppendL T ts.toList xs bs fr = some (e, obs)) (hob : Obs P obs) : Does P w0 N D s a W o e := by
  have hrels : Rels ρ xs (args.toList.map a.eval) := by rw [hxs]; exact evs_rel hrep _
  unfold symAppendL at h
  split at h
  case h_2 => cases h
  rename_i t t' hts
  split at h
  case isFalse => cases h
  rename_i htt
  subst htt
  split at h
  · cases h
  rename_i i hTi
  split at h
  case h_2 => cases h
  rename_i el es by0 hk
  split at h
  · cases h
  rename_i ei hTe
  split at h
  case isFalse => cases h
  rename_i hes
  obtain ⟨hes, hsz, hzl⟩ := hes
  obtain ⟨nn, d, z0, h1, h2, h3, rfl⟩ := conv_spec (hT _ _ hTi)
  obtain ⟨ne, de, ze, g1, g2, g3, rfl⟩ := conv_spec (hT _ _ hTe)
  simp only at hk hsz hzl h
  have htsA : ts = #[t', t'] := by apply Array.ext'; simpa using hts
  cases d with
  | slice e' =>
    simp only [kindOf, TK.slice.injEq] at hk
    obtain ⟨rfl, he, -⟩ := hk
    clear he
    have hz' : ze.cells.size = es := by rw [← hzl]; simp
    -- what is appended, if it is anything
    have src : ∀ {j n : Nat} {own : Bool} {new : List SV} {y : Value}, Rel ρ (.s j 0 n es) y → s.bk j = .live own true new → new.length = n * es → n ≠ 0 →
        ∃ (b : Addr) (c : Nat) (us : List Value), y = .slice (some b) n c ∧ Rels ρ new us ∧ us.length = n * es ∧ ∀ (i : Nat) (u : Value), us[i]? = some u → W.cell? (b.add i) = some u := by
      intro j n own new y hy hx hl hn
      have hbk := hrep.bk j
      rw [hx] at hbk
      simp only [Rel] at hy
      rcases hy with ⟨h1, h2, rfl⟩ | ⟨b, o, nn, cap, off', hρ, rfl, hle, hcap, hoff⟩
      · exact (hn h2).elim
      · rcases hbk.read with ⟨he, _⟩ | ⟨b', o', n', vs, e1, ⟨e2, e2'⟩, _, e4⟩
        · rw [hρ] at he; cases he
        rw [hρ] at e1; cases e1
        refine ⟨_, cap, vs, rfl, e2, by rw [← e2.length]; exact hl, fun i x hi => ?_⟩
        rw [hoff (by omega), add_eq]
        simpa using e4 i x hi
    have srcwf : ∀ {j : Nat} {own : Bool} {new : List SV}, s.bk j = .live own true new → ∀ i, SV.hasl i new → s.bk i ≠ .un := fun hx i hi => hrep.wf2 _ i (by rw [hx]; exact hi)
    have srcpl : ∀ {j : Nat} {own : Bool} {new : List SV}, s.bk j = .live own true new → Plain new := fun {j own new} hx => by
      have := hrep.pl j; rw [hx] at this; exact this
    have none' : ∀ {j es : Nat} {y : Value}, Rel ρ (.s j 0 0 es) y → ∃ b c, y = .slice b 0 c := by
      intro j es y hy
      simp only [Rel] at hy
      rcases hy with ⟨h1, h2, rfl⟩ | ⟨b, o, nn, cap, off', hρ, rfl, hle, hcap, hoff⟩
      · exact ⟨_, _, rfl⟩
      · exact ⟨_, _, rfl⟩
    split at h
    · -- a nil slice
      rename_i j n es' own new
      split at h
      case isFalse => cases h
      rename_i hc
      subst hc
      simp only [Option.some.injEq, Prod.mk.injEq] at h
      obtain ⟨rfl, rfl⟩ := h
      obtain ⟨hnl, hone, hn1, hn2⟩ := hob.1
      obtain ⟨y1, l1, hargs⟩ : ∃ y1 l1, args.toList.map a.eval = y1 :: l1 := by
        cases hm : args.toList.map a.eval with
        | nil => rw [hm] at hrels; simp [Rels] at hrels
        | cons y1 l1 => exact ⟨y1, l1, rfl⟩
      rw [hargs] at hrels
      simp only [Rels] at hrels
      obtain ⟨r1, r2⟩ := hrels
      cases l1 with
      | nil => simp [Rels] at r2
      | cons y2 l2 =>
      simp only [Rels] at r2
      obtain ⟨r2, r3⟩ := r2
      cases l2 with
      | cons _ _ => simp [Rels] at r3
      | nil =>
      simp only [Rel] at r1
      subst r1
      have hsrc : s.bk j = .live own true new := by rw [hop] at hbs; simpa [opBlk] using hbs.symm
      by_cases hn : n = 0
      · subst hn
        have hnil : new = [] := List.eq_nil_of_length_eq_zero (by simpa using hnl)
        subst hnil
        have hev : args.map a.eval = #[.slice none 0 0, y2] := by apply Array.ext'; simpa using hargs
        have hr := run_append_none (P := P) (W := W) t' o.type e' ne h2 g1 none 0 0 (Nat.le_refl _) y2 (none' r2)
        refine ⟨.value (.slice none 0 0), .slice none 0 0, W, (fun j => if j = fr then none else ρ j), (by simp only [execOp, hop, resolve, invoke, builtin, Sem.run_bind, Sem.run_pure, Result.andThen_ok, hev, htsA, hr]), .inl rfl, ?_⟩
        rw [append_app]
        refine (hrep.empty hfr).put o.dst hd ?_ (fun i hi => ?_)
        · simp only [Rel]; exact .inl ⟨by simp, trivial, trivial⟩
        · simp only [SV.has] at hi
          subst hi
          simp [FS.app, upds]
      · obtain ⟨b, c, us, rfl, hrl, hlen, hcell⟩ := src r2 hsrc hnl hn
        have hev : args.map a.eval = #[.slice none 0 0, .slice (some b) n c] := by apply Array.ext'; simpa using hargs
        refine append_grown hrep hd hfr true (old := 0) (e := e') (z := ze) hz' hlen hrl (srcwf hsrc) (srcpl hsrc) ?_
        have hr := run_append_nil (P := P) W t' o.type e' ne ze h2 g1 g3 b n c us (by rw [hsz]; exact hlen) hcell (by omega) (by omega) (by omega)
        simp only [execOp, hop, resolve, invoke, builtin, Sem.run_bind, Sem.run_pure, Result.andThen_ok, hev, htsA, hr]
    · -- an own block
      rename_i k len es1 j n es' sym cells own new
      split at h
      case isFalse => cases h
      rename_i hc
      obtain ⟨rfl, rfl, hpl0⟩ := hc
      simp only [Option.some.injEq, Prod.mk.injEq] at h
      obtain ⟨rfl, rfl⟩ := h
      obtain ⟨hcl, hnl, hone, hn1, hn2⟩ := hob.1
      obtain ⟨y1, l1, hargs⟩ : ∃ y1 l1, args.toList.map a.eval = y1 :: l1 := by
        cases hm : args.toList.map a.eval with
        | nil => rw [hm] at hrels; simp [Rels] at hrels
        | cons y1 l1 => exact ⟨y1, l1, rfl⟩
      rw [hargs] at hrels
      simp only [Rels] at hrels
      obtain ⟨r1, r2⟩ := hrels
      cases l1 with
      | nil => simp [Rels] at r2
      | cons y2 l2 =>
      simp only [Rels] at r2
      obtain ⟨r2, r3⟩ := r2
      cases l2 with
      | cons _ _ => simp [Rels] at r3
      | nil =>
      have hbs' : s.bk k = .live true sym cells ∧ s.bk j = .live own true new := by
        rw [hop] at hbs; simp only [opBlk, List.map_cons, List.map_nil, List.cons.injEq, and_true] at hbs; exact ⟨hbs.1.symm, hbs.2.symm⟩
      obtain ⟨hkb, hsrc⟩ := hbs'
      have hkf : k ≠ fr := fun e => by rw [e, hfr] at hkb; cases hkb
      have hplk : Plain cells := by
        cases sym with
        | true => have := hrep.pl k; rw [hkb] at this; exact this
        | false => exact plain_all (by simpa using hpl0)
      have hplc : (BK.live true true (cells ++ new)).pl := by
        intro i hi
        rcases hasl_append hi with hi | hi
        · exact hplk i hi
        · exact srcpl hsrc i hi
      by_cases hn : n = 0
      · subst hn
        have hnil : new = [] := List.eq_nil_of_length_eq_zero (by simpa using hnl)
        subst hnil
        simp only [Rel] at r1
        rcases r1 with ⟨q1, rfl, rfl⟩ | ⟨b1, o1, nn1, cap, off', q1, rfl, q3, q4, q5⟩
        · have hcn : cells = [] := List.eq_nil_of_length_eq_zero (by simpa using hcl)
          subst hcn
          have hev : args.map a.eval = #[.slice none 0 0, y2] := by apply Array.ext'; simpa using hargs
          have hr := run_append_none (P := P) (W := W) t' o.type e' ne h2 g1 none 0 0 (Nat.le_refl _) y2 (none' r2)
          have hfr' : (s.app none { val := .u, ups := [(k, .dead)] }).bk fr = .un := by simp [FS.app, upds, Ne.symm hkf, hfr]
          refine Does.killed hkf ⟨.value (.slice none 0 0), .slice none 0 0, W, (fun j => if j = fr then none else ρ j), (by simp only [execOp, hop, resolve, invoke, builtin, Sem.run_bind, Sem.run_pure, Result.andThen_ok, hev, htsA, hr]), .inl rfl, ?_⟩
          rw [append_app]
          refine ((hrep.kill k (by rw [hkb]; simp)).empty hfr').put o.dst hd ?_ (fun i hi => ?_)
          · simp only [Rel]; exact .inl ⟨by simp, trivial, trivial⟩
          · simp only [SV.has] at hi
            subst hi
            simp [FS.app, upds]
        · have hbk := hrep.bk k
          rw [hkb] at hbk
          rcases hbk with ⟨x1, _⟩ | ⟨b2, vs, rest, ty, x1, x2, x3, x4⟩
          · rw [q1] at x1; cases x1
          rw [q1] at x1; cases x1
          have hev : args.map a.eval = #[.slice (some ⟨b1, 0 + off', none⟩) len cap, y2] := by apply Array.ext'; simpa using hargs
          have hr := run_append_none (P := P) (W := W) t' o.type e' ne h2 g1 (some ⟨b1, 0 + off', none⟩) len cap q3 y2 (none' r2)
          have hturn : Turned W W b1 (vs ++ rest) ty := ⟨rfl, rfl, rfl, rfl, fun _ _ => rfl, x4⟩
          have hin := hrep.inplace (cells' := cells ++ []) (vs' := vs) (rest' := rest) (sym' := true) hkb hfr q1 x2 rfl (by simpa using x3) (fun i hi => hrep.wf2 k i (by rw [hkb]; simp only [List.append_nil] at hi; exact hi)) hplc hturn
          refine ⟨.value (.slice (some ⟨b1, 0 + off', none⟩) len cap), .slice (some ⟨b1, 0 + off', none⟩) len cap, W, (fun j => if j = fr then some (b1, 0, (vs ++ rest).length) else ρ j), (by simp only [execOp, hop, resolve, invoke, builtin, Sem.run_bind, Sem.run_pure, Result.andThen_ok, hev, htsA, hr]), .inl rfl, ?_⟩
          rw [append_app]
          refine hin.put o.dst hd ?_ (fun i hi => ?_)
          · simp only [Rel]
            exact .inr ⟨b1, 0, (vs ++ rest).length, cap, off', by simp, rfl, by simpa using q3, q4, q5⟩
          · simp only [SV.has] at hi
            subst hi
            simp [FS.app, upds]
      · obtain ⟨b, c, us, rfl, hrl, hlen, hcell⟩ := src r2 hsrc hnl hn
        exact append_own hrep (by rw [hop, htsA]) hd hfr h2 g1 g3 hsz hz' hkb hkf hcl hn hn1 hn2 r1 hargs hrl hlen hcell hone (srcwf hsrc) hplc
    · -- nothing is appended
      rename_i _ _ k len es1 b2 c2
      split at h
      case isFalse => cases h
      rename_i hc
      subst hc
      simp only [Option.some.injEq, Prod.mk.injEq] at h
      obtain ⟨rfl, rfl⟩ := h
      obtain ⟨y1, l1, hargs⟩ : ∃ y1 l1, args.toList.map a.eval = y1 :: l1 := by
        cases hm : args.toList.map a.eval with
        | nil => rw [hm] at hrels; simp [Rels] at hrels
        | cons y1 l1 => exact ⟨y1, l1, rfl⟩
      rw [hargs] at hrels
      simp only [Rels] at hrels
      obtain ⟨r1, r2⟩ := hrels
      cases l1 with
      | nil => simp [Rels] at r2
      | cons y2 l2 =>
      simp only [Rels] at r2
      obtain ⟨r2, r3⟩ := r2
      cases l2 with
      | cons _ _ => simp [Rels] at r3
      | nil =>
      simp only [Rel] at r2
      subst r2
      have hkw : s.bk k ≠ .un := evs_wf (l := args.toList) hrep (by rw [← hxs]; simp [SV.hasl, SV.has])
      have hy1 : ∃ base cap, y1 = .slice base len cap ∧ len ≤ cap := by
        simp only [Rel] at r1
        rcases r1 with ⟨_, rfl, rfl⟩ | ⟨b, o, nn, cap, off', _, rfl, hle, _⟩
        · exact ⟨none, 0, rfl, Nat.le_refl _⟩
        · exact ⟨_, cap, rfl, hle⟩
      obtain ⟨base, cap, rfl, hle⟩ := hy1
      have hev : args.map a.eval = #[.slice base len cap, .slice b2 0 c2] := by apply Array.ext'; simpa using hargs
      have hr := run_append_none (P := P) (W := W) t' o.type e' ne h2 g1 base len cap hle _ ⟨b2, c2, rfl⟩
      refine ⟨.value (.slice base len cap), .slice base len cap, W, ρ, (by simp only [execOp, hop, resolve, invoke, builtin, Sem.run_bind, Sem.run_pure, Result.andThen_ok, hev, htsA, hr]), .inl rfl, ?_⟩
      rw [append_app]
      refine (hrep.kill0 fr).put o.dst hd r1 (fun i hi => ?_)
      simp only [SV.has] at hi
      subst hi
      simp only [FS.app, upds]
      split
      · simp
      · exact hkw
    · cases h
  | _ => simp [kindOf] at hk

end
end Go.Aw

namespace Go.Aw
open Go.RowKit
set_option linter.unusedVariables false
set_option linter.unusedSimpArgs false

section
variable {P : Program} {T : Nat → Option TI} {w0 : Cx} {N : Nat} {D : List Deferred} {ρ : Env} {s : FS} {a : Act} {W : World}

theorem does_val1 (hrep : Rep w0 N D ρ s a W) {o : Oper} {x : Operand} (hd : ∀ d, o.dst = some d → d < N) (hr : (execOp a.eval o).run P W = .ok (.value (a.eval x)) W) : Does P w0 N D s a W o { val := ev s.sl x } :=
  Does.value hrep hd hr (ev_rel hrep x) (ev_wf hrep x)

theorem symAppend_ups {ts : List TypeId} {xs : List SV} {bs : List BK} {fr : Nat} {e : Eff} {obs : List Ob} (h : symAppend T ts xs bs fr = some (e, obs)) : ∃ u ∈ e.ups, u.1 = fr := by
  unfold symAppend at h
  repeat' split at h
  all_goals first | (cases h; done) | (simp only [Option.some.injEq, Prod.mk.injEq] at h; obtain ⟨rfl, _⟩ := h; simp)

theorem symAppendL_ups {ts : List TypeId} {xs : List SV} {bs : List BK} {fr : Nat} {e : Eff} {obs : List Ob} (h : symAppendL T ts xs bs fr = some (e, obs)) : ∃ u ∈ e.ups, u.1 = fr := by
  unfold symAppendL at h
  repeat' split at h
  all_goals first | (cases h; done) | (simp only [Option.some.injEq, Prod.mk.injEq] at h; obtain ⟨rfl, _⟩ := h; simp)

set_option maxHeartbeats 1000000 in
/-- **Every operation that calls no function does what 'symOp' says.** -/
theorem symOp_ok (hT : TOk P T) {o : Oper} {xs : List SV} {bs : List BK} {fr : Nat} {orc orc' : List Or} {e : Eff} {obs : List Ob} (h : symOp T o.op xs bs fr orc = some (e, obs, orc')) (hob : Obs P obs)
    (hrep : Rep w0 N D ρ s a W) (hxs : xs = o.op.operands.toList.map (ev s.sl)) (hbs : bs = (opBlk o.op xs).map s.bk) (hfr : ∀ u ∈ e.ups, u.1 = fr → s.bk fr = .un) (hd : ∀ d, o.dst = some d → d < N) :
    Does P w0 N D s a W o e := by
  obtain ⟨dst, op, type, pos, after, guard⟩ := o
  simp only at h hxs hbs hd
  cases op <;> simp only [symOp] at h <;> simp only [Op.operands] at hxs <;> try (cases h; done)
  case move x =>
    simp only [List.map_cons, List.map_nil] at hxs; subst hxs
    simp only [Option.some.injEq, Prod.mk.injEq] at h
    obtain ⟨rfl, _, _⟩ := h
    exact does_val1 hrep hd (by simp [execOp])
  case assign x =>
    simp only [List.map_cons, List.map_nil] at hxs; subst hxs
    simp only [Option.some.injEq, Prod.mk.injEq] at h
    obtain ⟨rfl, _, _⟩ := h
    exact does_val1 hrep hd (by simp [execOp])
  case pick c x y =>
    simp only [List.map_cons, List.map_nil] at hxs; subst hxs
    split at h
    · rename_i d x' y' heq
      simp only [List.cons.injEq, and_true] at heq
      obtain ⟨hc, rfl, rfl⟩ := heq
      simp only [Option.some.injEq, Prod.mk.injEq] at h
      obtain ⟨rfl, _, _⟩ := h
      have hcr := ev_rel hrep c
      rw [hc] at hcr
      simp only [Rel] at hcr
      cases d with
      | true => exact does_val1 hrep hd (by simp [execOp, hcr, asBool])
      | false => exact does_val1 hrep hd (by simp [execOp, hcr, asBool])
    · cases h
  case alloc t =>
    split at h
    · rename_i i hi
      simp only [Option.some.injEq, Prod.mk.injEq] at h
      obtain ⟨rfl, _, _⟩ := h
      exact does_alloc hrep rfl hd (hT t i hi) (hfr _ List.mem_cons_self rfl)
    · cases h
  case box t x =>
    simp only [List.map_cons, List.map_nil] at hxs; subst hxs
    simp only at h
    split at h
    · rename_i hk
      simp only [Option.some.injEq, Prod.mk.injEq] at h
      obtain ⟨rfl, _, _⟩ := h
      exact does_box hrep rfl hd rfl hk (hfr _ List.mem_cons_self rfl)
    · cases h
  case build t parts =>
    subst hxs
    split at h
    · rename_i i hi
      split at h
      · rename_i fs hk
        split at h
        · rename_i cells hf
          split at h
          · rename_i hall
            simp only [Option.some.injEq, Prod.mk.injEq] at h
            obtain ⟨rfl, _, _⟩ := h
            exact does_build_st hrep rfl hd (hT t i hi) hk hf hall
          · cases h
        · cases h
      · rename_i n e' es hk
        split at h
        · rename_i cells hf
          split at h
          · cases h
          · rename_i hes
            simp only [Option.some.injEq, Prod.mk.injEq] at h
            obtain ⟨rfl, _, _⟩ := h
            exact does_build_arr hrep rfl hd (hT t i hi) hk hes hf
        · cases h
      · cases h
    · cases h
  case buildSlice t len parts =>
    subst hxs
    split at h
    · rename_i i hi
      split at h
      · rename_i e' es bytes hk
        split at h
        · rename_i ei hei
          split at h
          · rename_i hcond
            split at h
            · rename_i cells hf
              split at h
              · rename_i hlc
                simp only [Option.some.injEq, Prod.mk.injEq] at h
                obtain ⟨rfl, _, _⟩ := h
                exact does_buildSlice hrep rfl hd (hT t i hi) hk hcond.1 (hT e' ei hei) hcond.2.1 hcond.2.2 (hfr _ List.mem_cons_self rfl) hf hlc
              · cases h
            · cases h
          · cases h
        · cases h
      · cases h
    · cases h
  case load t x =>
    simp only [List.map_cons, List.map_nil] at hxs; subst hxs
    split at h
    · rename_i k off own sym cells i hx hi
      simp only [List.cons.injEq, and_true] at hx
      rw [hx] at hbs
      simp only [opBlk, List.map_cons, List.map_nil, List.cons.injEq, and_true] at hbs
      split at h
      · split at h
        · rename_i hl
          split at h
          · rename_i v hv
            simp only [Option.some.injEq, Prod.mk.injEq] at h
            obtain ⟨rfl, _, _⟩ := h
            exact does_load hrep rfl hd hx hbs.symm (hT t i hi) rfl hl hv
          · cases h
        · cases h
      · split at h
        · rename_i r orc2
          split at h
          · rename_i hl
            split at h
            · rename_i v hv
              simp only [Option.some.injEq, Prod.mk.injEq] at h
              obtain ⟨rfl, rfl, _⟩ := h
              simp only [Obs, Ob.Holds, and_true] at hob
              exact does_load hrep rfl hd hx hbs.symm (hT t i hi) hob hl hv
            · cases h
          · cases h
        · cases h
    · cases h
  case store t x y =>
    simp only [List.map_cons, List.map_nil] at hxs; subst hxs
    split at h
    · rename_i k off v sym cells i hx hi
      simp only [List.cons.injEq, and_true] at hx
      obtain ⟨hx, hy⟩ := hx
      rw [hx] at hbs
      simp only [opBlk, List.map_cons, List.map_nil, List.cons.injEq, and_true] at hbs
      split at h
      · rename_i hc
        simp only [Bool.and_eq_true, beq_iff_eq] at hc
        split at h
        · split at h
          · rename_i hl
            simp only [Option.some.injEq, Prod.mk.injEq] at h
            obtain ⟨rfl, _, _⟩ := h
            exact does_store hrep rfl hd hx hbs.symm (hT t i hi) hy hc.1.1 hc.1.2 hc.2 hl trivial
          · cases h
        · split at h
          · rename_i hpl
            simp only [Option.some.injEq, Prod.mk.injEq] at h
            obtain ⟨rfl, rfl, _⟩ := h
            simp only [Obs, Ob.Holds, and_true] at hob
            refine does_store hrep rfl hd hx hbs.symm (hT t i hi) hy hc.1.1 hc.1.2 hc.2 hob (fun j hj => ?_)
            rcases hasl_splice hj with hj | hj
            · have := hrep.pl k
              rw [← hbs] at this
              exact this j hj
            · exact plain_all hpl j hj
          · cases h
      · cases h
    · cases h
  case fieldAddr t x f =>
    simp only [List.map_cons, List.map_nil] at hxs; subst hxs
    split at h
    · rename_i k off i hx hi
      simp only [List.cons.injEq, and_true] at hx
      split at h
      · rename_i fs hk
        split at h
        · rename_i fd hf
          simp only [Option.some.injEq, Prod.mk.injEq] at h
          obtain ⟨rfl, _, _⟩ := h
          exact does_fieldAddr hrep rfl hd hx (hT t i hi) hk hf
        · cases h
      · cases h
    · cases h
  case indexAddr t x y =>
    simp only [List.map_cons, List.map_nil] at hxs; subst hxs
    split at h
    · rename_i k off kk n i hx hi
      simp only [List.cons.injEq, and_true] at hx
      split at h
      · rename_i len e' es hk
        split at h
        · cases h
        · rename_i hes
          simp only [Option.some.injEq, Prod.mk.injEq] at h
          obtain ⟨rfl, rfl, _⟩ := h
          simp only [Obs, Ob.Holds, and_true] at hob
          exact does_indexArr hrep rfl hd hx.1 hx.2 (hT t i hi) hk hes hob
      · cases h
    · rename_i k off len es' kk n i hx hi
      simp only [List.cons.injEq, and_true] at hx
      split at h
      · rename_i e' es bytes hk
        split at h
        · cases h
        · rename_i hes
          simp only [Option.some.injEq, Prod.mk.injEq] at h
          obtain ⟨rfl, rfl, _⟩ := h
          simp only [Obs, Ob.Holds, and_true] at hob
          exact does_indexSlice hrep rfl hd hx.1 hx.2 (hT t i hi) hk hes hob
      · cases h
    · cases h
  case index t x y =>
    simp only [List.map_cons, List.map_nil] at hxs; subst hxs
    split at h
    · rename_i cells kk n i hx hi
      simp only [List.cons.injEq, and_true] at hx
      split at h
      · rename_i len e' es hk
        split at h
        · rename_i ei hei
          split at h
          · cases h
          · rename_i hes
            split at h
            · rename_i hl
              split at h
              · rename_i v hv
                simp only [Option.some.injEq, Prod.mk.injEq] at h
                obtain ⟨rfl, rfl, _⟩ := h
                simp only [Obs, Ob.Holds, and_true] at hob
                exact does_index hrep rfl hd hx.1 hx.2 (hT t i hi) hk (hT e' ei hei) (fun h => hes (Or.inl h)) (Decidable.of_not_not fun h => hes (Or.inr h)) hl hv hob
              · cases h
            · cases h
        · cases h
      · cases h
    · cases h
  case slice t x lo hi mx =>
    split at h
    · rename_i k off own cells i htt
      simp only [Option.toArray_none, Array.append_empty, List.map_cons, List.map_nil] at hxs
      simp only [List.cons.injEq, and_true] at hxs
      simp only [opBlk, List.map_cons, List.map_nil, List.cons.injEq, and_true] at hbs
      split at h
      · rename_i len e' es hk
        split at h
        · rename_i hc
          simp only [Option.some.injEq, Prod.mk.injEq] at h
          obtain ⟨rfl, _, _⟩ := h
          exact does_sliceArr hrep rfl hd hxs.symm hbs.symm (hT t i htt) hk hc.1 hc.2
        · cases h
      · cases h
    · rename_i y k off len es' kk n bs' i htt
      simp only [Option.toArray_none, Array.append_empty, List.map_cons, List.map_nil, Option.toArray_some, Array.toList_append, List.cons_append, List.nil_append, List.cons.injEq, and_true] at hxs
      split at h
      · rename_i e' es bytes hk
        split at h
        · rename_i hc
          obtain ⟨rfl, hes⟩ := hc
          simp only [Option.some.injEq, Prod.mk.injEq] at h
          obtain ⟨rfl, rfl, _⟩ := h
          simp only [Obs, Ob.Holds, and_true] at hob
          exact does_resliceLow hrep rfl hd hxs.1.symm hxs.2.symm (hT t i htt) hk hes hob
        · cases h
      · cases h
    · cases h
  case binOp op t x y ty =>
    simp only [List.map_cons, List.map_nil] at hxs; subst hxs
    simp only at h
    split at h
    · rename_i r obs' hs
      simp only [Option.some.injEq, Prod.mk.injEq] at h
      obtain ⟨rfl, rfl, _⟩ := h
      exact does_symBin hT hrep rfl hd hs hob
    · cases h
  case unOp op t x =>
    simp only [List.map_cons, List.map_nil] at hxs; subst hxs
    simp only at h
    split at h
    · rename_i r hs
      simp only [Option.some.injEq, Prod.mk.injEq] at h
      obtain ⟨rfl, _, _⟩ := h
      exact does_symUn hrep rfl hd hs
    · cases h
  case convert src dst' x =>
    simp only [List.map_cons, List.map_nil] at hxs; subst hxs
    split at h
    · rename_i k n i j hx hi hj
      simp only [List.cons.injEq, and_true] at hx
      split at h
      · rename_i k' k2 hk hk2
        simp only [Option.some.injEq, Prod.mk.injEq] at h
        obtain ⟨rfl, _, _⟩ := h
        obtain ⟨n1, d1, z1, _, u1, _, hi1⟩ := conv_spec (hT _ i hi)
        obtain ⟨n2, d2, z2, _, u2, _, hi2⟩ := conv_spec (hT _ j hj)
        rw [hi1] at hk; rw [hi2] at hk2
        simp only at hk hk2
        cases d1 <;> simp [kindOf] at hk
        cases d2 <;> simp [kindOf] at hk2
        rename_i q1 q2
        subst hk hk2
        have hxr := ev_rel hrep x
        rw [hx] at hxr
        simp only [Rel] at hxr
        refine Does.value hrep hd (y := .int q1 (q1.wrap n)) ?_ (by simp only [Rel]) (fun j hj => (has_val hj).elim)
        simp only [execOp, hxr, convert, Sem.run_bind, run_underlying' u1, run_underlying' u2, Result.andThen_ok, Conv.intToInt, Sem.run_pure]
      · cases h
    · cases h
  case extract x i =>
    simp only [List.map_cons, List.map_nil] at hxs; subst hxs
    split at h
    · rename_i l hx
      simp only [List.cons.injEq, and_true] at hx
      split at h
      · rename_i v hv
        simp only [Option.some.injEq, Prod.mk.injEq] at h
        obtain ⟨rfl, _, _⟩ := h
        have hxr := ev_rel hrep x
        have hxw := ev_wf hrep x
        rw [hx] at hxr hxw
        simp only [Rel] at hxr
        obtain ⟨vs, hxv, hrs⟩ := hxr
        obtain ⟨y, hy, hyr⟩ := Rels.get i hrs hv
        refine Does.value hrep hd (y := y) ?_ hyr (fun j hj => hxw j (by simp only [SV.has]; rw [hasl_iff]; exact ⟨v, List.mem_of_getElem? hv, hj⟩))
        have : (vs.toArray)[i]? = some y := by simpa using hy
        simp [execOp, hxv, Instr.extract, this]
      · cases h
    · cases h
  case makeFunc fn first captured =>
    cases fn with
    | func g =>
      simp only at h
      split at h
      · rename_i hf
        simp only [Option.some.injEq, Prod.mk.injEq] at h
        obtain ⟨rfl, _, _⟩ := h
        have hf' : first = #[] := Array.eq_empty_of_size_eq_zero hf
        subst hf'
        simp only [Array.empty_append] at hxs
        refine Does.value hrep hd (y := .func (.func g) #[] (captured.map a.eval)) ?_ ?_ (fun j hj => ?_)
        · simp [execOp, Instr.makeFunc]
        · simp only [Rel]
          refine ⟨captured.toList.map a.eval, by congr 1; apply Array.ext'; simp, ?_⟩
          rw [hxs]; exact evs_rel hrep _
        · simp only [SV.has] at hj
          rw [hxs] at hj
          exact evs_wf hrep hj
      · cases h
    | _ => simp at h
  case call c =>
    obtain ⟨callee, args, ts⟩ := c
    cases callee with
    | builtin b =>
      by_cases hb : b = .append
      · subst hb
        simp only at h
        split at h
        · rename_i e' obs' hs
          simp only [Option.some.injEq, Prod.mk.injEq] at h
          obtain ⟨rfl, rfl, _⟩ := h
          have hxs' : xs = args.toList.map (ev s.sl) := by rw [hxs]; simp [Call.operands]
          refine does_appendL hT hrep rfl hd (hfr := ?_) hxs' hbs hs hob
          have hmem : ∃ u ∈ e'.ups, u.1 = fr := symAppendL_ups hs
          obtain ⟨u, hu, hu1⟩ := hmem
          exact hfr u hu hu1
        · split at h
          · rename_i e' obs' hs
            simp only [Option.some.injEq, Prod.mk.injEq] at h
            obtain ⟨rfl, rfl, _⟩ := h
            have hxs' : xs = args.toList.map (ev s.sl) := by rw [hxs]; simp [Call.operands]
            refine does_append hT hrep rfl hd (hfr := ?_) hxs' hbs hs hob
            have hmem : ∃ u ∈ e'.ups, u.1 = fr := symAppend_ups hs
            obtain ⟨u, hu, hu1⟩ := hmem
            exact hfr u hu hu1
          · cases h
      have h : (match symCallB T b ts.toList xs with
        | some r => some (({ val := r } : Eff), ([] : List Ob), orc)
        | none => none) = some (e, obs, orc') := by
        cases b <;> first | exact (hb rfl).elim | exact h
      split at h
      · rename_i r hs
        simp only [Option.some.injEq, Prod.mk.injEq] at h
        obtain ⟨rfl, _, _⟩ := h
        refine does_callB hT hrep rfl hd (b := b) (args := args) (ts := ts) ?_
        have : xs = args.toList.map (ev s.sl) := by rw [hxs]; simp [Call.operands]
        rw [← this]; exact hs
      · cases h
    | _ => simp at h

end
end Go.Aw

namespace Go.Aw
open Go.RowKit
set_option linter.unusedVariables false
set_option linter.unusedSimpArgs false

/-- All functions may be called, to any depth; 'r': the round, if the frame is a round's. -/
def Fw (r : Option Nat) : Fence := { fn := fun _ => True, depth := none, alive := false, round := r }

theorem callsIn_Fw {r : Option Nat} {n : Nat} {P : Program} {f : FuncId} {args : Array Value} {w : World} {R : Ending → World → Prop} : CallsIn (Fw r) n P f args w R ↔ Calls P f args w R :=
  callsIn_wide

/-! ### Resources -/
def FS.at' (s : FS) : Nat ⊕ Nat → SV ⊕ BK
  | .inl t => .inl (s.sl t)
  | .inr k => .inr (s.bk k)

theorem FS.ext_at {s s' : FS} (h : ∀ x, s.at' x = s'.at' x) : s = s' := by
  cases s with | mk sl bk => cases s' with | mk sl' bk' =>
  have h1 : sl = sl' := funext fun t => by have := h (.inl t); simpa [FS.at'] using this
  have h2 : bk = bk' := funext fun k => by have := h (.inr k); simpa [FS.at'] using this
  subst h1 h2; rfl

structure Conf (n : Nat) (A : Nat → FS → FS) (wr rd : Nat → Nat ⊕ Nat → Prop) (dep : Nat → Nat → Prop) : Prop where
  out : ∀ i s x, ¬ wr i x → (A i s).at' x = s.at' x
  same : ∀ i s s' x, wr i x → (A i s).at' x = (A i s').at' x
  low : ∀ i j, dep i j → j < i
  free : ∀ i j, i < n → j < n → i ≠ j → dep i j ∨ dep j i ∨ ((∀ x, wr i x → ¬ wr j x ∧ ¬ rd j x) ∧ (∀ x, wr j x → ¬ rd i x))

section conf
variable {n : Nat} {A : Nat → FS → FS} {wr rd : Nat → Nat ⊕ Nat → Prop} {dep : Nat → Nat → Prop}

/-- What the operations of D come to, in the text's order. -/
noncomputable def SD (A : Nat → FS → FS) (D : Nat → Bool) (s0 : FS) : Nat → FS
  | 0 => s0
  | m + 1 => if D m = true then A m (SD A D s0 m) else SD A D s0 m

theorem SD_lt (i : Nat) (s0 : FS) : ∀ m, i ≤ m → SD A (fun j => decide (j < i)) s0 m = SD A (fun _ => true) s0 i := by
  intro m
  induction m with
  | zero => intro h; obtain rfl : i = 0 := by omega
            rfl
  | succ m ih =>
    intro h
    by_cases hi : i = m + 1
    · subst hi
      have : ∀ k, k ≤ m + 1 → SD A (fun j => decide (j < m + 1)) s0 k = SD A (fun _ => true) s0 k := by
        intro k
        induction k with
        | zero => intro _; rfl
        | succ k ihk => intro hk; simp only [SD, ihk (by omega)]; simp [show k < m + 1 by omega]
      exact this _ (Nat.le_refl _)
    · simp only [SD]
      rw [if_neg (by simp; omega), ih (by omega)]

theorem Conf.reads (c : Conf n A wr rd dep) {D : Nat → Bool} {s0 : FS} {i : Nat} (hi : i < n) (hD : D i = false) (hcl : ∀ j k, j < n → D j = true → dep j k → D k = true) (hdep : ∀ k, dep i k → D k = true) {x : Nat ⊕ Nat} (hx : rd i x) :
    (SD A D s0 n).at' x = (SD A (fun _ => true) s0 i).at' x := by
  rw [← SD_lt i s0 n (by omega)]
  have : ∀ m, m ≤ n → (SD A D s0 m).at' x = (SD A (fun j => decide (j < i)) s0 m).at' x := by
    intro m
    induction m with
    | zero => intro _; rfl
    | succ m ih =>
      intro hm
      have ih := ih (by omega)
      simp only [SD]
      by_cases hw : wr m x
      · by_cases hmi : m = i
        · subst hmi
          rw [if_neg (by simp [hD]), if_neg (by simp)]; exact ih
        · rcases c.free i m hi (by omega) (Ne.symm hmi) with h | h | h
          · have := c.low i m h
            rw [if_pos (hdep m h), if_pos (by simp [this])]
            exact c.same m _ _ x hw
          · have := c.low m i h
            have hDm : D m = false := by
              cases hDm : D m with
              | false => rfl
              | true => have := hcl m i (by omega) hDm h; rw [hD] at this; cases this
            rw [if_neg (by simp [hDm]), if_neg (by simp; omega)]; exact ih
          · exact (h.2 x hw hx).elim
      · split <;> split <;> (try simp only [c.out m _ x hw]) <;> exact ih
  exact this n (Nat.le_refl _)

theorem Conf.add (c : Conf n A wr rd dep) {D D' : Nat → Bool} {s0 : FS} {i : Nat} (hi : i < n) (hD : D i = false) (hD' : ∀ j, D' j = (D j || decide (j = i))) (hcl : ∀ j k, j < n → D j = true → dep j k → D k = true) (hlo : ∀ j, D j = true → j < n) :
    SD A D' s0 n = A i (SD A D s0 n) := by
  refine FS.ext_at fun x => ?_
  have e1 : ∀ m, m ≤ i → SD A D' s0 m = SD A D s0 m := by
    intro m
    induction m with
    | zero => intro _; rfl
    | succ m ih => intro hm; simp only [SD, hD', ih (by omega)]; simp [show m ≠ i by omega]
  have e2 : ∀ m, i < m → m ≤ n → (SD A D' s0 m).at' x = (A i (SD A D s0 m)).at' x := by
    intro m
    induction m with
    | zero => intro h; omega
    | succ m ih =>
      intro h hm
      by_cases hmi : m = i
      · subst hmi
        simp only [SD, hD', hD]
        simp [e1 m (Nat.le_refl _)]
      · have ih := ih (by omega) (by omega)
        simp only [SD, hD']
        have : decide (m = i) = false := by simp [hmi]
        rw [this, Bool.or_false]
        cases hDm : D m with
        | false => simpa using ih
        | true =>
          simp only [if_true]
          have hno : ∀ x, wr i x → ¬ wr m x := by
            rcases c.free i m hi (by omega) (Ne.symm hmi) with h' | h' | h'
            · have := c.low i m h'; omega
            · have := hcl m i (by omega) hDm h'; rw [hD] at this; cases this
            · exact fun x hx => (h'.1 x hx).1
          by_cases hwm : wr m x
          · have hwi : ¬ wr i x := fun h => hno x h hwm
            rw [c.out i _ x hwi]
            exact c.same m _ _ x hwm
          · rw [c.out m _ x hwm, ih]
            by_cases hwi : wr i x
            · exact c.same i _ _ x hwi
            · rw [c.out i _ x hwi, c.out i _ x hwi, c.out m _ x hwm]
  exact e2 n hi (Nat.le_refl _)
end conf

/-! ### Regions -/
/-- An operation's event: its effect, and what it reads: slots, blocks. -/
structure Ev where
  eff : Eff
  rs : List Nat
  rb : List Nat

section region
variable {P : Program} {w0 : Cx} {N : Nat} {D : List Deferred} {r : Option Nat} {n : Nat} {ops : Array Oper} {Q : Exit → Act → World → Prop}

def dstOf (ops : Array Oper) (i : Nat) : Option Nat := (ops[i]?).bind (·.dst)

/-- From every state that agrees with s on what operation i reads, it has its effect. -/
def LocalOK (P : Program) (r : Option Nat) (n : Nat) (w0 : Cx) (N : Nat) (D : List Deferred) (ops : Array Oper) (i : Nat) (s : FS) (v : Ev) : Prop :=
  ∀ (s' : FS), (∀ t ∈ v.rs, s'.sl t = s.sl t) → (∀ k ∈ v.rb, s'.bk k = s.bk k) → ∀ (ρ : Env) (a : Act) (W : World) (Q : Exit → Act → World → Prop) (K : Act → World → Prop), Rep w0 N D ρ s' a W →
    (∀ ρ' a' W', Rep w0 N D ρ' (s'.app (dstOf ops i) v.eff) a' W' → K a' W') → wpOpIn (Fw r) n P ops Q i K a W

def stepA (ops : Array Oper) (evs : List Ev) (i : Nat) (s : FS) : FS :=
  match evs[i]? with
  | some v => s.app (dstOf ops i) v.eff
  | none => s

/-- In the text's order. -/
theorem region_text {evs : List Ev} (hlen : evs.length = ops.size) {s0 : FS}
    (hloc : ∀ i v, evs[i]? = some v → LocalOK P r n w0 N D ops i (SD (stepA ops evs) (fun _ => true) s0 i) v)
    {ρ : Env} {a : Act} {W : World} (hrep : Rep w0 N D ρ s0 a W)
    (hQ : ∀ ρ' a' W', Rep w0 N D ρ' (SD (stepA ops evs) (fun _ => true) s0 ops.size) a' W' → Q .normal a' W') {id : Nat} :
    (Code.region id ops false).wpIn (Fw r) n P Q a W := by
  refine wpIn_region ?_
  have key : ∀ m i, i + m = ops.size → ∀ ρ a W, Rep w0 N D ρ (SD (stepA ops evs) (fun _ => true) s0 i) a W → wpOpsIn (Fw r) n P ops Q (List.range' i m) a W := by
    intro m
    induction m with
    | zero =>
      intro i hi ρ a W h
      obtain rfl : i = ops.size := by omega
      show wpOpsIn (Fw r) n P ops Q [] a W
      simp only [wpOpsIn]
      exact hQ ρ a W h
    | succ m ih =>
      intro i hi ρ a W h
      rw [List.range'_succ, wpOpsIn_cons]
      have hlt : i < evs.length := by omega
      refine hloc i evs[i] (by simp [hlt]) _ (fun _ _ => rfl) (fun _ _ => rfl) ρ a W Q _ h (fun ρ' a' W' h' => ih (i + 1) (by omega) ρ' a' W' ?_)
      simp only [SD, if_true, stepA]
      rw [List.getElem?_eq_getElem hlt]
      exact h'
  have := key ops.size 0 (by omega) ρ a W hrep
  rwa [List.range_eq_range']

theorem filter_lt {p q : Nat → Bool} (hpq : ∀ j, q j = true → p j = true) {i : Nat} (hi : p i = true) (hn : q i = false) : ∀ (l : List Nat), i ∈ l → (l.filter q).length < (l.filter p).length
  | x :: l, h => by
    have hle : ∀ l : List Nat, (l.filter q).length ≤ (l.filter p).length := by
      intro l
      induction l with
      | nil => simp
      | cons y l ih =>
        simp only [List.filter_cons]
        by_cases hq : q y = true
        · simp [hq, hpq y hq, ih]
        · simp only [hq, Bool.false_eq_true, if_false]
          split <;> (try simp) <;> omega
    by_cases hx : x = i
    · subst hx
      simp only [List.filter_cons, hi, hn, if_true, Bool.false_eq_true, if_false, List.length_cons]
      have := hle l; omega
    · have hm : i ∈ l := by
        rcases List.mem_cons.1 h with h | h
        · exact (hx h.symm).elim
        · exact h
      have ih := filter_lt hpq hi hn l hm
      simp only [List.filter_cons]
      by_cases hq : q x = true
      · simp [hq, hpq x hq, ih]
      · simp only [hq, Bool.false_eq_true, if_false]
        split <;> (try simp) <;> omega

/-- In whatever order. -/
theorem region_any {evs : List Ev} (hlen : evs.length = ops.size) {s0 : FS} (hm : P.follows .mixedOrders = true)
    {wr rd : Nat → Nat ⊕ Nat → Prop} {dep : Nat → Nat → Prop} (c : Conf ops.size (stepA ops evs) wr rd dep)
    (hrs : ∀ i v t, evs[i]? = some v → t ∈ v.rs → rd i (.inl t)) (hrb : ∀ i v k, evs[i]? = some v → k ∈ v.rb → rd i (.inr k))
    (hlow : ∀ i o, ops[i]? = some o → ∀ e ∈ o.after, Region.binds .any e = true → e.on < i)
    (hdep : ∀ (D : Nat → Bool) i o, ops[i]? = some o → (∀ j o, ops[j]? = some o → D j = true → ∀ e ∈ o.after, Region.binds .any e = true → D e.on = true) → (∀ e ∈ o.after, Region.binds .any e = true → D e.on = true) → ∀ k, dep i k → D k = true)
    (hloc : ∀ i v, evs[i]? = some v → LocalOK P r n w0 N D ops i (SD (stepA ops evs) (fun _ => true) s0 i) v)
    {ρ : Env} {a : Act} {W : World} (hrep : Rep w0 N D ρ s0 a W)
    (hQ : ∀ ρ' a' W', Rep w0 N D ρ' (SD (stepA ops evs) (fun _ => true) s0 ops.size) a' W' → Q .normal a' W') {id : Nat} :
    (Code.region id ops true).wpIn (Fw r) n P Q a W := by
  refine wpIn_region_any hm ?_
  have hrep' : Rep w0 N D ρ s0 a { W with drawn := W.drawn + 1 } := hrep.grow ⟨rfl, rfl, rfl, Nat.le_refl _, fun _ _ => rfl⟩
  have key : ∀ fuel (listed : Array Bool), listed.size = ops.size → ((List.range ops.size).filter fun j => !listed.getD j false).length ≤ fuel →
      (∀ j o, ops[j]? = some o → listed.getD j false = true → ∀ e ∈ o.after, Region.binds .any e = true → listed.getD e.on false = true) →
      ∀ ρ a W, Rep w0 N D ρ (SD (stepA ops evs) (fun j => listed.getD j false) s0 ops.size) a W → wpAnyIn (Fw r) n P .any ops Q fuel listed a W := by
    intro fuel
    induction fuel with
    | zero =>
      intro listed hsz hfew hcl ρ a W h
      have hall : ∀ j, j < ops.size → listed.getD j false = true := fun j hj => by
        have h0 : (List.range ops.size).filter (fun j => !listed.getD j false) = [] := List.length_eq_zero_iff.1 (by omega)
        have := (List.filter_eq_nil_iff.1 h0) j (by simp [hj])
        simpa using this
      have hS : SD (stepA ops evs) (fun j => listed.getD j false) s0 ops.size = SD (stepA ops evs) (fun _ => true) s0 ops.size := by
        have : ∀ m, m ≤ ops.size → SD (stepA ops evs) (fun j => listed.getD j false) s0 m = SD (stepA ops evs) (fun _ => true) s0 m := by
          intro m
          induction m with
          | zero => intro _; rfl
          | succ m ihm => intro hm'; simp only [SD, ihm (by omega), hall m (by omega)]
        exact this _ (Nat.le_refl _)
      simp only [wpAnyIn]
      refine ⟨?_, hQ ρ a W (hS ▸ h)⟩
      rw [List.eq_nil_iff_forall_not_mem]
      intro j hj
      obtain ⟨h1, o, ho, _⟩ := mem_ready.1 hj
      have hjs := (Array.getElem?_eq_some_iff.1 ho).1
      have := hall j hjs
      have hjl : j < listed.size := by omega
      simp only [Array.getD_eq_getD_getElem?, Array.getElem?_eq_getElem hjl, Option.getD_some] at h1 this
      rw [this] at h1; cases h1
    | succ fuel ih =>
      intro listed hsz hfew hcl ρ a W h
      refine ⟨fun hnil => ?_, fun i hi => ?_⟩
      · -- nothing may come up: all have come up
        have hall : ∀ j, j < ops.size → listed.getD j false = true := by
          intro j
          induction j using Nat.strongRecOn with
          | ind j ihj =>
            intro hj
            cases hlj : listed.getD j false with
            | true => rfl
            | false =>
              exfalso
              have ho : ops[j]? = some ops[j] := by simp [hj]
              have : j ∈ Region.ready .any ops listed := by
                refine mem_ready.2 ⟨?_, ops[j], ho, fun e he hb => ihj e.on (hlow j _ ho e he hb) (by have := hlow j _ ho e he hb; omega)⟩
                have hjl : j < listed.size := by omega
                simp only [Array.getD_eq_getD_getElem?, Array.getElem?_eq_getElem hjl, Option.getD_some] at hlj ⊢
                exact hlj
              rw [hnil] at this; cases this
        have hS : SD (stepA ops evs) (fun j => listed.getD j false) s0 ops.size = SD (stepA ops evs) (fun _ => true) s0 ops.size := by
          have : ∀ m, m ≤ ops.size → SD (stepA ops evs) (fun j => listed.getD j false) s0 m = SD (stepA ops evs) (fun _ => true) s0 m := by
            intro m
            induction m with
            | zero => intro _; rfl
            | succ m ihm => intro hm'; simp only [SD, ihm (by omega), hall m (by omega)]
          exact this _ (Nat.le_refl _)
        exact hQ ρ a W (hS ▸ h)
      · obtain ⟨h1, o, ho, hall⟩ := mem_ready.1 hi
        have his := (Array.getElem?_eq_some_iff.1 ho).1
        have hil : i < listed.size := by omega
        have hDi : listed.getD i false = false := by
          simp only [Array.getD_eq_getD_getElem?, Array.getElem?_eq_getElem hil, Option.getD_some] at h1 ⊢
          exact h1
        have hie : i < evs.length := by omega
        have hev : evs[i]? = some evs[i] := by simp [hie]
        have hD' : ∀ j, (listed.setIfInBounds i true).getD j false = (listed.getD j false || decide (j = i)) := fun j => by
          by_cases hj : j = i
          · subst hj; simp [hil]
          · rw [getD_set_ne false (Ne.symm hj)]; simp [hj]
        have hclo : ∀ j k, j < ops.size → listed.getD j false = true → dep j k → listed.getD k false = true := fun j k hj hDj hd =>
          hdep (fun j => listed.getD j false) j ops[j] (by simp [hj]) hcl (hcl j _ (by simp [hj]) hDj) k hd
        have hcond : ∀ k, dep i k → listed.getD k false = true := fun k hk => hdep (fun j => listed.getD j false) i o ho hcl hall k hk
        have hlo : ∀ j, listed.getD j false = true → j < ops.size := fun j hj => by
          rcases Nat.lt_or_ge j listed.size with h' | h'
          · omega
          · simp [Array.getElem?_eq_none h'] at hj
        refine hloc i evs[i] hev (SD (stepA ops evs) (fun j => listed.getD j false) s0 ops.size) (fun t ht => ?_) (fun k hk => ?_) ρ a W Q _ h (fun ρ' a' W' h' => ?_)
        · have := c.reads (s0 := s0) his hDi hclo hcond (hrs i _ t hev ht)
          simpa [FS.at'] using this
        · have := c.reads (s0 := s0) his hDi hclo hcond (hrb i _ k hev hk)
          simpa [FS.at'] using this
        · refine ih (listed.setIfInBounds i true) (by simp [hsz]) ?_ (fun j o' ho' hj e he hb => ?_) ρ' a' W' ?_
          · have := filter_lt (p := fun j => !listed.getD j false) (q := fun j => !(listed.setIfInBounds i true).getD j false) (i := i) (fun j hj => by
              rw [hD'] at hj; simp at hj ⊢; exact hj.1) (by simp only [hDi]; rfl) (by rw [hD']; simp) (List.range ops.size) (by simp [his])
            omega
          · rw [hD'] at hj ⊢
            by_cases hji : j = i
            · subst hji
              rw [ho] at ho'; cases ho'
              simp [hall e he hb]
            · simp only [hji, decide_false, Bool.or_false] at hj
              simp [hcl j o' ho' hj e he hb]
          · have hadd := c.add (s0 := s0) his hDi hD' hclo hlo
            rw [hadd]
            simp only [stepA, hev]
            exact h'
  have h0 : ∀ j, (Array.replicate ops.size false).getD j false = false := fun j => by
    rcases Nat.lt_or_ge j ops.size with h' | h'
    · simp [h']
    · simp [Array.getElem?_eq_none (xs := Array.replicate ops.size false) (by simpa using h')]
  refine key ops.size (Array.replicate ops.size false) (by simp) (Nat.le_trans (List.length_filter_le _ _) (by simp)) (fun j o _ hj => by rw [h0] at hj; cases hj) ρ a _ ?_
  have : SD (stepA ops evs) (fun j => (Array.replicate ops.size false).getD j false) s0 ops.size = s0 := by
    have : ∀ m, SD (stepA ops evs) (fun j => (Array.replicate ops.size false).getD j false) s0 m = s0 := by
      intro m
      induction m with
      | zero => rfl
      | succ m ihm => have hm0 := h0 m; simp only [SD]; exact (if_neg (by rw [hm0]; simp)).trans ihm
    exact this _
  rw [this]; exact hrep'
end region
end Go.Aw

namespace Go.Aw
open Go.RowKit
set_option linter.unusedVariables false
set_option linter.unusedSimpArgs false

structure LS where
  sl : List SV
  bk : List BK

def LS.fs (s : LS) : FS := ⟨fun t => s.sl.getD t .u, fun k => s.bk.getD k .un⟩

def updL (l : List BK) : List (Nat × BK) → Option (List BK)
  | [] => some l
  | (k, x) :: us => if k < l.length then updL (l.set k x) us else if k = l.length then updL (l ++ [x]) us else none

def LS.app (s : LS) (dst : Option Nat) (e : Eff) : Option LS :=
  match updL s.bk e.ups with
  | none => none
  | some bk =>
    match dst with
    | none => some { s with bk := bk }
    | some d => if d < s.sl.length then some { sl := s.sl.set d e.val, bk := bk } else none

theorem updL_fs : ∀ (us : List (Nat × BK)) (l l' : List BK), updL l us = some l' → (fun k => l'.getD k .un) = upds (fun k => l.getD k .un) us
  | [], l, l', h => by simp only [updL, Option.some.injEq] at h; subst h; rfl
  | (k, x) :: us, l, l', h => by
    simp only [updL] at h
    simp only [upds]
    split at h
    · rename_i hk
      rw [updL_fs us _ l' h]
      congr 1
      funext j
      simp only [List.getD_eq_getElem?_getD, List.getElem?_set]
      by_cases hj : j = k
      · subst hj; simp [hk]
      · rw [if_neg (fun e => hj e.symm), if_neg hj]
    · split at h
      · rename_i hk
        rw [updL_fs us _ l' h]
        congr 1
        funext j
        simp only [List.getD_eq_getElem?_getD]
        by_cases hj : j = k
        · subst hj; simp [hk]
        · rw [if_neg hj]
          by_cases hlt : j < l.length
          · rw [List.getElem?_append_left hlt]
          · rw [List.getElem?_eq_none (by simp; omega), List.getElem?_eq_none (by omega)]
      · cases h

theorem app_fs {s s' : LS} {dst : Option Nat} {e : Eff} (h : s.app dst e = some s') : s'.fs = s.fs.app dst e ∧ (∀ d, dst = some d → d < s.sl.length) ∧ s'.sl.length = s.sl.length := by
  unfold LS.app at h
  split at h
  · cases h
  · rename_i bk hbk
    have hb := updL_fs _ _ _ hbk
    cases dst with
    | none =>
      simp only [Option.some.injEq] at h
      subst h
      refine ⟨?_, by simp, rfl⟩
      simp only [LS.fs, FS.app, hb]
    | some d =>
      simp only at h
      split at h
      · rename_i hd
        simp only [Option.some.injEq] at h
        subst h
        refine ⟨?_, fun d' hd' => by cases hd'; exact hd, by simp⟩
        simp only [LS.fs, FS.app, hb]
        congr 1
        funext t
        simp only [List.getD_eq_getElem?_getD, List.getElem?_set]
        by_cases ht : t = d
        · subst ht; simp [hd]
        · rw [if_neg (fun e => ht e.symm), if_neg ht]
      · cases h

/-! ### Calls -/
def idxOf (k : Nat) : List Nat → Option Nat
  | [] => none
  | j :: l => if j = k then some 0 else match idxOf k l with
    | some i => some (i + 1)
    | none => none

mutual
/-- The blocks' numbers, as places in the list ks. -/
def ren (ks : List Nat) : SV → Option SV
  | .u => some .u
  | .b x => some (.v (.bool x))
  | .v x => some (.v x)
  | .p k off => match idxOf k ks with
    | some i => some (.p i off)
    | none => none
  | .s k off len es => match idxOf k ks with
    | some i => some (.s i off len es)
    | none => none
  | .f g caps => match renL ks caps with
    | some l => some (.f g l)
    | none => none
  | .a l => match renL ks l with
    | some l => some (.a l)
    | none => none
  | .t l => match renL ks l with
    | some l => some (.t l)
    | none => none
def renL (ks : List Nat) : List SV → Option (List SV)
  | [] => some []
  | x :: l => match ren ks x, renL ks l with
    | some y, some m => some (y :: m)
    | _, _ => none
end

mutual
/-- And back: a place in ks, or the i-th new block. -/
def back (ks : List Nat) (nn fr : Nat) : SV → Option SV
  | .u => some .u
  | .b x => some (.b x)
  | .v x => some (.v x)
  | .p k off => match ks[k]? with
    | some j => some (.p j off)
    | none => if k - ks.length < nn then some (.p (fr + (k - ks.length)) off) else none
  | .s k off len es => match ks[k]? with
    | some j => some (.s j off len es)
    | none => if k - ks.length < nn then some (.s (fr + (k - ks.length)) off len es) else none
  | .f g caps => match backL ks nn fr caps with
    | some l => some (.f g l)
    | none => none
  | .a l => match backL ks nn fr l with
    | some l => some (.a l)
    | none => none
  | .t l => match backL ks nn fr l with
    | some l => some (.t l)
    | none => none
def backL (ks : List Nat) (nn fr : Nat) : List SV → Option (List SV)
  | [] => some []
  | x :: l => match back ks nn fr x, backL ks nn fr l with
    | some y, some m => some (y :: m)
    | _, _ => none
end

theorem idxOf_spec {k : Nat} : ∀ {ks : List Nat} {i : Nat}, idxOf k ks = some i → ks[i]? = some k
  | [], _, h => by simp [idxOf] at h
  | j :: l, i, h => by
    simp only [idxOf] at h
    split at h
    · rename_i hj; simp only [Option.some.injEq] at h; subst h; simp [hj]
    · split at h
      · rename_i i' hi'; simp only [Option.some.injEq] at h; subst h
        simpa using idxOf_spec hi'
      · cases h

/-- The callee's environment. -/
def envOf (ρ : Env) (ks : List Nat) : Env := fun i => match ks[i]? with
  | some k => ρ k
  | none => none

theorem envOf_idx {ρ : Env} {ks : List Nat} {k i : Nat} (h : idxOf k ks = some i) : envOf ρ ks i = ρ k := by
  unfold envOf; rw [idxOf_spec h]

mutual
theorem ren_rel {ρ : Env} {ks : List Nat} : ∀ (x y : SV) (v : Value), ren ks x = some y → Rel ρ x v → Rel (envOf ρ ks) y v
  | .u, y, v, h, hr => by simp only [ren, Option.some.injEq] at h; subst h; simp [Rel]
  | .b x, y, v, h, hr => by simp only [ren, Option.some.injEq] at h; subst h; simpa [Rel] using hr
  | .v x, y, v, h, hr => by simp only [ren, Option.some.injEq] at h; subst h; simpa [Rel] using hr
  | .p k off, y, v, h, hr => by
    simp only [ren] at h
    split at h
    · rename_i i hi; simp only [Option.some.injEq] at h; subst h
      simp only [Rel] at hr ⊢; rw [envOf_idx hi]; exact hr
    · cases h
  | .s k off len es, y, v, h, hr => by
    simp only [ren] at h
    split at h
    · rename_i i hi; simp only [Option.some.injEq] at h; subst h
      simp only [Rel] at hr ⊢; rw [envOf_idx hi]; exact hr
    · cases h
  | .f g caps, y, v, h, hr => by
    simp only [ren] at h
    split at h
    · rename_i l hl; simp only [Option.some.injEq] at h; subst h
      simp only [Rel] at hr ⊢
      obtain ⟨vs, hv, hr⟩ := hr
      exact ⟨vs, hv, renL_rel caps l vs hl hr⟩
    · cases h
  | .a l', y, v, h, hr => by
    simp only [ren] at h
    split at h
    · rename_i l hl; simp only [Option.some.injEq] at h; subst h
      simp only [Rel] at hr ⊢
      obtain ⟨vs, hv, hr⟩ := hr
      exact ⟨vs, hv, renL_rel l' l vs hl hr⟩
    · cases h
  | .t l', y, v, h, hr => by
    simp only [ren] at h
    split at h
    · rename_i l hl; simp only [Option.some.injEq] at h; subst h
      simp only [Rel] at hr ⊢
      obtain ⟨vs, hv, hr⟩ := hr
      exact ⟨vs, hv, renL_rel l' l vs hl hr⟩
    · cases h
theorem renL_rel {ρ : Env} {ks : List Nat} : ∀ (l m : List SV) (vs : List Value), renL ks l = some m → Rels ρ l vs → Rels (envOf ρ ks) m vs
  | [], m, vs, h, hr => by simp only [renL, Option.some.injEq] at h; subst h; cases vs <;> simp [Rels] at hr ⊢
  | x :: l, m, vs, h, hr => by
    simp only [renL] at h
    split at h
    · rename_i y m' hy hm
      simp only [Option.some.injEq] at h; subst h
      cases vs with
      | nil => simp [Rels] at hr
      | cons v vs =>
        simp only [Rels] at hr ⊢
        exact ⟨ren_rel x y v hy hr.1, renL_rel l m' vs hm hr.2⟩
    · cases h
end

mutual
theorem back_rel {ρc ρ' : Env} {ks : List Nat} {nn fr : Nat} (h1 : ∀ i k, ks[i]? = some k → ρ' k = ρc i) (h2 : ∀ j, j < nn → ρ' (fr + j) = ρc (ks.length + j)) :
    ∀ (x y : SV) (v : Value), back ks nn fr x = some y → Rel ρc x v → Rel ρ' y v
  | .u, y, v, h, hr => by simp only [back, Option.some.injEq] at h; subst h; simp [Rel]
  | .b x, y, v, h, hr => by simp only [back, Option.some.injEq] at h; subst h; simpa [Rel] using hr
  | .v x, y, v, h, hr => by simp only [back, Option.some.injEq] at h; subst h; simpa [Rel] using hr
  | .p k off, y, v, h, hr => by
    simp only [back] at h
    split at h
    · rename_i j hj; simp only [Option.some.injEq] at h; subst h
      simp only [Rel] at hr ⊢; rw [h1 k j hj]; exact hr
    · rename_i hn
      split at h
      · rename_i hlt; simp only [Option.some.injEq] at h; subst h
        have hle : ks.length ≤ k := by simpa using hn
        simp only [Rel] at hr ⊢; rw [h2 _ hlt, Nat.add_sub_cancel' hle]; exact hr
      · cases h
  | .s k off len es, y, v, h, hr => by
    simp only [back] at h
    split at h
    · rename_i j hj; simp only [Option.some.injEq] at h; subst h
      simp only [Rel] at hr ⊢; rw [h1 k j hj]; exact hr
    · rename_i hn
      split at h
      · rename_i hlt; simp only [Option.some.injEq] at h; subst h
        have hle : ks.length ≤ k := by simpa using hn
        simp only [Rel] at hr ⊢; rw [h2 _ hlt, Nat.add_sub_cancel' hle]; exact hr
      · cases h
  | .f g caps, y, v, h, hr => by
    simp only [back] at h
    split at h
    · rename_i l hl; simp only [Option.some.injEq] at h; subst h
      simp only [Rel] at hr ⊢
      obtain ⟨vs, hv, hr⟩ := hr
      exact ⟨vs, hv, backL_rel h1 h2 caps l vs hl hr⟩
    · cases h
  | .a l', y, v, h, hr => by
    simp only [back] at h
    split at h
    · rename_i l hl; simp only [Option.some.injEq] at h; subst h
      simp only [Rel] at hr ⊢
      obtain ⟨vs, hv, hr⟩ := hr
      exact ⟨vs, hv, backL_rel h1 h2 l' l vs hl hr⟩
    · cases h
  | .t l', y, v, h, hr => by
    simp only [back] at h
    split at h
    · rename_i l hl; simp only [Option.some.injEq] at h; subst h
      simp only [Rel] at hr ⊢
      obtain ⟨vs, hv, hr⟩ := hr
      exact ⟨vs, hv, backL_rel h1 h2 l' l vs hl hr⟩
    · cases h
theorem backL_rel {ρc ρ' : Env} {ks : List Nat} {nn fr : Nat} (h1 : ∀ i k, ks[i]? = some k → ρ' k = ρc i) (h2 : ∀ j, j < nn → ρ' (fr + j) = ρc (ks.length + j)) :
    ∀ (l m : List SV) (vs : List Value), backL ks nn fr l = some m → Rels ρc l vs → Rels ρ' m vs
  | [], m, vs, h, hr => by simp only [backL, Option.some.injEq] at h; subst h; cases vs <;> simp [Rels] at hr ⊢
  | x :: l, m, vs, h, hr => by
    simp only [backL] at h
    split at h
    · rename_i y m' hy hm
      simp only [Option.some.injEq] at h; subst h
      cases vs with
      | nil => simp [Rels] at hr
      | cons v vs =>
        simp only [Rels] at hr ⊢
        exact ⟨back_rel h1 h2 x y v hy hr.1, backL_rel h1 h2 l m' vs hm hr.2⟩
    · cases h
end

mutual
theorem back_has {ks : List Nat} {nn fr k : Nat} : ∀ (x y : SV), back ks nn fr x = some y → y.has k → k ∈ ks ∨ (fr ≤ k ∧ k < fr + nn)
  | .u, y, h, hk => by simp only [back, Option.some.injEq] at h; subst h; simp [SV.has] at hk
  | .b x, y, h, hk => by simp only [back, Option.some.injEq] at h; subst h; simp [SV.has] at hk
  | .v x, y, h, hk => by simp only [back, Option.some.injEq] at h; subst h; simp [SV.has] at hk
  | .p j off, y, h, hk => by
    simp only [back] at h
    split at h
    · rename_i j' hj; simp only [Option.some.injEq] at h; subst h
      simp only [SV.has] at hk; subst hk; exact .inl (List.mem_of_getElem? hj)
    · split at h
      · rename_i hlt; simp only [Option.some.injEq] at h; subst h
        simp only [SV.has] at hk; exact .inr ⟨by omega, by omega⟩
      · cases h
  | .s j off len es, y, h, hk => by
    simp only [back] at h
    split at h
    · rename_i j' hj; simp only [Option.some.injEq] at h; subst h
      simp only [SV.has] at hk; subst hk; exact .inl (List.mem_of_getElem? hj)
    · split at h
      · rename_i hlt; simp only [Option.some.injEq] at h; subst h
        simp only [SV.has] at hk; exact .inr ⟨by omega, by omega⟩
      · cases h
  | .f g caps, y, h, hk => by
    simp only [back] at h
    split at h
    · rename_i l hl; simp only [Option.some.injEq] at h; subst h
      exact backL_has caps l hl (by simpa [SV.has] using hk)
    · cases h
  | .a l', y, h, hk => by
    simp only [back] at h
    split at h
    · rename_i l hl; simp only [Option.some.injEq] at h; subst h
      exact backL_has l' l hl (by simpa [SV.has] using hk)
    · cases h
  | .t l', y, h, hk => by
    simp only [back] at h
    split at h
    · rename_i l hl; simp only [Option.some.injEq] at h; subst h
      exact backL_has l' l hl (by simpa [SV.has] using hk)
    · cases h
theorem backL_has {ks : List Nat} {nn fr k : Nat} : ∀ (l m : List SV), backL ks nn fr l = some m → SV.hasl k m → k ∈ ks ∨ (fr ≤ k ∧ k < fr + nn)
  | [], m, h, hk => by simp only [backL, Option.some.injEq] at h; subst h; simp [SV.hasl] at hk
  | x :: l, m, h, hk => by
    simp only [backL] at h
    split at h
    · rename_i y m' hy hm
      simp only [Option.some.injEq] at h; subst h
      simp only [SV.hasl] at hk
      rcases hk with hk | hk
      · exact back_has x y hy hk
      · exact backL_has l m' hm hk
    · cases h
end

def isUn : BK → Bool
  | .un => true
  | _ => false

def nodupB : List Nat → Bool
  | [] => true
  | x :: l => !l.contains x && nodupB l

/-- The blocks that are handed over, renumbered; m: to be written. -/
def renB (ks : List Nat) (m : Bool) : BK → Option BK
  | .live own true cells => if m = true ∧ own = false then none else some (.live m true cells)
  | .live own false cells => if m = true ∧ own = false then none else match renL ks cells with
    | some l => some (.live m false l)
    | none => none
  | _ => none

def renBs (ks : List Nat) (bk : Nat → BK) : List Nat → List BK → Option (List BK)
  | [], _ => some []
  | k :: l, mb => match renB ks (!isUn (mb.headD .un)) (bk k), renBs ks bk l mb.tail with
    | some x, some m => some (x :: m)
    | _, _ => none

def backK (ks : List Nat) (nn fr : Nat) : BK → Option BK
  | .dead => some .dead
  | .live true true cells => some (.live true true cells)
  | .live true false cells => match backL ks nn fr cells with
    | some cells => some (.live true false cells)
    | none => none
  | _ => none

/-- The blocks that were handed over and have changed. -/
def backMs (ks : List Nat) (nn fr : Nat) : List Nat → List BK → Option (List (Nat × BK))
  | _, [] => some []
  | [], _ :: _ => none
  | k :: l, x :: m => match backMs ks nn fr l m with
    | none => none
    | some us => match isUn x with
      | true => some us
      | false => match backK ks nn fr x with
        | some y => some ((k, y) :: us)
        | none => none

def backBs (ks : List Nat) (nn fr : Nat) : Nat → List BK → Option (List (Nat × BK))
  | _, [] => some []
  | j, x :: l => match backK ks nn fr x, backBs ks nn fr (j + 1) l with
    | some y, some m => some ((j, y) :: m)
    | _, _ => none

/-- The function that is called, and what is captured. -/
def callee : SV → Option (Nat × List SV)
  | .v (.func (.func g) first caps) => match first.toList, caps.toList with
    | [], [] => some (g, [])
    | _, _ => none
  | .f g caps => some (g, caps)
  | _ => none

def symCall (xs : List SV) (bk : Nat → BK) (fr : Nat) (orc : List Or) : Option (Eff × List Ob × List Or × List Nat) :=
  match xs, orc with
  | fv :: args, .call ks res nb mb :: orc =>
    match callee fv with
    | some (g, caps) =>
      match renL ks (args ++ caps), renBs ks bk ks mb, back ks nb.length fr res, backMs ks nb.length fr ks mb, backBs ks nb.length fr fr nb with
      | some args', some bs, some res', some upm, some upn => if nodupB ks then some ({ val := res', ups := upm ++ upn }, [.call g args' bs res nb mb], orc, ks) else none
      | _, _, _, _, _ => none
    | none => none
  | _, _ => none

end Go.Aw

namespace Go.Aw
open Go.RowKit
set_option linter.unusedVariables false
set_option linter.unusedSimpArgs false

section
variable {P : Program} {T : Nat → Option TI} {w0 : Cx} {N : Nat} {D : List Deferred} {ρ : Env} {s : FS} {a : Act} {W : World}

theorem nodupB_spec : ∀ {l : List Nat}, nodupB l = true → ∀ (i j k : Nat), l[i]? = some k → l[j]? = some k → i = j
  | [], _, i, j, k, h, _ => by simp at h
  | x :: l, h, i, j, k, hi, hj => by
    simp only [nodupB, Bool.and_eq_true, Bool.not_eq_true', List.contains_eq_mem, decide_eq_false_iff_not] at h
    cases i with
    | zero => cases j with
      | zero => rfl
      | succ j => simp at hi hj; subst hi; exact (h.1 (List.mem_of_getElem? hj)).elim
    | succ i => cases j with
      | zero => simp at hi hj; subst hj; exact (h.1 (List.mem_of_getElem? hi)).elim
      | succ j => simp at hi hj; rw [nodupB_spec h.2 i j k hi hj]

theorem isUn_iff {x : BK} : isUn x = true ↔ x = .un := by cases x <;> simp [isUn]

theorem renBs_spec {ks : List Nat} {bk : Nat → BK} : ∀ (l : List Nat) (mb : List BK) (m : List BK), renBs ks bk l mb = some m → m.length = l.length ∧ ∀ (i k : Nat), l[i]? = some k → ∃ y, m[i]? = some y ∧ renB ks (!isUn (mb.getD i .un)) (bk k) = some y
  | [], mb, m, h => by simp only [renBs, Option.some.injEq] at h; subst h; simp
  | k :: l, mb, m, h => by
    simp only [renBs] at h
    split at h
    · rename_i x m' hx hm
      simp only [Option.some.injEq] at h; subst h
      obtain ⟨h1, h2⟩ := renBs_spec l _ m' hm
      refine ⟨by simp [h1], fun i k' hi => ?_⟩
      cases i with
      | zero =>
        simp at hi; subst hi
        refine ⟨x, by simp, ?_⟩
        cases mb <;> simpa using hx
      | succ i =>
        simp at hi ⊢
        obtain ⟨y, e1, e2⟩ := h2 i k' hi
        refine ⟨y, e1, ?_⟩
        cases mb <;> simpa using e2
    · cases h

theorem backMs_spec {ks : List Nat} {nn fr : Nat} : ∀ (l : List Nat) (mb : List BK) (us : List (Nat × BK)), backMs ks nn fr l mb = some us →
    (∀ k y, (k, y) ∈ us → ∃ i, l[i]? = some k ∧ mb.getD i .un ≠ .un ∧ backK ks nn fr (mb.getD i .un) = some y) ∧ (∀ i k, l[i]? = some k → mb.getD i .un ≠ .un → ∃ y, (k, y) ∈ us)
  | l, [], us, h => by
    have : us = [] := by cases l <;> (simp only [backMs, Option.some.injEq] at h; exact h.symm)
    subst this
    exact ⟨fun k y hm => by simp at hm, fun i k _ hne => by simp at hne⟩
  | [], x :: m, us, h => by simp [backMs] at h
  | k :: l, x :: m, us, h => by
    simp only [backMs] at h
    split at h
    · cases h
    · rename_i us' hus
      obtain ⟨h1, h2⟩ := backMs_spec l m us' hus
      split at h
      · rename_i hun
        rw [isUn_iff] at hun
        simp only [Option.some.injEq] at h; subst h
        refine ⟨fun k' y hm => ?_, fun i k' hi hne => ?_⟩
        · obtain ⟨i, e1, e2, e3⟩ := h1 k' y hm
          exact ⟨i + 1, by simpa using e1, by simpa using e2, by simpa using e3⟩
        · cases i with
          | zero => simp [hun] at hne
          | succ i => exact h2 i k' (by simpa using hi) (by simpa using hne)
      · rename_i hun
        split at h
        · rename_i y hy
          simp only [Option.some.injEq] at h; subst h
          refine ⟨fun k' y' hm => ?_, fun i k' hi hne => ?_⟩
          · rcases List.mem_cons.1 hm with e | hm
            · cases e
              exact ⟨0, by simp, by simp; intro e; rw [e] at hun; simp [isUn] at hun, by simpa using hy⟩
            · obtain ⟨i, e1, e2, e3⟩ := h1 k' y' hm
              exact ⟨i + 1, by simpa using e1, by simpa using e2, by simpa using e3⟩
          · cases i with
            | zero => simp at hi; subst hi; exact ⟨y, by simp⟩
            | succ i =>
              obtain ⟨y', hm⟩ := h2 i k' (by simpa using hi) (by simpa using hne)
              exact ⟨y', by simp [hm]⟩
        · cases h

theorem backBs_spec {ks : List Nat} {nn fr : Nat} : ∀ (l : List BK) (j : Nat) (m : List (Nat × BK)), backBs ks nn fr j l = some m →
    m.length = l.length ∧ ∀ i x, l[i]? = some x → ∃ y, backK ks nn fr x = some y ∧ m[i]? = some (j + i, y)
  | [], j, m, h => by simp only [backBs, Option.some.injEq] at h; subst h; simp
  | x :: l, j, m, h => by
    simp only [backBs] at h
    split at h
    · rename_i y m' hc hm
      simp only [Option.some.injEq] at h; subst h
      obtain ⟨h1, h2⟩ := backBs_spec l _ m' hm
      refine ⟨by simp [h1], fun i x hi => ?_⟩
      cases i with
      | zero => simp at hi; subst hi; exact ⟨y, hc, by simp⟩
      | succ i =>
        simp at hi
        obtain ⟨y', e1, e2⟩ := h2 i x hi
        exact ⟨y', e1, by simp; rw [e2]; simp; omega⟩
    · cases h

theorem upds_other : ∀ (us : List (Nat × BK)) (f : Nat → BK) (k : Nat), (∀ u ∈ us, u.1 ≠ k) → upds f us k = f k
  | [], f, k, _ => rfl
  | (j, x) :: us, f, k, h => by
    simp only [upds]
    rw [upds_other us _ k (fun u hu => h u (by simp [hu]))]
    have := h (j, x) (by simp)
    simp only at this
    rw [if_neg (fun e => this e.symm)]

theorem upds_cases : ∀ (us : List (Nat × BK)) (f : Nat → BK) (k : Nat), (upds f us k = f k ∧ ∀ u ∈ us, u.1 ≠ k) ∨ (k, upds f us k) ∈ us
  | [], f, k => .inl ⟨rfl, fun u hu => by simp at hu⟩
  | (j, x) :: us, f, k => by
    simp only [upds]
    rcases upds_cases us (fun i => if i = j then x else f i) k with ⟨h1, h2⟩ | h
    · by_cases hk : k = j
      · subst hk
        exact .inr (by rw [h1]; simp)
      · refine .inl ⟨by rw [h1, if_neg hk], fun u hu => ?_⟩
        rcases List.mem_cons.1 hu with rfl | hu
        · exact fun e => hk e.symm
        · exact h2 u hu
    · exact .inr (List.mem_cons_of_mem _ h)

theorem backK_ne {ks : List Nat} {nn fr : Nat} {x y : BK} (h : backK ks nn fr x = some y) (hp : x.pl) : y ≠ .un ∧ (y.own → x.own) ∧ (∀ k, y.has k → k ∈ ks ∨ (fr ≤ k ∧ k < fr + nn)) ∧ y.pl := by
  unfold backK at h
  split at h
  · simp only [Option.some.injEq] at h; subst h; exact ⟨by simp, fun h => h.elim, fun k hk => hk.elim, trivial⟩
  · simp only [Option.some.injEq] at h; subst h
    exact ⟨by simp, fun _ => trivial, fun k hk => (hp k hk).elim, hp⟩
  · split at h
    · rename_i cells c' hc
      simp only [Option.some.injEq] at h; subst h
      exact ⟨by simp, fun _ => trivial, fun k hk => backL_has _ _ hc hk, trivial⟩
    · cases h
  · cases h

theorem backK_rep {ρc ρ' : Env} {ks : List Nat} {nn fr : Nat} {M M' : Nat → Prop} {j k : Nat} {x y : BK} (h1 : ∀ i k, ks[i]? = some k → ρ' k = ρc i) (h2 : ∀ j, j < nn → ρ' (fr + j) = ρc (ks.length + j)) (hk : ρ' k = ρc j) (hM : ∀ b, M' b → M b)
    (h : backK ks nn fr x = some y) (hp : x.pl) (hb : BRep ρc M' W j x) : BRep ρ' M W k y := by
  unfold backK at h
  split at h
  · simp only [Option.some.injEq] at h; subst h; trivial
  · simp only [Option.some.injEq] at h; subst h
    rcases hb with ⟨q1, q2⟩ | ⟨b, vs, rest, ty, q1, q2, q3, q4⟩
    · exact .inl ⟨hk.trans q1, q2⟩
    · exact .inr ⟨b, vs, rest, ty, hk.trans q1, hM b q2, Plain.congr hp q3, q4⟩
  · split at h
    · rename_i cells c' hc
      simp only [Option.some.injEq] at h; subst h
      rcases hb with ⟨q1, q2⟩ | ⟨b, vs, rest, ty, q1, q2, q3, q4⟩
      · subst q2
        simp only [backL, Option.some.injEq] at hc; subst hc
        exact .inl ⟨hk.trans q1, rfl⟩
      · exact .inr ⟨b, vs, rest, ty, hk.trans q1, hM b q2, backL_rel h1 h2 _ _ vs hc q3, q4⟩
    · cases h
  · cases h

/-- A call has come back: new blocks, those handed over have turned, and the world has grown. -/
theorem Rep.called (h : Rep w0 N D ρ s a W) {W' : World} {own' : Nat → Prop} (hb : Kept W own' W') {ks : List Nat} (hnd : nodupB ks = true) {mb nb : List BK} {fr : Nat} (hfr : ∀ k, fr ≤ k → k < fr + nb.length → s.bk k = .un) (hks : ∀ k ∈ ks, s.bk k ≠ .un)
    {upm upn : List (Nat × BK)} (hm : backMs ks nb.length fr ks mb = some upm) (hu : backBs ks nb.length fr fr nb = some upn)
    (hown : ∀ b, own' b → ∃ i k n, ks[i]? = some k ∧ mb.getD i .un ≠ .un ∧ (s.bk k).own ∧ ρ k = some (b, 0, n)) {ρ' : Env} (hold : ∀ i k, ks[i]? = some k → ρ' i = ρ k)
    (hnew : ∀ j, BRep ρ' (fun b => W.heap.size ≤ b ∨ own' b) W' j (postB ks.length mb nb j)) (hplp : ∀ j, (postB ks.length mb nb j).pl)
    (hap : ∀ i j b n b' n', i ≠ j → (postB ks.length mb nb i).own → (postB ks.length mb nb j).own → ρ' i = some (b, 0, n) → ρ' j = some (b', 0, n') → b ≠ b') :
    Rep w0 N D (fun k => if fr ≤ k ∧ k < fr + nb.length then ρ' (ks.length + (k - fr)) else ρ k) (s.app none { val := .u, ups := upm ++ upn }) a W' ∧
    (∀ k, k ∈ ks ∨ (fr ≤ k ∧ k < fr + nb.length) → (s.app none { val := .u, ups := upm ++ upn }).bk k ≠ .un) := by
  obtain ⟨hm1, hm2⟩ := backMs_spec ks mb upm hm
  obtain ⟨hul, hus⟩ := backBs_spec nb fr upn hu
  have hnewk : ∀ k y, (k, y) ∈ upn → (fr ≤ k ∧ k < fr + nb.length) ∧ backK ks nb.length fr (nb.getD (k - fr) .un) = some y := fun k y hm => by
    obtain ⟨i, hi⟩ := List.getElem?_of_mem hm
    have hlt : i < nb.length := by rw [← hul]; exact (List.getElem?_eq_some_iff.1 hi).1
    obtain ⟨y', e2, e3⟩ := hus i nb[i] (by simp)
    rw [hi] at e3; cases e3
    refine ⟨by omega, ?_⟩
    rw [Nat.add_sub_cancel_left, show nb.getD i .un = nb[i] by simp [List.getD_eq_getElem?_getD, hlt]]
    exact e2
  have hnewm : ∀ k, fr ≤ k → k < fr + nb.length → ∃ y, (k, y) ∈ upn := fun k h1 h2 => by
    obtain ⟨y', _, e3⟩ := hus (k - fr) (nb[k - fr]'(by omega)) (by simp)
    rw [Nat.add_sub_cancel' h1] at e3
    exact ⟨_, List.mem_of_getElem? e3⟩
  -- what each block has come to
  have cls : ∀ k, ((s.app none { val := .u, ups := upm ++ upn }).bk k = s.bk k ∧ ¬ (fr ≤ k ∧ k < fr + nb.length) ∧ ∀ i, ks[i]? = some k → mb.getD i .un = .un) ∨
      ∃ j, backK ks nb.length fr (postB ks.length mb nb j) = some ((s.app none { val := .u, ups := upm ++ upn }).bk k) ∧
        ((fr ≤ k ∧ k < fr + nb.length ∧ j = ks.length + (k - fr)) ∨ (¬ (fr ≤ k ∧ k < fr + nb.length) ∧ ks[j]? = some k ∧ j < ks.length)) := fun k => by
    simp only [FS.app]
    rcases upds_cases (upm ++ upn) s.bk k with ⟨h1, h2⟩ | h1
    · refine .inl ⟨h1, fun hn => ?_, fun i hi => ?_⟩
      · obtain ⟨y, hy⟩ := hnewm k hn.1 hn.2
        exact h2 _ (List.mem_append_right _ hy) rfl
      · refine Classical.byContradiction fun hne => ?_
        obtain ⟨y, hy⟩ := hm2 i k hi hne
        exact h2 _ (List.mem_append_left _ hy) rfl
    · rcases List.mem_append.1 h1 with h1 | h1
      · obtain ⟨i, e1, e2, e3⟩ := hm1 _ _ h1
        have hlt := (List.getElem?_eq_some_iff.1 e1).1
        refine .inr ⟨i, by rw [postB, if_pos hlt]; exact e3, .inr ⟨fun hn => hks k (List.mem_of_getElem? e1) (hfr k hn.1 hn.2), e1, hlt⟩⟩
      · obtain ⟨e1, e2⟩ := hnewk _ _ h1
        refine .inr ⟨ks.length + (k - fr), ?_, .inl ⟨e1.1, e1.2, rfl⟩⟩
        rw [postB, if_neg (by omega), Nat.add_sub_cancel_left]; exact e2
  have hne : ∀ k, s.bk k ≠ .un → ¬ (fr ≤ k ∧ k < fr + nb.length) := fun k hk h' => hk (hfr k h'.1 h'.2)
  have hρ : ∀ k, s.bk k ≠ .un → (if fr ≤ k ∧ k < fr + nb.length then ρ' (ks.length + (k - fr)) else ρ k) = ρ k := fun k hk => if_neg (hne k hk)
  have hr1 : ∀ i k, ks[i]? = some k → (if fr ≤ k ∧ k < fr + nb.length then ρ' (ks.length + (k - fr)) else ρ k) = ρ' i := fun i k hi => by
    rw [hρ k (hks k (List.mem_of_getElem? hi))]; exact (hold i k hi).symm
  have hr2 : ∀ j, j < nb.length → (if fr ≤ fr + j ∧ fr + j < fr + nb.length then ρ' (ks.length + (fr + j - fr)) else ρ (fr + j)) = ρ' (ks.length + j) := fun j hj => by
    rw [if_pos (by omega), Nat.add_sub_cancel_left]
  have hkeep : ∀ k, s.bk k ≠ .un → (s.app none { val := .u, ups := upm ++ upn }).bk k ≠ .un := fun k hk => by
    rcases cls k with ⟨e, _, _⟩ | ⟨j, e, _⟩
    · rw [e]; exact hk
    · exact (backK_ne e (hplp j)).1
  have hmem : ∀ k, k ∈ ks ∨ (fr ≤ k ∧ k < fr + nb.length) → (s.app none { val := .u, ups := upm ++ upn }).bk k ≠ .un := fun k hk => by
    rcases cls k with ⟨e, hn, _⟩ | ⟨j, e, _⟩
    · rw [e]; exact hks k (hk.resolve_right hn)
    · exact (backK_ne e (hplp j)).1
  have hpl2 : ∀ k, ((s.app none { val := .u, ups := upm ++ upn }).bk k).pl := fun k => by
    rcases cls k with ⟨e, _, _⟩ | ⟨j, e, _⟩
    · rw [e]; exact h.pl k
    · exact (backK_ne e (hplp j)).2.2.2
  -- blocks that may be written
  have ownM : ∀ b, own' b → w0.mine b := fun b hb => by
    obtain ⟨i, k, n, _, _, e3, e4⟩ := hown b hb
    have := h.bk k
    cases hx : s.bk k with
    | un => rw [hx] at e3; exact e3.elim
    | dead => rw [hx] at e3; exact e3.elim
    | live own sy cs =>
      rw [hx] at this e3
      cases own with
      | false => exact e3.elim
      | true =>
        rcases this with ⟨q, _⟩ | ⟨b₁, vs, rest, ty, q1, q2, _, _⟩
        · rw [e4] at q; cases q
        · rw [e4] at q1; cases q1; exact q2
  have oldown : ∀ k b n, (s.bk k).own → ρ k = some (b, 0, n) → (∀ i, ks[i]? = some k → mb.getD i .un = .un) → b < W.heap.size ∧ ¬ own' b := fun k b n hk e1 hno => by
    constructor
    · have := h.bk k
      cases hx : s.bk k with
      | un => rw [hx] at hk; exact hk.elim
      | dead => rw [hx] at hk; exact hk.elim
      | live own sy cs =>
        rw [hx] at this hk
        cases own with
        | false => exact hk.elim
        | true =>
          rcases this with ⟨q, _⟩ | ⟨b₁, vs, rest, ty, q1, _, _, q4⟩
          · rw [e1] at q; cases q
          · rw [e1] at q1; cases q1; exact heap_lt q4
    · intro hb'
      obtain ⟨i, k', n', g1, g2, g3, g4⟩ := hown b hb'
      by_cases hkk : k = k'
      · subst hkk; exact g2 (hno i g1)
      · exact h.apart k k' b n b n' hkk hk g3 e1 g4 rfl
  refine ⟨{ defs := h.defs, size := h.size, sl := fun t => Rel.congr _ _ (fun k hk => hρ k (h.wf1 t k hk)) (h.sl t), bk := fun k => ?_, apart := fun i j b n b' n' hij hi hj e1 e2 => ?_, wf1 := fun t k hk => hkeep k (h.wf1 t k hk), wf2 := fun i k hk => ?_, kept := ?_, pl := hpl2, old := fun i hi => ⟨(hρ i (h.old i hi).2).trans (h.old i hi).1, hkeep i (h.old i hi).2⟩ }, hmem⟩
  · rcases cls k with ⟨e, hn, hno⟩ | ⟨j, e, hj⟩
    · rw [e]
      by_cases hun : s.bk k = .un
      · rw [hun]; trivial
      · refine BRep.congr (hρ k hun) (fun j hj => hρ j (h.wf2 k j hj)) ?_
        have hb0 := h.bk k
        cases hx : s.bk k with
        | un => trivial
        | dead => trivial
        | live own sy cs =>
          rw [hx] at hb0
          cases own with
          | true =>
            rcases hb0 with hb0 | ⟨b, vs, rest, ty, q1, q2, q3, q4⟩
            · exact .inl hb0
            · obtain ⟨g1, g2⟩ := oldown k b _ (by rw [hx]; trivial) q1 hno
              exact .inr ⟨b, vs, rest, ty, q1, q2, q3, by rw [hb.block b g1 g2]; exact q4⟩
          | false =>
            rcases hb0 with hb0 | ⟨b, o, n, vs, q1, q2, q3, q4⟩
            · exact .inl hb0
            · refine .inr ⟨b, o, n, vs, q1, q2, q3, fun i x hx' => ?_⟩
              have hne : vs ≠ [] := by rintro rfl; simp at hx'
              have hc := q4 i x hx'
              have hlt := cell_lt hc
              simp only [World.cell?] at hc ⊢
              rw [hb.block b hlt (fun ho => q2.2 hne (ownM b ho))]; exact hc
    · have hb0 := hnew j
      have hkj : (if fr ≤ k ∧ k < fr + nb.length then ρ' (ks.length + (k - fr)) else ρ k) = ρ' j := by
        rcases hj with ⟨g1, g2, g3⟩ | ⟨g1, g2, g3⟩
        · rw [if_pos ⟨g1, g2⟩, g3]
        · rw [if_neg g1]; exact (hold j k g2).symm
      exact backK_rep hr1 hr2 hkj (fun b hb' => hb'.elim (fun h' => .inl (Nat.le_trans h.size_le h')) (ownM b)) e (hplp j) hb0
  · have new : ∀ k j b n, backK ks nb.length fr (postB ks.length mb nb j) = some ((s.app none { val := .u, ups := upm ++ upn }).bk k) → ((s.app none { val := .u, ups := upm ++ upn }).bk k).own → ρ' j = some (b, 0, n) → W.heap.size ≤ b ∨ own' b := fun k j b n e ho hr => by
      have ho' := (backK_ne e (hplp j)).2.1 ho
      have hb0 := hnew j
      cases hx : postB ks.length mb nb j with
      | un => rw [hx] at ho'; exact ho'.elim
      | dead => rw [hx] at ho'; exact ho'.elim
      | live own sy cs =>
        rw [hx] at hb0 ho'
        cases own with
        | false => exact ho'.elim
        | true =>
          rcases hb0 with ⟨q, _⟩ | ⟨b₁, vs, rest, ty, q1, q2, _, _⟩
          · rw [hr] at q; cases q
          · rw [hr] at q1; cases q1; exact q2
    have rhoj : ∀ k j, ((fr ≤ k ∧ k < fr + nb.length ∧ j = ks.length + (k - fr)) ∨ (¬ (fr ≤ k ∧ k < fr + nb.length) ∧ ks[j]? = some k ∧ j < ks.length)) → (if fr ≤ k ∧ k < fr + nb.length then ρ' (ks.length + (k - fr)) else ρ k) = ρ' j := fun k j hj => by
      rcases hj with ⟨g1, g2, g3⟩ | ⟨g1, g2, g3⟩
      · rw [if_pos ⟨g1, g2⟩, g3]
      · rw [if_neg g1]; exact (hold j k g2).symm
    rcases cls i with ⟨ei, ni, noi⟩ | ⟨ji, ei, hji⟩
    · rw [ei] at hi
      rw [if_neg ni] at e1
      rcases cls j with ⟨ej, nj, noj⟩ | ⟨jj, ej, hjj⟩
      · rw [ej] at hj
        rw [if_neg nj] at e2
        exact h.apart i j b n b' n' hij hi hj e1 e2
      · rw [rhoj j jj hjj] at e2
        obtain ⟨g1, g2⟩ := oldown i b n hi e1 noi
        rcases new j jj b' n' ej hj e2 with g | g
        · omega
        · intro eb; rw [eb] at g2; exact g2 g
    · rw [rhoj i ji hji] at e1
      rcases cls j with ⟨ej, nj, noj⟩ | ⟨jj, ej, hjj⟩
      · rw [ej] at hj
        rw [if_neg nj] at e2
        obtain ⟨g1, g2⟩ := oldown j b' n' hj e2 noj
        rcases new i ji b n ei hi e1 with g | g
        · omega
        · intro eb; rw [← eb] at g2; exact g2 g
      · rw [rhoj j jj hjj] at e2
        refine hap ji jj b n b' n' (fun e => hij ?_) ((backK_ne ei (hplp ji)).2.1 hi) ((backK_ne ej (hplp jj)).2.1 hj) e1 e2
        subst e
        rcases hji with ⟨g1, g2, g3⟩ | ⟨g1, g2, g3⟩ <;> rcases hjj with ⟨f1, f2, f3⟩ | ⟨f1, f2, f3⟩
        · omega
        · omega
        · omega
        · rw [g2] at f2; cases f2; rfl
  · rcases cls i with ⟨e, hn, hno⟩ | ⟨j, e, hj⟩
    · rw [e] at hk
      exact hkeep k (h.wf2 i k hk)
    · exact hmem k ((backK_ne e (hplp j)).2.2.1 k hk)
  · exact ⟨hb.os.trans h.kept.os, hb.tape.trans h.kept.tape, hb.output.trans h.kept.output, Nat.le_trans h.kept.size hb.size, fun k hk ho => (hb.block k (Nat.lt_of_lt_of_le hk h.kept.size) (fun h' => by
      rcases ownM k h' with g | g
      · omega
      · exact ho g)).trans (h.kept.block k hk ho)⟩

theorem renB_rep {ks : List Nat} {k i : Nat} {m : Bool} {x y : BK} {M M' : Nat → Prop} (hk : ks[i]? = some k) (hx : renB ks m x = some y) (hp : x.pl) (h : BRep ρ M W k x)
    (hM : x.own → m = true → ∀ b n, ρ k = some (b, 0, n) → M' b) (hM' : m = false → ∀ b, b < W.heap.size → (M b → ∃ n, ρ k = some (b, 0, n) ∧ x.own) → ¬ M' b) : BRep (envOf ρ ks) M' W i y ∧ y.pl := by
  have he : envOf ρ ks i = ρ k := by unfold envOf; rw [hk]
  have key : ∀ (own sym : Bool) (cells l : List SV), x = .live own sym cells → ¬ (m = true ∧ own = false) → (∀ vs, Rels ρ cells vs → Rels (envOf ρ ks) l vs) → (cells = [] → l = []) → BRep (envOf ρ ks) M' W i (.live m sym l) := fun own sym cells l hxe hmo hrl hnil => by
    subst hxe
    cases own with
    | true =>
      rcases h with ⟨h1, h2⟩ | ⟨b, vs, rest, ty, h1, h2, h3, h4⟩
      · cases m <;> exact .inl ⟨he.trans h1, hnil h2⟩
      · cases m with
        | true => exact .inr ⟨b, vs, rest, ty, he.trans h1, hM trivial rfl b _ h1, hrl vs h3, h4⟩
        | false =>
          refine .inr ⟨b, 0, _, vs, he.trans h1, ⟨by simp, fun _ => hM' rfl b (heap_lt h4) (fun _ => ⟨_, h1, trivial⟩)⟩, hrl vs h3, fun j x hj => ?_⟩
          have hi : j < vs.length := (List.getElem?_eq_some_iff.1 hj).1
          simp [World.cell?, h4, List.getElem?_append_left hi, hj]
    | false =>
      have hmf : m = false := by cases m <;> simp at hmo ⊢
      subst hmf
      rcases h with ⟨h1, h2⟩ | ⟨b, o, n, vs, h1, h2, h3, h4⟩
      · exact .inl ⟨he.trans h1, hnil h2⟩
      · refine .inr ⟨b, o, n, vs, he.trans h1, ⟨h2.1, fun hne => ?_⟩, hrl vs h3, h4⟩
        obtain ⟨x, hx⟩ : ∃ x, vs[0]? = some x := by cases vs with
          | nil => exact (hne rfl).elim
          | cons x _ => exact ⟨x, rfl⟩
        exact hM' rfl b (cell_lt (h4 0 x hx)) (fun hm => (h2.2 hne hm).elim)
  cases x with
  | un => simp [renB] at hx
  | dead => simp [renB] at hx
  | live own sym cells =>
    cases sym with
    | true =>
      simp only [renB] at hx
      split at hx
      · cases hx
      rename_i hmo
      simp only [Option.some.injEq] at hx
      subst hx
      exact ⟨key own true cells cells rfl hmo (fun vs hv => Plain.congr hp hv) id, hp⟩
    | false =>
      simp only [renB] at hx
      split at hx
      · cases hx
      rename_i hmo
      split at hx
      · rename_i l hl
        simp only [Option.some.injEq] at hx
        subst hx
        exact ⟨key own false cells l rfl hmo (fun vs hv => renL_rel cells l vs hl hv) (fun e => by subst e; simp only [renL, Option.some.injEq] at hl; exact hl.symm), trivial⟩
      · cases hx

theorem renB_pl {ks : List Nat} {m : Bool} {x y : BK} (hx : renB ks m x = some y) (hp : x.pl) : y.pl := by
  cases x with
  | un => simp [renB] at hx
  | dead => simp [renB] at hx
  | live own sym cells =>
    cases sym <;> simp only [renB] at hx <;> split at hx <;> try (cases hx; done)
    · split at hx
      · simp only [Option.some.injEq] at hx; subst hx; trivial
      · cases hx
    · simp only [Option.some.injEq] at hx; subst hx; exact hp

theorem renB_own {ks : List Nat} {m : Bool} {x y : BK} (hx : renB ks m x = some y) : (y.own ↔ m = true) ∧ (m = true → x.own) := by
  cases x with
  | un => simp [renB] at hx
  | dead => simp [renB] at hx
  | live own sym cells =>
    cases sym <;> simp only [renB] at hx <;> split at hx <;> try (cases hx; done)
    all_goals rename_i hmo
    · split at hx
      · simp only [Option.some.injEq] at hx
        subst hx
        cases m <;> cases own <;> simp_all [BK.own]
      · cases hx
    · simp only [Option.some.injEq] at hx
      subst hx
      cases m <;> cases own <;> simp_all [BK.own]

theorem callee_spec {fv : SV} {g : Nat} {caps : List SV} (h : callee fv = some (g, caps)) {v : Value} (hr : Rel ρ fv v) : ∃ vs : List Value, v = .func (.func g) #[] vs.toArray ∧ Rels ρ caps vs ∧ ∀ k, SV.hasl k caps → fv.has k := by
  unfold callee at h
  split at h
  · rename_i g' first caps'
    split at h
    · rename_i h1 h2
      simp only [Option.some.injEq, Prod.mk.injEq] at h
      obtain ⟨rfl, rfl⟩ := h
      simp only [Rel] at hr
      have e1 : first = #[] := by apply Array.ext'; simp [h1]
      have e2 : caps' = #[] := by apply Array.ext'; simp [h2]
      exact ⟨[], by rw [hr, e1, e2], by simp [Rels], by simp [SV.hasl]⟩
    · cases h
  · rename_i g' caps'
    simp only [Option.some.injEq, Prod.mk.injEq] at h
    obtain ⟨rfl, rfl⟩ := h
    simp only [Rel] at hr
    obtain ⟨vs, hv, hr⟩ := hr
    exact ⟨vs, hv, hr, fun k hk => by simpa [SV.has] using hk⟩
  · cases h

/-- A call, from every state that agrees with this one on what is handed over. -/
theorem call_ok {r : Option Nat} {n : Nat} {o : Oper} {f : Operand} {args : Array Operand} {ts : Array TypeId} (hop : o.op = .call { callee := .value f, args := args, argTypes := ts })
    {fr : Nat} {orc orc' : List Or} {e : Eff} {obs : List Ob} {ks : List Nat} (h : symCall (o.op.operands.toList.map (ev s.sl)) s.bk fr orc = some (e, obs, orc', ks)) (hob : Obs P obs)
    (hrep : Rep w0 N D ρ s a W) (hfr : ∀ u ∈ e.ups, fr ≤ u.1 → s.bk u.1 = .un) (hd : ∀ d, o.dst = some d → d < N) {Q : Exit → Act → World → Prop} {K : Act → World → Prop}
    (hK : ∀ ρ' a' W', Rep w0 N D ρ' (s.app o.dst e) a' W' → K a' W') : o.wpIn (Fw r) n P a W K Q := by
  have hops : o.op.operands.toList = f :: args.toList := by rw [hop]; simp [Op.operands, Call.operands]
  rw [hops, List.map_cons] at h
  unfold symCall at h
  split at h
  · rename_i fv as ks' res nb mb orc2 hcons
    simp only [List.cons.injEq] at hcons
    obtain ⟨hfv, has⟩ := hcons
    split at h
    · rename_i g caps hg
      split at h
      · rename_i args' bs res' upm upn h1 h2 h3 h4m h4
        split at h
        case isFalse => cases h
        rename_i hnd
        simp only [Option.some.injEq, Prod.mk.injEq] at h
        obtain ⟨rfl, rfl, rfl, rfl⟩ := h
        simp only [Obs, Ob.Holds, and_true] at hob
        have hfr' := ev_rel hrep f
        rw [hfv] at hfr'
        obtain ⟨vs, hfval, hcaps, hcw⟩ := callee_spec hg hfr'
        have hargs := evs_rel hrep args.toList
        rw [has] at hargs
        have hall : Rels ρ (as ++ caps) (args.toList.map a.eval ++ vs) := Rels.append hargs hcaps
        have hren := renL_rel (ks := ks') _ _ _ h1 hall
        obtain ⟨hbl, hbs⟩ := renBs_spec ks' mb bs h2
        have hks : ∀ k ∈ ks', s.bk k ≠ .un := fun k hk hun => by
          obtain ⟨i, hi⟩ := List.getElem?_of_mem hk
          obtain ⟨y, _, hy⟩ := hbs i k hi
          rw [hun] at hy; simp [renB] at hy
        -- which of the blocks handed over may be written
        have hownb : ∀ i, (bs.getD i .un).own → ∃ k, ks'[i]? = some k ∧ mb.getD i .un ≠ .un ∧ (s.bk k).own := fun i hi => by
          cases hk : ks'[i]? with
          | none =>
            have : bs[i]? = none := by rw [List.getElem?_eq_none_iff] at hk ⊢; omega
            rw [List.getD_eq_getElem?_getD, this] at hi; exact hi.elim
          | some k =>
            obtain ⟨y, hy1, hy2⟩ := hbs i k hk
            rw [show bs.getD i .un = y by simp [hy1]] at hi
            have hm := (renB_own hy2).1.1 hi
            exact ⟨k, rfl, fun e => by rw [e] at hm; simp [isUn] at hm, (renB_own hy2).2 hm⟩
        have hownOf : ∀ b, ownOf (envOf ρ ks') bs b → ∃ i k n, ks'[i]? = some k ∧ mb.getD i .un ≠ .un ∧ (s.bk k).own ∧ ρ k = some (b, 0, n) := fun b ⟨i, n, hi, hr⟩ => by
          obtain ⟨k, e1, e2, e3⟩ := hownb i hi
          refine ⟨i, k, n, e1, e2, e3, ?_⟩
          unfold envOf at hr; rw [e1] at hr; exact hr
        have hMown : ∀ k b n, (s.bk k).own → ρ k = some (b, 0, n) → w0.mine b ∧ b < W.heap.size := fun k b n hk hr => by
          have := hrep.bk k
          cases hx : s.bk k with
          | un => rw [hx] at hk; exact hk.elim
          | dead => rw [hx] at hk; exact hk.elim
          | live own sy cs =>
            rw [hx] at this hk
            cases own with
            | false => exact hk.elim
            | true =>
              rcases this with ⟨q, _⟩ | ⟨b₁, vs, rest, ty, q1, q2, _, q4⟩
              · rw [hr] at q; cases q
              · rw [hr] at q1; cases q1; exact ⟨q2, heap_lt q4⟩
        obtain ⟨hE, hob⟩ := hob
        have hcall := hob (envOf ρ ks') W (args.toList.map a.eval ++ vs) hren (fun i => by
          cases hi : ks'[i]? with
          | none =>
            have : bs[i]? = none := by rw [List.getElem?_eq_none_iff] at hi ⊢; omega
            simp [this, BRep]
          | some k =>
            obtain ⟨y, hy1, hy2⟩ := hbs i k hi
            rw [show bs.getD i .un = y by simp [hy1]]
            refine (renB_rep hi hy2 (hrep.pl k) (hrep.bk k) (fun ho hm b n hr => .inr ⟨i, n, by rw [show bs.getD i .un = y by simp [hy1]]; exact (renB_own hy2).1.2 hm, by unfold envOf; rw [hi]; exact hr⟩) (fun hm b hlt hMb hM' => ?_)).1
            · rcases hM' with hM' | hM'
              · simp only [callCx] at hM'; omega
              · obtain ⟨i', k', n', g1, g2, g3, g4⟩ := hownOf b hM'
                obtain ⟨n2, q1, q2⟩ := hMb (hMown k' b n' g3 g4).1
                by_cases hkk : k = k'
                · subst hkk
                  have := nodupB_spec hnd i i' k hi g1
                  subst this
                  simp only [Bool.not_eq_false'] at hm
                  exact g2 (isUn_iff.1 hm)
                · exact hrep.apart k k' b n2 b n' hkk q2 g3 q1 g4 rfl) (fun i => by
          cases hi : ks'[i]? with
          | none =>
            have : bs[i]? = none := by rw [List.getElem?_eq_none_iff] at hi ⊢; omega
            simp [this, BK.pl]
          | some k =>
            obtain ⟨y, hy1, hy2⟩ := hbs i k hi
            rw [show bs.getD i .un = y by simp [hy1]]
            exact renB_pl hy2 (hrep.pl k)) (fun i j b n b' n' hij hi hj e1 e2 => by
          obtain ⟨k1, q1, _, q3⟩ := hownb i hi
          obtain ⟨k2, p1, _, p3⟩ := hownb j hj
          unfold envOf at e1 e2
          rw [q1] at e1; rw [p1] at e2
          refine hrep.apart k1 k2 b n b' n' (fun e => hij ?_) q3 p3 e1 e2
          subst e
          exact nodupB_spec hnd i j k1 q1 p1)
        have hnd' : ∀ c, o.op ≠ .defer c := fun c hc => by rw [hop] at hc; cases hc
        have hrun : (execOp a.eval o).run P W = .ok (.enter g (args.toList.map a.eval ++ vs).toArray) W := by
          have e1 : (args.map a.eval) ++ vs.toArray = (args.toList.map a.eval ++ vs).toArray := by apply Array.ext'; simp
          simp only [execOp, hop, resolve, hfval, Deferred.ofValue, Sem.run_bind, Sem.run_pure, Result.andThen_ok, invoke]
          simp only [Array.empty_append]
          rw [hE, e1]
        refine ⟨fun _ _ => trivial, ?_⟩
        rw [Oper.semAt_eq _ _ _ hnd', hrun]
        simp only [Oper.uponIn]
        refine ⟨fun h => by simp [Fw] at h, callsIn_Fw.2 (hcall.mono fun e w' hR => ?_)⟩
        obtain ⟨ρ', v, rfl, hold, hres, hkept, hnew, hplp, hap⟩ := hR
        simp only [callCx] at hold hkept hnew hplp hap
        rw [hbl] at hnew hplp hap
        have hold' : ∀ i k, ks'[i]? = some k → ρ' i = ρ k := fun i k hi => by
          have hlt : i < bs.length := by rw [hbl]; exact (List.getElem?_eq_some_iff.1 hi).1
          rw [hold i hlt]; unfold envOf; rw [hi]
        obtain ⟨hul, hus⟩ := backBs_spec nb fr upn h4
        have hfr : ∀ k, fr ≤ k → k < fr + nb.length → s.bk k = .un := fun k h1 h2 => by
          obtain ⟨y', _, e3⟩ := hus (k - fr) (nb[k - fr]'(by omega)) (by simp)
          rw [Nat.add_sub_cancel' h1] at e3
          exact hfr _ (List.mem_append_right _ (List.mem_of_getElem? e3)) h1
        obtain ⟨hrep2, hmem⟩ := hrep.called hkept hnd hfr hks h4m h4 hownOf hold' hnew hplp hap
        refine hK (fun k => if fr ≤ k ∧ k < fr + nb.length then ρ' (ks'.length + (k - fr)) else ρ k) _ _ ?_
        rw [app_split]
        refine hrep2.put o.dst hd (back_rel (fun i k hi => ?_) (fun j hj => ?_) res res' v h3 hres) (fun k hk => hmem k (back_has res res' h3 hk))
        · have hk' : s.bk k ≠ .un := hks k (List.mem_of_getElem? hi)
          rw [if_neg (fun h' => hk' (hfr k h'.1 h'.2))]; exact (hold' i k hi).symm
        · rw [if_pos (by omega), Nat.add_sub_cancel_left]
      · cases h
    · cases h
  · cases h

end
end Go.Aw

namespace Go.Aw
open Go.RowKit
set_option linter.unusedVariables false
set_option linter.unusedSimpArgs false

def tmpsOf (l : List Operand) : List Nat := l.filterMap fun | .tmp t => some t | _ => none

def gslot (ops : Array Oper) (o : Oper) : List Nat :=
  match o.guard with
  | none => []
  | some (j, _) => (dstOf ops j).toList

def wantS (ops : Array Oper) (sl : Nat → SV) (o : Oper) : Option Bool :=
  match o.guard with
  | none => some true
  | some (j, w) => match dstOf ops j with
    | none => none
    | some g => match sl g with
      | .b d => some (d == w)
      | .v (.tuple vs) => match vs.toList with
        | [] => some false
        | _ => none
      | _ => none

def opEff (T : Nat → Option TI) (o : Oper) (s : LS) (orc : List Or) : Option (Eff × List Ob × List Or × List Nat) :=
  match o.op with
  | .call { callee := .value _, args := _, argTypes := _ } => symCall (o.op.operands.toList.map (ev s.fs.sl)) s.fs.bk s.bk.length orc
  | .defer _ => none
  | op => match symOp T op (op.operands.toList.map (ev s.fs.sl)) ((opBlk op (op.operands.toList.map (ev s.fs.sl))).map s.fs.bk) s.bk.length orc with
    | some (e, obs, orc) => some (e, obs, orc, opBlk op (op.operands.toList.map (ev s.fs.sl)))
    | none => none

def evOp (T : Nat → Option TI) (ops : Array Oper) (isG : Bool) (o : Oper) (s : LS) (orc : List Or) : Option (Ev × List Ob × List Or) :=
  match wantS ops s.fs.sl o with
  | none => none
  | some false => some ({ eff := { val := .v undef }, rs := gslot ops o, rb := [] }, [], orc)
  | some true =>
    match opEff T o s orc with
    | none => none
    | some (e, obs, orc, rb) =>
      match isG, e.val with
      | true, .v (.bool c) =>
        match orc with
        | .d d :: orc => some ({ eff := { val := .b d, ups := e.ups }, rs := gslot ops o ++ tmpsOf o.op.operands.toList, rb := rb ++ e.ups.map (·.1) }, obs ++ [.eq c d], orc)
        | _ => none
      | _, _ => some ({ eff := e, rs := gslot ops o ++ tmpsOf o.op.operands.toList, rb := rb ++ e.ups.map (·.1) }, obs, orc)

def isGuard (ops : Array Oper) (i : Nat) : Bool := ops.toList.any fun o => match o.guard with
  | some (j, _) => j == i
  | none => false

def evOps (T : Nat → Option TI) (ops : Array Oper) : List Oper → Nat → LS → List Or → Option (List Ev × LS × List Ob × List Or)
  | [], _, s, orc => some ([], s, [], orc)
  | o :: l, i, s, orc =>
    match evOp T ops (isGuard ops i) o s orc with
    | none => none
    | some (v, obs, orc) =>
      match s.app o.dst v.eff with
      | none => none
      | some s' =>
        match evOps T ops l (i + 1) s' orc with
        | none => none
        | some (vs, s'', obs', orc) => some (v :: vs, s'', obs ++ obs', orc)

/-! ### No operation disturbs another -/
def anyEdges (o : Oper) : List Nat := (o.after.toList.filter fun e => Region.binds .any e).map (·.on)

def clos : List Oper → List Nat → List Nat
  | [], acc => acc
  | o :: l, acc => clos l (acc ++ [(anyEdges o).foldl (fun m e => m ||| (2 ^ e ||| acc.getD e 0)) 0])

def wrC (dst : Option Nat) (v : Ev) : List Nat := (dst.map (2 * ·)).toList ++ v.eff.ups.map (fun u => 2 * u.1 + 1)
def rdC (v : Ev) : List Nat := v.rs.map (2 * ·) ++ v.rb.map (2 * · + 1)

def disj (l m : List Nat) : Bool := l.all fun x => !m.contains x

def raceOK (ops : Array Oper) (evs : List Ev) : Bool :=
  let cl := clos ops.toList []
  let ws := (ops.toList.zip evs).map fun (o, v) => wrC o.dst v
  let rs := evs.map rdC
  (List.range evs.length).all fun i =>
    ((ops.toList[i]?).map fun o => (anyEdges o).all fun e => decide (e < i)).getD true &&
    (List.range i).all fun j => (cl.getD i 0).testBit j ||
      (disj (ws.getD j []) (ws.getD i []) && disj (ws.getD j []) (rs.getD i []) && disj (ws.getD i []) (rs.getD j []))

section
variable {P : Program} {T : Nat → Option TI} {w0 : Cx} {N : Nat} {D : List Deferred} {ρ : Env} {a : Act} {W : World} {r : Option Nat} {n : Nat} {ops : Array Oper}

theorem wantS_ok {s : FS} (hrep : Rep w0 N D ρ s a W) {o : Oper} {b : Bool} (h : wantS ops s.sl o = some b) : Region.wanted o (yielded ops a.tmps) = b := by
  unfold wantS at h
  unfold Region.wanted
  split at h
  · rename_i hg; rw [hg]; simpa using h
  · rename_i j w hg
    rw [hg]
    simp only
    split at h
    · cases h
    · rename_i g hd
      have hr := hrep.sl g
      have hy : yielded ops a.tmps j = match a.tmps[g]? with
          | some (.bool b) => some b
          | _ => none := by
        unfold yielded
        have : (ops[j]?).bind (·.dst) = some g := hd
        rw [this]; rfl
      split at h
      · rename_i d hs
        rw [hs] at hr
        simp only [Rel] at hr
        have : a.tmps[g]? = some (.bool d) := by
          rw [Array.getD_eq_getD_getElem?] at hr
          cases hx : a.tmps[g]? with
          | none => rw [hx] at hr; simp [undef] at hr
          | some x => rw [hx] at hr; simp at hr; rw [hr]
        rw [hy, this]
        simpa using h
      · rename_i vs hs
        rw [hs] at hr
        simp only [Rel] at hr
        split at h
        · simp only [Option.some.injEq] at h
          subst h
          have : yielded ops a.tmps j = none := by
            rw [hy]
            rw [Array.getD_eq_getD_getElem?] at hr
            cases hx : a.tmps[g]? with
            | none => rfl
            | some x => rw [hx] at hr; simp at hr; rw [hr]
          rw [this]; simp
        · cases h
      · cases h

theorem ev_congr {s s' : Nat → SV} (x : Operand) (h : ∀ t, x = .tmp t → s' t = s t) : ev s' x = ev s x := by
  cases x with
  | tmp t => exact h t rfl
  | const v => cases v <;> rfl
  | global g => rfl
  | func f => rfl

theorem evs_congr {s s' : Nat → SV} {l : List Operand} (h : ∀ t ∈ tmpsOf l, s' t = s t) : l.map (ev s') = l.map (ev s) := by
  refine List.map_congr_left fun x hx => ev_congr x fun t ht => h t ?_
  subst ht
  exact List.mem_filterMap.2 ⟨.tmp t, hx, rfl⟩

theorem renBs_congr {ks : List Nat} {bk bk' : Nat → BK} : ∀ (l : List Nat) (mb : List BK), (∀ k ∈ l, bk' k = bk k) → renBs ks bk' l mb = renBs ks bk l mb
  | [], _, _ => rfl
  | k :: l, mb, h => by simp only [renBs, h k (by simp), renBs_congr l mb.tail (fun j hj => h j (by simp [hj]))]

theorem symCall_congr {xs : List SV} {bk bk' : Nat → BK} {fr : Nat} {orc : List Or} {e : Eff} {obs : List Ob} {orc' : List Or} {ks : List Nat} (h : symCall xs bk fr orc = some (e, obs, orc', ks)) (hk : ∀ k ∈ ks, bk' k = bk k) :
    symCall xs bk' fr orc = some (e, obs, orc', ks) := by
  unfold symCall at h ⊢
  split at h
  · split at h
    · rename_i g caps hg
      split at h
      · rename_i args' bs res' upm upn h1 h2 h3 h4 h5
        split at h
        · rename_i hnd
          simp only [Option.some.injEq, Prod.mk.injEq] at h
          obtain ⟨rfl, rfl, rfl, rfl⟩ := h
          rw [renBs_congr _ _ hk]
          simp only [hg, h1, h2, h3, h4, h5, hnd, if_true]
        · cases h
      · cases h
    · cases h
  · cases h

theorem getD_len {l : List BK} {k : Nat} (h : l.length ≤ k) : l.getD k .un = .un := by
  simp [List.getD_eq_getElem?_getD, List.getElem?_eq_none h]

theorem wpIn_of_does {o : Oper} {s : FS} {e : Eff} (hd : Does P w0 N D s a W o e) (hnd : ∀ c, o.op ≠ .defer c) {Q : Exit → Act → World → Prop} {K : Act → World → Prop}
    (hK : ∀ ρ' a' W', Rep w0 N D ρ' (s.app o.dst e) a' W' → K a' W') : o.wpIn (Fw r) n P a W K Q := by
  obtain ⟨nx, v, W', ρ', hrun, hnx, hrep⟩ := hd
  refine ⟨fun _ _ => trivial, ?_⟩
  rw [Oper.semAt_eq _ _ _ hnd, hrun]
  rcases hnx with rfl | ⟨rfl, rfl⟩
  · exact hK ρ' _ _ hrep
  · exact hK ρ' _ _ hrep

theorem opEff_ok (hT : TOk P T) {o : Oper} {s : LS} {orc orc' : List Or} {e : Eff} {obs : List Ob} {rb : List Nat} (h : opEff T o s orc = some (e, obs, orc', rb)) (hob : Obs P obs)
    {s' : FS} (hs : ∀ t ∈ tmpsOf o.op.operands.toList, s'.sl t = s.fs.sl t) (hb : ∀ k ∈ rb ++ e.ups.map (·.1), s'.bk k = s.fs.bk k)
    (hrep : Rep w0 N D ρ s' a W) (hd : ∀ d, o.dst = some d → d < N) {Q : Exit → Act → World → Prop} {K : Act → World → Prop}
    (hK : ∀ ρ' a' W', Rep w0 N D ρ' (s'.app o.dst e) a' W' → K a' W') : o.wpIn (Fw r) n P a W K Q := by
  have hxs := evs_congr hs
  have hun : ∀ u ∈ e.ups, u.1 = s.bk.length → s'.bk s.bk.length = .un := fun u hu hx => by
    rw [← hx, hb u.1 (List.mem_append_right _ (List.mem_map_of_mem hu)), hx]; exact getD_len (Nat.le_refl _)
  unfold opEff at h
  split at h
  · rename_i f args ts hop
    have hc := symCall_congr (bk' := s'.bk) h (fun k hk => hb k (by simp [hk]))
    rw [← hxs] at hc
    refine call_ok hop hc hob hrep (fun u hu hle => ?_) hd hK
    rw [hb u.1 (List.mem_append_right _ (List.mem_map_of_mem hu))]
    exact getD_len hle
  · cases h
  · rename_i hn1 hn2
    split at h
    · rename_i e' obs' orc'' hs'
      simp only [Option.some.injEq, Prod.mk.injEq] at h
      obtain ⟨rfl, rfl, rfl, rfl⟩ := h
      rw [← hxs] at hs'
      have hs'' : symOp T o.op (o.op.operands.toList.map (ev s'.sl)) ((opBlk o.op (o.op.operands.toList.map (ev s'.sl))).map s'.bk) s.bk.length orc = some (e', obs', orc'') := by
        rw [show (opBlk o.op (o.op.operands.toList.map (ev s'.sl))).map s'.bk = (opBlk o.op (o.op.operands.toList.map (ev s'.sl))).map s.fs.bk from
          List.map_congr_left fun k hk => hb k (by rw [hxs] at hk; simp [hk])]
        exact hs'
      exact wpIn_of_does (symOp_ok hT hs'' hob hrep rfl rfl hun hd) (fun c hc => hn2 c hc) hK
    · cases h

theorem Rep.decide {s : FS} {dst : Option Nat} {c d : Bool} {ups : List (Nat × BK)} (h : Rep w0 N D ρ (s.app dst { val := .v (.bool c), ups := ups }) a W) (hcd : c = d) : Rep w0 N D ρ (s.app dst { val := .b d, ups := ups }) a W := by
  subst hcd
  cases dst with
  | none => exact h
  | some t =>
    refine { h with sl := fun u => ?_, wf1 := fun u k hk => ?_ }
    · have := h.sl u
      simp only [FS.app] at this ⊢
      split
      · rename_i hu; rw [if_pos hu] at this; simpa [Rel] using this
      · rename_i hu; rw [if_neg hu] at this; exact this
    · have := h.wf1 u k
      simp only [FS.app] at this hk ⊢
      split at hk
      · simp [SV.has] at hk
      · rename_i hu; rw [if_neg hu] at this; exact this hk

theorem evOp_ok (hT : TOk P T) {isG : Bool} {o : Oper} {s : LS} {orc orc' : List Or} {v : Ev} {obs : List Ob} (h : evOp T ops isG o s orc = some (v, obs, orc')) (hob : Obs P obs)
    {i : Nat} (hi : ops[i]? = some o) (hd : ∀ d, o.dst = some d → d < N) : LocalOK P r n w0 N D ops i s.fs v := by
  intro s' hs hb ρ a W Q K hrep hK
  unfold wpOpIn
  rw [hi]
  have hdst : dstOf ops i = o.dst := by simp [dstOf, hi]
  rw [hdst] at hK
  simp only
  unfold evOp at h
  have hwant : ∀ b, wantS ops s.fs.sl o = some b → (∀ t ∈ gslot ops o, s'.sl t = s.fs.sl t) → wantS ops s'.sl o = some b := fun b hb hg => by
    unfold wantS at hb ⊢
    split at hb
    · exact hb
    · rename_i j w hgd
      split at hb
      · cases hb
      · rename_i g hdj
        rw [hg g (by simp [gslot, hgd, hdj])]
        exact hb
  split at h
  · cases h
  · rename_i hw
    simp only [Option.some.injEq, Prod.mk.injEq] at h
    obtain ⟨rfl, _, _⟩ := h
    have := wantS_ok hrep (hwant _ hw (fun t ht => hs t ht))
    simp only [this, Bool.false_eq_true, if_false]
    refine ⟨fun _ _ => trivial, hK ρ _ _ ?_⟩
    exact hrep.put o.dst hd (by simp [Rel]) (fun k hk => (has_val hk).elim)
  · rename_i hw
    split at h
    · cases h
    · rename_i e obs' orc2 rb he
      split at h
      · rename_i c hval
        split at h
        · rename_i d orc3
          simp only [Option.some.injEq, Prod.mk.injEq] at h
          obtain ⟨rfl, rfl, _⟩ := h
          obtain ⟨ho1, ho2⟩ := Obs.append hob
          simp only [Obs, Ob.Holds, and_true] at ho2
          have := wantS_ok hrep (hwant _ hw (fun t ht => hs t (by simp [ht])))
          simp only [this, if_true]
          refine opEff_ok hT he ho1 (fun t ht => hs t (by simp [ht])) hb hrep hd (fun ρ' a' W' h' => hK ρ' a' W' ?_)
          obtain ⟨ev, eu⟩ := e
          simp only at hval
          subst hval
          exact h'.decide ho2
        · cases h
      · simp only [Option.some.injEq, Prod.mk.injEq] at h
        obtain ⟨rfl, rfl, _⟩ := h
        have := wantS_ok hrep (hwant _ hw (fun t ht => hs t (by simp [ht])))
        simp only [this, if_true]
        exact opEff_ok hT he hob (fun t ht => hs t (by simp [ht])) hb hrep hd hK

end
end Go.Aw

namespace Go.Aw
open Go.RowKit
set_option linter.unusedVariables false
set_option linter.unusedSimpArgs false

section
variable {P : Program} {T : Nat → Option TI} {w0 : Cx} {N : Nat} {D : List Deferred} {ρ : Env} {a : Act} {W : World} {r : Option Nat} {n : Nat} {ops : Array Oper}

theorem evOps_ok (hT : TOk P T) {all : List Ev} {s0 : FS} : ∀ (l : List Oper) (i : Nat) (s : LS) (orc : List Or) (evs : List Ev) (s' : LS) (obs : List Ob) (orc' : List Or), evOps T ops l i s orc = some (evs, s', obs, orc') → Obs P obs →
    (∀ j, l[j]? = ops[i + j]?) → (∀ j, evs[j]? = all[i + j]?) → s.fs = SD (stepA ops all) (fun _ => true) s0 i →
    evs.length = l.length ∧ s'.fs = SD (stepA ops all) (fun _ => true) s0 (i + l.length) ∧ s'.sl.length = s.sl.length ∧
      ∀ j v, evs[j]? = some v → LocalOK P r n w0 s.sl.length D ops (i + j) (SD (stepA ops all) (fun _ => true) s0 (i + j)) v
  | [], i, s, orc, evs, s', obs, orc', h, _, _, _, hs => by
    simp only [evOps, Option.some.injEq, Prod.mk.injEq] at h
    obtain ⟨rfl, rfl, _, _⟩ := h
    exact ⟨rfl, hs, rfl, fun j v hv => by simp at hv⟩
  | o :: l, i, s, orc, evs, s', obs, orc', h, hob, hl, he, hs => by
    simp only [evOps] at h
    split at h
    · cases h
    · rename_i v obs1 orc1 hv
      split at h
      · cases h
      · rename_i s1 happ
        split at h
        · cases h
        · rename_i vs s2 obs2 orc2 hrest
          simp only [Option.some.injEq, Prod.mk.injEq] at h
          obtain ⟨rfl, rfl, rfl, rfl⟩ := h
          obtain ⟨ho1, ho2⟩ := Obs.append hob
          have hi : ops[i]? = some o := by have := hl 0; simpa using this.symm
          have hall : all[i]? = some v := by have := he 0; simpa using this.symm
          obtain ⟨hfs, hd, hlen⟩ := app_fs happ
          have hs1 : s1.fs = SD (stepA ops all) (fun _ => true) s0 (i + 1) := by
            simp only [SD, if_true, stepA, hall, ← hs]
            rw [hfs]; simp [dstOf, hi]
          obtain ⟨h1, h2, h3, h4⟩ := evOps_ok hT l (i + 1) s1 orc1 vs s2 obs2 orc2 hrest ho2 (fun j => by have := hl (j + 1); simpa [Nat.add_assoc, Nat.add_comm 1 j] using this)
            (fun j => by have := he (j + 1); simpa [Nat.add_assoc, Nat.add_comm 1 j] using this) hs1
          refine ⟨by simp [h1], by rw [h2]; congr 1; simp; omega, h3.trans hlen, fun j w hw => ?_⟩
          cases j with
          | zero =>
            simp at hw; subst hw
            have := evOp_ok (r := r) (n := n) (w0 := w0) (D := D) hT hv ho1 hi hd
            rw [Nat.add_zero, ← hs]; exact this
          | succ j =>
            have := h4 j w (by simpa using hw)
            rw [hlen] at this
            rw [show i + (j + 1) = i + 1 + j by omega]; exact this

/-! ### The check that no operation disturbs another -/
theorem clos_get : ∀ (l : List Oper) (acc : List Nat), (∀ j, j < acc.length → (clos l acc)[j]? = acc[j]?) ∧ (clos l acc).length = acc.length + l.length
  | [], acc => ⟨fun _ _ => rfl, by simp [clos]⟩
  | o :: l, acc => by
    simp only [clos]
    obtain ⟨h1, h2⟩ := clos_get l (acc ++ [(anyEdges o).foldl (fun m e => m ||| (2 ^ e ||| acc.getD e 0)) 0])
    refine ⟨fun j hj => ?_, by rw [h2]; simp; omega⟩
    rw [h1 j (by simp; omega), List.getElem?_append_left hj]

theorem foldl_bits (acc : List Nat) : ∀ (es : List Nat) (m k : Nat), (es.foldl (fun m e => m ||| (2 ^ e ||| acc.getD e 0)) m).testBit k = true → m.testBit k = true ∨ ∃ e ∈ es, k = e ∨ (acc.getD e 0).testBit k = true
  | [], m, k, h => .inl h
  | e :: es, m, k, h => by
    simp only [List.foldl_cons] at h
    rcases foldl_bits acc es _ k h with h | ⟨e', he', h⟩
    · simp only [Nat.testBit_or, Bool.or_eq_true, Nat.testBit_two_pow, decide_eq_true_eq] at h
      rcases h with h | h | h
      · exact .inl h
      · exact .inr ⟨e, by simp, .inl h.symm⟩
      · exact .inr ⟨e, by simp, .inr h⟩
    · exact .inr ⟨e', by simp [he'], h⟩

theorem clos_at : ∀ (l : List Oper) (acc : List Nat) (i : Nat) (o : Oper), l[i]? = some o → ∃ acc' : List Nat, (∀ j, j < acc'.length → (clos l acc)[j]? = acc'[j]?) ∧ acc'.length = acc.length + i ∧
    (clos l acc)[acc.length + i]? = some ((anyEdges o).foldl (fun m e => m ||| (2 ^ e ||| acc'.getD e 0)) 0)
  | [], acc, i, o, h => by simp at h
  | o' :: l, acc, i, o, h => by
    simp only [clos]
    cases i with
    | zero =>
      simp at h; subst h
      have := clos_get l (acc ++ [(anyEdges o').foldl (fun m e => m ||| (2 ^ e ||| acc.getD e 0)) 0])
      refine ⟨acc, fun j hj => ?_, by simp, ?_⟩
      · rw [this.1 j (by simp; omega), List.getElem?_append_left hj]
      · rw [this.1 _ (by simp)]; simp
    | succ i =>
      simp at h
      obtain ⟨acc', h1, h2, h3⟩ := clos_at l (acc ++ [(anyEdges o').foldl (fun m e => m ||| (2 ^ e ||| acc.getD e 0)) 0]) i o h
      refine ⟨acc', h1, by rw [h2]; simp; omega, ?_⟩
      rw [← h3]; congr 1; simp; omega

theorem mem_anyEdges {o : Oper} {e : Nat} : e ∈ anyEdges o ↔ ∃ x ∈ o.after, Region.binds .any x = true ∧ x.on = e := by
  simp [anyEdges, List.mem_map, List.mem_filter, and_assoc]

/-- What must come before. -/
def depB (ops : Array Oper) (i j : Nat) : Prop := j < i ∧ ((clos ops.toList []).getD i 0).testBit j = true

theorem dep_closed {D : Nat → Bool} (hcl : ∀ j o, ops[j]? = some o → D j = true → ∀ e ∈ o.after, Region.binds .any e = true → D e.on = true) (hlow : ∀ i o, ops[i]? = some o → ∀ e ∈ o.after, Region.binds .any e = true → e.on < i) :
    ∀ (i : Nat) (o : Oper), ops[i]? = some o → (∀ e ∈ o.after, Region.binds .any e = true → D e.on = true) → ∀ k, ((clos ops.toList []).getD i 0).testBit k = true → D k = true := by
  intro i
  induction i using Nat.strongRecOn with
  | ind i ih =>
    intro o ho hd k hk
    obtain ⟨acc', h1, h2, h3⟩ := clos_at ops.toList [] i o (by simpa using ho)
    simp only [List.length_nil, Nat.zero_add] at h2 h3
    rw [List.getD_eq_getElem?_getD, h3] at hk
    simp only [Option.getD_some] at hk
    rcases foldl_bits _ _ _ _ hk with h | ⟨e, he, h⟩
    · simp at h
    · obtain ⟨x, hx, hb, rfl⟩ := mem_anyEdges.1 he
      have hlt := hlow i o ho x hx hb
      have hDx := hd x hx hb
      rcases h with rfl | h
      · exact hDx
      · have hsz : x.on < ops.size := by have := (Array.getElem?_eq_some_iff.1 ho).1; omega
        have hox : ops[x.on]? = some ops[x.on] := by simp [hsz]
        refine ih x.on hlt _ hox (hcl _ _ hox hDx) k ?_
        rw [List.getD_eq_getElem?_getD, h1 x.on (by omega), ← List.getD_eq_getElem?_getD]; exact h

theorem disj_spec {l m : List Nat} (h : disj l m = true) : ∀ x ∈ l, x ∉ m := by
  intro x hx
  have := List.all_eq_true.1 h x hx
  simpa using this

def codeR : Nat ⊕ Nat → Nat
  | .inl t => 2 * t
  | .inr k => 2 * k + 1

theorem conf_of_race {evs : List Ev} (hlen : evs.length = ops.size) (h : raceOK ops evs = true) :
    Conf ops.size (stepA ops evs) (fun i x => ∃ v, evs[i]? = some v ∧ codeR x ∈ wrC (dstOf ops i) v) (fun i x => ∃ v, evs[i]? = some v ∧ codeR x ∈ rdC v) (depB ops) ∧
    (∀ i o, ops[i]? = some o → ∀ e ∈ o.after, Region.binds .any e = true → e.on < i) := by
  unfold raceOK at h
  simp only [List.all_eq_true, List.mem_range, Bool.and_eq_true] at h
  have hw : ∀ i v, evs[i]? = some v → (((ops.toList.zip evs).map fun (x : Oper × Ev) => wrC x.1.dst x.2).getD i []) = wrC (dstOf ops i) v := fun i v hv => by
    have hi : i < ops.size := by rw [← hlen]; exact (List.getElem?_eq_some_iff.1 hv).1
    have ho : ops.toList[i]? = some ops[i] := by simp [hi]
    have hz : (ops.toList.zip evs)[i]? = some (ops[i], v) := List.getElem?_zip_eq_some.2 ⟨ho, hv⟩
    simp only [List.getD_eq_getElem?_getD, List.getElem?_map, hz, Option.map_some, Option.getD_some]
    simp [dstOf, hi]
  have hr : ∀ i v, evs[i]? = some v → ((evs.map rdC).getD i []) = rdC v := fun i v hv => by
    simp [List.getD_eq_getElem?_getD, hv]
  have pair : ∀ i j vi vj, j < i → evs[i]? = some vi → evs[j]? = some vj → depB ops i j ∨ ((∀ x, codeR x ∈ wrC (dstOf ops j) vj → codeR x ∉ wrC (dstOf ops i) vi ∧ codeR x ∉ rdC vi) ∧ (∀ x, codeR x ∈ wrC (dstOf ops i) vi → codeR x ∉ rdC vj)) := fun i j vi vj hji hi hj => by
    have hil := (List.getElem?_eq_some_iff.1 hi).1
    have := (h i hil).2 j hji
    simp only [Bool.or_eq_true, Bool.and_eq_true] at this
    rcases this with h' | ⟨⟨h1, h2⟩, h3⟩
    · exact .inl ⟨hji, h'⟩
    · rw [show (fun x : Oper × Ev => match x with | (o, v) => wrC o.dst v) = fun x : Oper × Ev => wrC x.1.dst x.2 from rfl] at h1 h2 h3
      rw [hw i vi hi] at h1 h3
      rw [hw j vj hj] at h1 h2
      rw [hr i vi hi] at h2
      rw [hr j vj hj] at h3
      exact .inr ⟨fun x hx => ⟨disj_spec h1 _ hx, disj_spec h2 _ hx⟩, fun x hx => disj_spec h3 _ hx⟩
  refine ⟨{ out := fun i s x hx => ?_, same := fun i s s' x hx => ?_, low := fun i j hd => hd.1, free := fun i j hi hj hij => ?_ }, fun i o ho e he hb => ?_⟩
  · unfold stepA
    cases hv : evs[i]? with
    | none => rfl
    | some v =>
      have hnot : codeR x ∉ wrC (dstOf ops i) v := fun h => hx ⟨v, hv, h⟩
      simp only [wrC, List.mem_append, not_or] at hnot
      cases x with
      | inl t =>
        simp only [FS.at', FS.app]
        cases hd : dstOf ops i with
        | none => rfl
        | some d =>
          have : t ≠ d := fun e => hnot.1 (by rw [hd]; simp [codeR, e])
          simp [this]
      | inr k =>
        simp only [FS.at', FS.app]
        rw [upds_other]
        intro u hu e
        exact hnot.2 (List.mem_map.2 ⟨u, hu, by simp [codeR, e]⟩)
  · obtain ⟨v, hv, hx⟩ := hx
    simp only [stepA, hv]
    simp only [wrC, List.mem_append] at hx
    cases x with
    | inl t =>
      simp only [FS.at', FS.app]
      rcases hx with hx | hx
      · cases hd : dstOf ops i with
        | none => rw [hd] at hx; simp at hx
        | some d =>
          rw [hd] at hx
          simp [codeR] at hx
          have : t = d := by omega
          simp [this]
      · simp [codeR] at hx; omega
    | inr k =>
      simp only [FS.at', FS.app]
      rcases hx with hx | hx
      · cases hd : dstOf ops i with
        | none => rw [hd] at hx; simp at hx
        | some d => rw [hd] at hx; simp [codeR] at hx; omega
      · congr 1
        have hmem : ∃ u ∈ v.eff.ups, u.1 = k := by
          obtain ⟨u, hu, e⟩ := List.mem_map.1 hx
          exact ⟨u, hu, by simp [codeR] at e; omega⟩
        clear hx hv
        generalize v.eff.ups = us at hmem
        generalize s.bk = f
        generalize s'.bk = g
        induction us generalizing f g with
        | nil => obtain ⟨u, hu, _⟩ := hmem; cases hu
        | cons u us ih =>
          obtain ⟨j, y⟩ := u
          simp only [upds]
          by_cases hin : ∃ u ∈ us, u.1 = k
          · exact ih hin _ _
          · rw [upds_other us _ k (fun u hu e => hin ⟨u, hu, e⟩), upds_other us _ k (fun u hu e => hin ⟨u, hu, e⟩)]
            obtain ⟨u, hu, e⟩ := hmem
            rcases List.mem_cons.1 hu with rfl | hu
            · simp only at e; simp [e]
            · exact (hin ⟨u, hu, e⟩).elim
  · have hvi : evs[i]? = some evs[i] := by simp
    have hvj : evs[j]? = some evs[j] := by simp
    rcases Nat.lt_or_ge j i with hlt | hge
    · rcases pair i j _ _ hlt hvi hvj with h' | ⟨h1, h2⟩
      · exact .inl h'
      · refine .inr (.inr ⟨fun x hx => ?_, fun x hx => ?_⟩)
        · obtain ⟨v, hv, hx⟩ := hx
          rw [hvi] at hv; cases hv
          refine ⟨fun ⟨v, hv, hx'⟩ => ?_, fun ⟨v, hv, hx'⟩ => ?_⟩
          · rw [hvj] at hv; cases hv; exact (h1 x hx').1 hx
          · rw [hvj] at hv; cases hv; exact h2 x hx hx'
        · obtain ⟨v, hv, hx⟩ := hx
          rw [hvj] at hv; cases hv
          exact fun ⟨v, hv, hx'⟩ => by rw [hvi] at hv; cases hv; exact (h1 x hx).2 hx'
    · have hlt : i < j := by omega
      rcases pair j i _ _ hlt hvj hvi with h' | ⟨h1, h2⟩
      · exact .inr (.inl h')
      · refine .inr (.inr ⟨fun x hx => ?_, fun x hx => ?_⟩)
        · obtain ⟨v, hv, hx⟩ := hx
          rw [hvi] at hv; cases hv
          exact ⟨fun ⟨v, hv, hx'⟩ => by rw [hvj] at hv; cases hv; exact (h1 x hx).1 hx', fun ⟨v, hv, hx'⟩ => by rw [hvj] at hv; cases hv; exact (h1 x hx).2 hx'⟩
        · obtain ⟨v, hv, hx⟩ := hx
          rw [hvj] at hv; cases hv
          exact fun ⟨v, hv, hx'⟩ => by rw [hvi] at hv; cases hv; exact h2 x hx hx'
  · have hi : i < evs.length := by rw [hlen]; exact (Array.getElem?_eq_some_iff.1 ho).1
    have := (h i hi).1
    have ho' : ops.toList[i]? = some o := by simpa using ho
    rw [ho'] at this
    simp only [Option.map_some, Option.getD_some, List.all_eq_true, decide_eq_true_eq] at this
    exact this e.on (mem_anyEdges.2 ⟨e, he, hb, rfl⟩)

/-- **A region.** -/
theorem region_sound (hT : TOk P T) (hm : P.follows .mixedOrders = true) {s s' : LS} {orc orc' : List Or} {evs : List Ev} {obs : List Ob} {draw : Bool} {id : Nat}
    (h : evOps T ops ops.toList 0 s orc = some (evs, s', obs, orc')) (hob : Obs P obs) (hrace : draw = true → raceOK ops evs = true) (hrep : Rep w0 s.sl.length D ρ s.fs a W) {Q : Exit → Act → World → Prop}
    (hQ : ∀ ρ' a' W', Rep w0 s'.sl.length D ρ' s'.fs a' W' → Q .normal a' W') : (Code.region id ops draw).wpIn (Fw r) n P Q a W := by
  obtain ⟨h1, h2, h3, h4⟩ := evOps_ok (ops := ops) (r := r) (n := n) (w0 := w0) (D := D) (all := evs) (s0 := s.fs) hT ops.toList 0 s orc evs s' obs orc' h hob (fun j => by simp) (fun j => by simp) rfl
  have hlen : evs.length = ops.size := by rw [h1]; simp
  have hfin : s'.fs = SD (stepA ops evs) (fun _ => true) s.fs ops.size := by rw [h2]; simp
  have hloc : ∀ i v, evs[i]? = some v → LocalOK P r n w0 s.sl.length D ops i (SD (stepA ops evs) (fun _ => true) s.fs i) v := fun i v hv => by
    have := h4 i v hv; simpa using this
  have hQ' : ∀ ρ' a' W', Rep w0 s.sl.length D ρ' (SD (stepA ops evs) (fun _ => true) s.fs ops.size) a' W' → Q .normal a' W' := fun ρ' a' W' h' => hQ ρ' a' W' (by rw [h3, hfin]; exact h')
  cases draw with
  | false => exact region_text hlen hloc hrep hQ'
  | true =>
    obtain ⟨c, hlow⟩ := conf_of_race hlen (hrace rfl)
    refine region_any hlen hm c (fun i v t hv ht => ⟨v, hv, ?_⟩) (fun i v k hv hk => ⟨v, hv, ?_⟩) hlow (fun D i o ho hcl hd k hk => ?_) hloc hrep hQ'
    · simp only [rdC, codeR]; exact List.mem_append_left _ (List.mem_map.2 ⟨t, ht, rfl⟩)
    · simp only [rdC, codeR]; exact List.mem_append_right _ (List.mem_map.2 ⟨k, hk, rfl⟩)
    · exact dep_closed hcl hlow i o ho hd k hk.2

end
end Go.Aw

namespace Go.Aw
open Go.RowKit
set_option linter.unusedVariables false
set_option linter.unusedSimpArgs false

/-- What is to be done: code; the end of a block; a loop that may go on for at most m rounds. -/
inductive K where
  | c (x : Code)
  | b (id : Nat)
  | l (body : Code) (m : Nat)
  | s (body : Code) (m : Nat)     -- the end of a scope; at most m jumps to a label of it

/-- How a scope's body may be left, where it jumps at most m times to a label of its own. -/
def ScopeR (F : Fence) (n : Nat) (P : Program) (c : Code) (Q : Exit → Act → World → Prop) : Nat → Exit → Act → World → Prop
  | 0, e, a, w => match e with
    | .goto _ => False
    | e => Q e a w
  | m + 1, e, a, w => match e with
    | .goto l => ∃ rest, findLabel c l = some rest ∧ rest.wpIn F n P (ScopeR F n P c Q m) a w
    | e => Q e a w

theorem ScopeR_other {F : Fence} {n : Nat} {P : Program} {c : Code} {Q : Exit → Act → World → Prop} {m : Nat} {e : Exit} {a : Act} {w : World} (h : ∀ l, e ≠ .goto l) : ScopeR F n P c Q m e a w = Q e a w := by
  cases m <;> cases e <;> first | rfl | exact absurd rfl (h _)

theorem stepR_scope {P : Program} {b : Frame} {a : Act} {k : List Item} {cs : List Frame} {w : World} {c : Code} : step P (lone (b.atR a (.code (.scope c) :: k)) cs w) = .next (lone (b.atR a (.code c :: .inScope c :: k)) cs w) :=
  step_lone_go (by simp [stepG, stepG.exec, Frame.atR])
theorem stepR_inScope {P : Program} {b : Frame} {a : Act} {k : List Item} {cs : List Frame} {w : World} {c : Code} : step P (lone (b.atR a (.inScope c :: k)) cs w) = .next (lone (b.atR a k) cs w) :=
  step_lone_go (by simp [stepG, stepG.exec, Frame.atR])

theorem wpIn_scope {F : Fence} {n : Nat} {P : Program} {c : Code} {Q : Exit → Act → World → Prop} {a : Act} {w : World} (m : Nat) (h : c.wpIn F n P (ScopeR F n P c Q m) a w) : (Code.scope c).wpIn F n P Q a w := by
  intro b k cs hro hb hr
  have key : ∀ m (c' : Code) a w, c'.wpIn F n P (ScopeR F n P c Q m) a w → ∃ e a' w', Q e a' w' ∧ ArrivesIn (Machine.fenced P F) P (lone (b.atR a (.code c' :: .inScope c :: k)) cs w) b k cs e a' w' := by
    intro m
    induction m with
    | zero =>
      intro c' a w h
      obtain ⟨e, a₁, w₁, hq, harr⟩ := h b (.inScope c :: k) cs hro hb hr
      cases e with
      | normal => exact ⟨.normal, a₁, w₁, hq, StepsIn.trans harr (.one (fenced_calm hb hr rfl) stepR_inScope)⟩
      | exit id => exact ⟨.exit id, a₁, w₁, hq, fun k' hk => harr.1 k' (by simp [exitTo, hk]), fun hr' hk => harr.2 hr' (by simp [exitTo, hk])⟩
      | goto l => exact hq.elim
      | ret => exact ⟨_, a₁, w₁, hq, harr⟩
      | panic ch => exact ⟨_, a₁, w₁, hq, harr⟩
      | outgrown => exact ⟨_, a₁, w₁, hq, harr⟩
    | succ m ih =>
      intro c' a w h
      obtain ⟨e, a₁, w₁, hq, harr⟩ := h b (.inScope c :: k) cs hro hb hr
      cases e with
      | normal => exact ⟨.normal, a₁, w₁, hq, StepsIn.trans harr (.one (fenced_calm hb hr rfl) stepR_inScope)⟩
      | exit id => exact ⟨.exit id, a₁, w₁, hq, fun k' hk => harr.1 k' (by simp [exitTo, hk]), fun hr' hk => harr.2 hr' (by simp [exitTo, hk])⟩
      | goto l =>
        obtain ⟨rest, hf, hq⟩ := hq
        have hg : gotoIn l (.inScope c :: k) = some (.code rest :: .inScope c :: k) := by simp [gotoIn, hf]
        obtain ⟨e₂, a₂, w₂, hq₂, harr₂⟩ := ih rest a₁ w₁ hq
        exact ⟨e₂, a₂, w₂, hq₂, .of_steps (harr.1 _ hg) harr₂⟩
      | ret => exact ⟨_, a₁, w₁, hq, harr⟩
      | panic ch => exact ⟨_, a₁, w₁, hq, harr⟩
      | outgrown => exact ⟨_, a₁, w₁, hq, harr⟩
  obtain ⟨e, a', w', hq, harr⟩ := key m c a w h
  exact ⟨e, a', w', hq, .of_steps (.one (fenced_calm hb hr rfl) stepR_scope) harr⟩

def cont (r : Option Nat) (n : Nat) (P : Program) (Q : Exit → Act → World → Prop) : List K → Exit → Act → World → Prop
  | [], e => Q e
  | .c x :: k, e => match e with
    | .normal => x.wpIn (Fw r) n P (cont r n P Q k)
    | e => cont r n P Q k e
  | .b id :: k, e => match e with
    | .exit id' => if id == id' then cont r n P Q k .normal else cont r n P Q k (.exit id')
    | e => cont r n P Q k e
  | .l body m :: k, e => match e with
    | .normal => Code.roundsIn (Fw r) n P body (cont r n P Q k) m
    | e => cont r n P Q k e
  | .s body m :: k, e => ScopeR (Fw r) n P body (cont r n P Q k) m e

def unwindK (id : Nat) : List K → Option (List K)
  | [] => none
  | .b id' :: k => if id' == id then some k else unwindK id k
  | .c _ :: k => unwindK id k
  | .l _ _ :: k => unwindK id k
  | .s _ _ :: k => unwindK id k

inductive Out where
  | ret (s : LS)
  | norm (s : LS)
  | enter (body : Code) (k : List K) (s : LS)
  | back (body : Code) (m : Nat) (k : List K) (s : LS)
  | at (x : Code) (k : List K) (s : LS)

/-- The oracle says that the run is to stop at this region. -/
def stops (id : Nat) : List Or → Option (List Or)
  | .stop j :: orc => if j = id then some orc else none
  | _ => none

def run (T : Nat → Option TI) : Nat → List K → LS → List Or → Option (Out × List Ob × List Or)
  | 0, _, _, _ => none
  | f + 1, k, s, orc =>
    match k with
    | [] => some (.norm s, [], orc)
    | .b _ :: k => run T f k s orc
    | .s _ _ :: k => run T f k s orc
    | .l body m :: k => match orc with
      | .un _ :: orc' => match m with
        | m + 1 => run T f (.c body :: .l body m :: k) s orc'
        | 0 => none
      | _ => some (.back body m k s, [], orc)
    | .c x :: k =>
      match x with
      | .skip => run T f k s orc
      | .label _ => run T f k s orc
      | .seq a b => run T f (.c a :: .c b :: k) s orc
      | .block id c => run T f (.c c :: .b id :: k) s orc
      | .exit id => match unwindK id k with
        | some k' => run T f k' s orc
        | none => none
      | .ret => some (.ret s, [], orc)
      | .loop body => match orc with
        | .un m :: orc' => run T f (.c body :: .l body m :: k) s orc'
        | _ => some (.enter body k s, [], orc)
      | .cond c a b => match ev s.fs.sl c with
        | .b d => run T f (.c (match d with | true => a | false => b) :: k) s orc
        | .v (.bool x) => match orc with
          | .d d :: orc => match run T f (.c (match d with | true => a | false => b) :: k) s orc with
            | some (o, obs, orc) => some (o, .eq x d :: obs, orc)
            | none => none
          | _ => none
        | _ => none
      | .region id ops draw => match stops id orc with
        | some orc' => some (.at (.region id ops draw) k s, [], orc')
        | none => match evOps T ops ops.toList 0 s orc with
          | some (evs, s', obs, orc) => if (!draw || raceOK ops evs) = true then
              match run T f k s' orc with
              | some (o, obs', orc) => some (o, obs ++ obs', orc)
              | none => none
            else none
          | none => none
      | .scope x => match orc with
        | .un m :: orc' => run T f (.c x :: .s x m :: k) s orc'
        | _ => none
      | .goto l => some (.at (.goto l) k s, [], orc)
      | .rangeFunc g ps x y => some (.at (.rangeFunc g ps x y) k s, [], orc)
      | _ => none

section
variable {P : Program} {T : Nat → Option TI} {cx : Cx} {D : List Deferred} {r : Option Nat} {n : Nat} {Q : Exit → Act → World → Prop}

/-- From whatever state that s stands for, what is to be done comes to its end as Q asks. -/
def Good (P : Program) (r : Option Nat) (n : Nat) (Q : Exit → Act → World → Prop) (cx : Cx) (D : List Deferred) (k : List K) (s : LS) : Prop :=
  ∀ (ρ : Env) (a : Act) (W : World), Rep cx s.sl.length D ρ s.fs a W → cont r n P Q k .normal a W

def GoodAt (Q : Exit → Act → World → Prop) (e : Exit) (cx : Cx) (D : List Deferred) (s : LS) : Prop := ∀ (ρ : Env) (a : Act) (W : World), Rep cx s.sl.length D ρ s.fs a W → Q e a W

def OutGood (P : Program) (r : Option Nat) (n : Nat) (Q : Exit → Act → World → Prop) (cx : Cx) (D : List Deferred) : Out → Prop
  | .ret s => GoodAt Q .ret cx D s
  | .norm s => GoodAt Q .normal cx D s
  | .enter body k s => ∃ m, Good P r n Q cx D (.l body m :: k) s
  | .back body m k s => Good P r n Q cx D (.l body m :: k) s
  | .at x k s => Good P r n Q cx D (.c x :: k) s

theorem cont_other {k : List K} {e : Exit} (h : e ≠ .normal) (hx : ∀ id, e ≠ .exit id) (hg : ∀ l, e ≠ .goto l) : cont r n P Q k e = Q e := by
  induction k with
  | nil => rfl
  | cons x k ih =>
    cases x with
    | s body m => funext a w; simp only [cont]; rw [ScopeR_other hg, ih]
    | _ => cases e <;> simp_all [cont]

theorem cont_exit {id : Nat} {a : Act} {W : World} : ∀ {k k' : List K}, unwindK id k = some k' → cont r n P Q k' .normal a W → cont r n P Q k (.exit id) a W
  | [], k', h, _ => by simp [unwindK] at h
  | .b id' :: k, k', h, hg => by
    simp only [unwindK] at h
    simp only [cont]
    split at h
    · rename_i hid
      simp only [Option.some.injEq] at h; subst h
      rw [if_pos hid]; exact hg
    · rename_i hid
      rw [if_neg hid]; exact cont_exit h hg
  | .c _ :: k, k', h, hg => by simp only [unwindK] at h; simp only [cont]; exact cont_exit h hg
  | .l _ _ :: k, k', h, hg => by simp only [unwindK] at h; simp only [cont]; exact cont_exit h hg
  | .s _ _ :: k, k', h, hg => by simp only [unwindK] at h; simp only [cont]; rw [ScopeR_other (by simp)]; exact cont_exit h hg

/-- One round more. -/
theorem good_round {body : Code} {m : Nat} {k : List K} {s : LS} (h : Good P r n Q cx D (.c body :: .l body m :: k) s) : Good P r n Q cx D (.l body (m + 1) :: k) s := by
  intro ρ a W hrep
  have := h ρ a W hrep
  simp only [cont] at this ⊢
  rw [roundsIn_succ]
  refine wpIn_mono this (fun e a w hq => ?_)
  cases e <;> simpa [cont, Exit.then] using hq

/-- A jump to a label of the scope. -/
theorem good_jump {c rest : Code} {l m : Nat} {k : List K} {s : LS} (hf : findLabel c l = some rest) (h : Good P r n Q cx D (.c rest :: .s c m :: k) s) : Good P r n Q cx D (.c (.goto l) :: .s c (m + 1) :: k) s := by
  intro ρ a W hrep
  have := h ρ a W hrep
  simp only [cont] at this ⊢
  exact wpIn_goto ⟨rest, hf, this⟩

theorem run_ok (hT : TOk P T) (hm : P.follows .mixedOrders = true) : ∀ (f : Nat) (k : List K) (s : LS) (orc : List Or) (out : Out) (obs : List Ob) (orc' : List Or), run T f k s orc = some (out, obs, orc') → Obs P obs →
    OutGood P r n Q cx D out → Good P r n Q cx D k s
  | 0, _, _, _, _, _, _, h, _, _ => by simp [run] at h
  | f + 1, [], s, orc, out, obs, orc', h, _, hg => by
    simp only [run, Option.some.injEq, Prod.mk.injEq] at h
    obtain ⟨rfl, _, _⟩ := h
    exact hg
  | f + 1, .b id :: k, s, orc, out, obs, orc', h, ho, hg => by
    simp only [run] at h
    have := run_ok hT hm f k s orc out obs orc' h ho hg
    exact fun ρ a W hrep => this ρ a W hrep
  | f + 1, .s body m :: k, s, orc, out, obs, orc', h, ho, hg => by
    simp only [run] at h
    have := run_ok hT hm f k s orc out obs orc' h ho hg
    exact fun ρ a W hrep => by
      simp only [cont]; rw [ScopeR_other (by simp)]; exact this ρ a W hrep
  | f + 1, .l body m :: k, s, orc, out, obs, orc', h, ho, hg => by
    simp only [run] at h
    split at h
    · split at h
      · rename_i m
        exact good_round (run_ok hT hm f _ s _ out obs orc' h ho hg)
      · cases h
    · simp only [Option.some.injEq, Prod.mk.injEq] at h
      obtain ⟨rfl, _, _⟩ := h
      exact hg
  | f + 1, .c x :: k, s, orc, out, obs, orc', h, ho, hg => by
    simp only [run] at h
    split at h
    · -- skip
      have := run_ok hT hm f k s orc out obs orc' h ho hg
      exact fun ρ a W hrep => wpIn_skip (this ρ a W hrep)
    · -- label
      have := run_ok hT hm f k s orc out obs orc' h ho hg
      exact fun ρ a W hrep => wpIn_label (this ρ a W hrep)
    · -- seq
      rename_i x y
      have := run_ok hT hm f (.c x :: .c y :: k) s orc out obs orc' h ho hg
      intro ρ a W hrep
      have := this ρ a W hrep
      simp only [cont] at this ⊢
      refine wpIn_seq (wpIn_mono this fun e a w hq => ?_)
      cases e <;> simpa [cont, Exit.then] using hq
    · -- block
      rename_i id c
      have := run_ok hT hm f (.c c :: .b id :: k) s orc out obs orc' h ho hg
      intro ρ a W hrep
      have := this ρ a W hrep
      simp only [cont] at this ⊢
      refine wpIn_block (wpIn_mono this fun e a w hq => ?_)
      cases e <;> simp only [cont, Exit.inBlock] at hq ⊢ <;> try exact hq
      rename_i id'
      by_cases hid : id = id'
      · subst hid; simpa using hq
      · have h1 : (id == id') = false := by simpa using hid
        have h2 : (id' == id) = false := by simpa using fun e => hid e.symm
        simp only [h1, h2, Bool.false_eq_true, if_false] at hq ⊢
        first | exact hq | (rw [if_neg (fun e => hid e.symm)]; exact hq) | (rw [if_neg hid]; exact hq)
    · -- exit
      rename_i id
      split at h
      · rename_i k' hk'
        have := run_ok hT hm f k' s orc out obs orc' h ho hg
        exact fun ρ a W hrep => wpIn_exit (cont_exit hk' (this ρ a W hrep))
      · cases h
    · -- ret
      simp only [Option.some.injEq, Prod.mk.injEq] at h
      obtain ⟨rfl, _, _⟩ := h
      intro ρ a W hrep
      simp only [cont]
      refine wpIn_ret ?_
      rw [cont_other (by simp) (by simp) (by simp)]
      exact hg ρ a W hrep
    · -- loop
      rename_i body
      split at h
      · rename_i m orc2
        have := good_round (run_ok hT hm f _ s orc2 out obs orc' h ho hg)
        exact fun ρ a W hrep => wpIn_loop_rounds (m + 1) (this ρ a W hrep)
      · simp only [Option.some.injEq, Prod.mk.injEq] at h
        obtain ⟨rfl, _, _⟩ := h
        obtain ⟨m, hg⟩ := hg
        exact fun ρ a W hrep => wpIn_loop_rounds m (hg ρ a W hrep)
    · -- cond
      rename_i c x y
      split at h
      · rename_i d hc
        have := run_ok hT hm f _ s orc out obs orc' h ho hg
        intro ρ a W hrep
        have hr := ev_rel hrep c
        rw [hc] at hr
        simp only [Rel] at hr
        have := this ρ a W hrep
        simp only [cont] at this ⊢
        refine wpIn_cond hr ?_
        cases d <;> exact this
      · rename_i b hc
        split at h
        · rename_i d orc2
          split at h
          · rename_i o' obs' orc3 hrun
            simp only [Option.some.injEq, Prod.mk.injEq] at h
            obtain ⟨rfl, rfl, rfl⟩ := h
            obtain ⟨h1, h2⟩ := ho
            simp only [Ob.Holds] at h1
            have := run_ok hT hm f _ s orc2 o' obs' orc3 hrun h2 hg
            intro ρ a W hrep
            have hr := ev_rel hrep c
            rw [hc] at hr
            simp only [Rel] at hr
            have := this ρ a W hrep
            simp only [cont] at this ⊢
            refine wpIn_cond hr ?_
            rw [h1]
            cases d <;> exact this
          · cases h
        · cases h
      · cases h
    · -- region
      rename_i id ops draw
      split at h
      · simp only [Option.some.injEq, Prod.mk.injEq] at h
        obtain ⟨rfl, _, _⟩ := h
        exact hg
      · split at h
        · rename_i evs s' obs1 orc1 hev
          split at h
          · rename_i hrace
            split at h
            · rename_i o' obs2 orc2 hrun
              simp only [Option.some.injEq, Prod.mk.injEq] at h
              obtain ⟨rfl, rfl, rfl⟩ := h
              obtain ⟨h1, h2⟩ := Obs.append ho
              have := run_ok hT hm f k s' orc1 o' obs2 orc2 hrun h2 hg
              intro ρ a W hrep
              simp only [cont]
              exact region_sound hT hm hev h1 (fun hd => by subst hd; simpa using hrace) hrep (fun ρ' a' W' h' => this ρ' a' W' h')
            · cases h
          · cases h
        · cases h
    · -- scope
      rename_i x
      split at h
      · rename_i m orc2
        have := run_ok hT hm f (.c x :: .s x m :: k) s orc2 out obs orc' h ho hg
        intro ρ a W hrep
        have := this ρ a W hrep
        simp only [cont] at this ⊢
        exact wpIn_scope m this
      · cases h
    · -- goto
      simp only [Option.some.injEq, Prod.mk.injEq] at h
      obtain ⟨rfl, _, _⟩ := h
      exact hg
    · -- a range over a function
      simp only [Option.some.injEq, Prod.mk.injEq] at h
      obtain ⟨rfl, _, _⟩ := h
      exact hg
    · cases h

end
end Go.Aw
