/-
  A symbolic executor for the model's code, part A: symbolic values, how they stand for the model's values, the relation between a symbolic state and a world. Generic in the program. No premise.
-/
import Derived.Below
import Derived.OrdersIn
import Derived.LoopNIn
import Derived.KernelRfl
import Derived.Laws.Sem
namespace Go.Aw
open Go.RowKit
set_option linter.unusedVariables false
set_option linter.unusedSimpArgs false

/-- Where a symbolic block lies: block, base, number of cells; none: nil. -/
abbrev Env := Nat → Option (Nat × Nat × Nat)

inductive SV where
  | u
  | b (x : Bool)
  | v (x : Value)
  | p (k off : Nat)
  | s (k off len es : Nat)
  | f (g : Nat) (caps : List SV)
  | a (l : List SV)
  | t (l : List SV)

def iv (n : Int) : SV := .v (.int .i64 n)

mutual
def Rel (ρ : Env) : SV → Value → Prop
  | .u, _ => True
  | .b x, y => y = .bool x
  | .v x, y => y = x
  | .p k off, y => ∃ b o n, ρ k = some (b, o, n) ∧ y = .pointer (some ⟨b, o + off, none⟩)
  | .s k off len es, y => (ρ k = none ∧ len = 0 ∧ y = .slice none 0 0) ∨
      (∃ b o n cap off', ρ k = some (b, o, n) ∧ y = .slice (some ⟨b, o + off', none⟩) len cap ∧ len ≤ cap ∧ off' + cap * es ≤ n ∧ (cap ≠ 0 → off' = off))
  | .f g caps, y => ∃ vs : List Value, y = .func (.func g) #[] vs.toArray ∧ Rels ρ caps vs
  | .a l, y => ∃ vs : List Value, y = .agg vs.toArray ∧ Rels ρ l vs
  | .t l, y => ∃ vs : List Value, y = .tuple vs.toArray ∧ Rels ρ l vs
def Rels (ρ : Env) : List SV → List Value → Prop
  | [], [] => True
  | x :: l, y :: m => Rel ρ x y ∧ Rels ρ l m
  | _, _ => False
end

mutual
/-- The symbolic value names block k. -/
def SV.has (k : Nat) : SV → Prop
  | .p j _ => j = k
  | .s j _ _ _ => j = k
  | .f _ caps => SV.hasl k caps
  | .a l => SV.hasl k l
  | .t l => SV.hasl k l
  | _ => False
def SV.hasl (k : Nat) : List SV → Prop
  | [] => False
  | x :: l => SV.has k x ∨ SV.hasl k l
end

theorem hasl_iff {k : Nat} {l : List SV} : SV.hasl k l ↔ ∃ x ∈ l, SV.has k x := by
  induction l with
  | nil => simp [SV.hasl]
  | cons x l ih => simp [SV.hasl, ih]

mutual
theorem Rel.congr {ρ ρ' : Env} : ∀ (x : SV) (y : Value), (∀ k, x.has k → ρ' k = ρ k) → Rel ρ x y → Rel ρ' x y
  | .u, _, _, _ => by simp [Rel]
  | .b x, y, _, h => by simpa [Rel] using h
  | .v x, y, _, h => by simpa [Rel] using h
  | .p k off, y, he, h => by
    simp only [Rel] at h ⊢
    rw [he k (by simp [SV.has])]; exact h
  | .s k off len es, y, he, h => by
    simp only [Rel] at h ⊢
    rw [he k (by simp [SV.has])]; exact h
  | .f g caps, y, he, h => by
    simp only [Rel] at h ⊢
    obtain ⟨vs, hy, h⟩ := h
    exact ⟨vs, hy, Rels.congr caps vs (fun k hk => he k (by simpa [SV.has] using hk)) h⟩
  | .a l, y, he, h => by
    simp only [Rel] at h ⊢
    obtain ⟨vs, hy, h⟩ := h
    exact ⟨vs, hy, Rels.congr l vs (fun k hk => he k (by simpa [SV.has] using hk)) h⟩
  | .t l, y, he, h => by
    simp only [Rel] at h ⊢
    obtain ⟨vs, hy, h⟩ := h
    exact ⟨vs, hy, Rels.congr l vs (fun k hk => he k (by simpa [SV.has] using hk)) h⟩
theorem Rels.congr {ρ ρ' : Env} : ∀ (l : List SV) (m : List Value), (∀ k, SV.hasl k l → ρ' k = ρ k) → Rels ρ l m → Rels ρ' l m
  | [], [], _, _ => by simp [Rels]
  | [], _ :: _, _, h => by simp [Rels] at h
  | _ :: _, [], _, h => by simp [Rels] at h
  | x :: l, y :: m, he, h => by
    simp only [Rels] at h ⊢
    exact ⟨Rel.congr x y (fun k hk => he k (by simp [SV.hasl, hk])) h.1, Rels.congr l m (fun k hk => he k (by simp [SV.hasl, hk])) h.2⟩
end

theorem Rels.length {ρ : Env} : ∀ {l : List SV} {m : List Value}, Rels ρ l m → l.length = m.length
  | [], [], _ => rfl
  | [], _ :: _, h => by simp [Rels] at h
  | _ :: _, [], h => by simp [Rels] at h
  | _ :: l, _ :: m, h => by simp only [Rels] at h; simp [Rels.length h.2]

theorem Rels.get {ρ : Env} : ∀ {l : List SV} {m : List Value} (i : Nat) {x : SV}, Rels ρ l m → l[i]? = some x → ∃ y, m[i]? = some y ∧ Rel ρ x y
  | [], _, i, _, _, hx => by simp at hx
  | _ :: _, [], _, _, h, _ => by simp [Rels] at h
  | x :: l, y :: m, 0, _, h, hx => by
    simp only [Rels] at h; simp at hx; subst hx; exact ⟨y, by simp, h.1⟩
  | x :: l, y :: m, i + 1, _, h, hx => by
    simp only [Rels] at h; simp at hx
    obtain ⟨y', hy, hr⟩ := Rels.get i h.2 hx
    exact ⟨y', by simpa using hy, hr⟩

theorem Rels.append {ρ : Env} : ∀ {l l' : List SV} {m m' : List Value}, Rels ρ l m → Rels ρ l' m' → Rels ρ (l ++ l') (m ++ m')
  | [], _, [], _, _, h => h
  | [], _, _ :: _, _, h, _ => by simp [Rels] at h
  | _ :: _, _, [], _, h, _ => by simp [Rels] at h
  | _ :: l, _, _ :: m, _, h, h' => by
    simp only [Rels] at h
    simp only [List.cons_append, Rels]; exact ⟨h.1, Rels.append h.2 h'⟩

theorem Rels.take {ρ : Env} : ∀ {l : List SV} {m : List Value} (n : Nat), Rels ρ l m → Rels ρ (l.take n) (m.take n)
  | [], [], n, _ => by simp [Rels]
  | [], _ :: _, _, h => by simp [Rels] at h
  | _ :: _, [], _, h => by simp [Rels] at h
  | _ :: _, _ :: _, 0, _ => by simp [Rels]
  | _ :: l, _ :: m, n + 1, h => by
    simp only [Rels] at h
    simp only [List.take_succ_cons, Rels]; exact ⟨h.1, Rels.take n h.2⟩

theorem Rels.drop {ρ : Env} : ∀ {l : List SV} {m : List Value} (n : Nat), Rels ρ l m → Rels ρ (l.drop n) (m.drop n)
  | [], [], n, _ => by simp [Rels]
  | [], _ :: _, _, h => by simp [Rels] at h
  | _ :: _, [], _, h => by simp [Rels] at h
  | _ :: _, _ :: _, 0, h => h
  | _ :: l, _ :: m, n + 1, h => by
    simp only [Rels] at h
    simp only [List.drop_succ_cons]; exact Rels.drop n h.2

theorem Rels.vals {ρ : Env} : ∀ (l : List Value), Rels ρ (l.map .v) l
  | [] => by simp [Rels]
  | x :: l => by simp only [List.map_cons, Rels, Rel]; exact ⟨trivial, Rels.vals l⟩

/-! ### Blocks -/
inductive BK where
  | un
  | dead
  | live (own sym : Bool) (cells : List SV)

def BK.has (k : Nat) : BK → Prop
  | .live _ _ cells => SV.hasl k cells
  | _ => False

def BK.own : BK → Prop
  | .live true _ _ => True
  | _ => False

/-- Cells that name no block. -/
def Plain (l : List SV) : Prop := ∀ k, ¬ SV.hasl k l

/-- Where a block's cells are not written out, they name no block. -/
def BK.pl : BK → Prop
  | .live _ true cells => Plain cells
  | _ => True

theorem Plain.congr {ρ ρ' : Env} {l : List SV} {m : List Value} (h : Plain l) (hr : Rels ρ l m) : Rels ρ' l m := Rels.congr l m (fun k hk => (h k hk).elim) hr

def BRep (ρ : Env) (M : Nat → Prop) (W : World) (k : Nat) : BK → Prop
  | .un | .dead => True
  | .live true _ cells => (ρ k = none ∧ cells = []) ∨
      ∃ (b : Nat) (vs rest : List Value) (ty : TypeId), ρ k = some (b, 0, (vs ++ rest).length) ∧ M b ∧ Rels ρ cells vs ∧
        W.heap[b]? = some (.cells (vs ++ rest).toArray ty (0, 0))
  | .live false _ cells => (ρ k = none ∧ cells = []) ∨
      ∃ (b o n : Nat) (vs : List Value), ρ k = some (b, o, n) ∧ (vs.length ≤ n ∧ (vs ≠ [] → ¬ M b)) ∧ Rels ρ cells vs ∧
        ∀ (i : Nat) (x : Value), vs[i]? = some x → W.cell? ⟨b, o + i, none⟩ = some x

structure FS where
  sl : Nat → SV
  bk : Nat → BK

/-- The world at the call; how many blocks were handed over, and where they lie; which blocks that lay before may be written. -/
structure Cx where
  w : World
  base : Nat
  ρ : Env
  own : Nat → Prop := fun _ => False

/-- The blocks that may be written: new ones, and those that were handed over for it. -/
def Cx.mine (cx : Cx) (b : Nat) : Prop := cx.w.heap.size ≤ b ∨ cx.own b

/-- All else lies as it lay. -/
structure Kept (w : World) (own : Nat → Prop) (W : World) : Prop where
  os : W.os = w.os
  tape : W.tape = w.tape
  output : W.output = w.output
  size : w.heap.size ≤ W.heap.size
  block : ∀ k, k < w.heap.size → ¬ own k → W.heap[k]? = w.heap[k]?

theorem Kept.refl (w : World) (own : Nat → Prop) : Kept w own w := ⟨rfl, rfl, rfl, Nat.le_refl _, fun _ _ _ => rfl⟩
theorem Kept.grow {w W W' : World} {own : Nat → Prop} (h : Kept w own W) (hb : Below W.heap.size W W') : Kept w own W' :=
  ⟨hb.os.trans h.os, hb.tape.trans h.tape, hb.output.trans h.output, Nat.le_trans h.size hb.size, fun k hk ho => (hb.block k (Nat.lt_of_lt_of_le hk h.size)).trans (h.block k hk ho)⟩
theorem Kept.below {w W : World} (h : Kept w (fun _ => False) W) : Below w.heap.size w W := ⟨h.os, h.tape, h.output, h.size, fun k hk => h.block k hk (fun h => h)⟩
theorem Kept.of_below {w W : World} (own : Nat → Prop) (h : Below w.heap.size w W) : Kept w own W := ⟨h.os, h.tape, h.output, h.size, fun k hk _ => h.block k hk⟩

structure Rep (w0 : Cx) (N : Nat) (D : List Deferred) (ρ : Env) (s : FS) (a : Act) (W : World) : Prop where
  defs : a.defers = D
  size : a.tmps.size = N
  sl : ∀ t, Rel ρ (s.sl t) (a.tmps.getD t undef)
  bk : ∀ k, BRep ρ w0.mine W k (s.bk k)
  apart : ∀ k k' b n b' n', k ≠ k' → (s.bk k).own → (s.bk k').own → ρ k = some (b, 0, n) → ρ k' = some (b', 0, n') → b ≠ b'
  wf1 : ∀ t k, (s.sl t).has k → s.bk k ≠ .un
  wf2 : ∀ j k, (s.bk j).has k → s.bk k ≠ .un
  kept : Kept w0.w w0.own W
  pl : ∀ k, (s.bk k).pl
  old : ∀ i, i < w0.base → ρ i = w0.ρ i ∧ s.bk i ≠ .un

/-- An operation's effect: the value of its slot; the blocks that it changes. -/
structure Eff where
  val : SV
  ups : List (Nat × BK) := []

def upds (f : Nat → BK) : List (Nat × BK) → Nat → BK
  | [] => f
  | (k, x) :: l => upds (fun j => if j = k then x else f j) l

def FS.app (s : FS) (dst : Option Nat) (e : Eff) : FS :=
  { sl := match dst with
      | some d => fun t => if t = d then e.val else s.sl t
      | none => s.sl
    bk := upds s.bk e.ups }

/-! ### The world grows: whatever lay there stays -/
theorem cell_below {n : Nat} {W W' : World} (h : Below n W W') {b o : Nat} (hb : b < n) : W'.cell? ⟨b, o, none⟩ = W.cell? ⟨b, o, none⟩ := by
  simp only [World.cell?, h.block b hb]

theorem heap_lt {W : World} {b : Nat} {o : Obj} (h : W.heap[b]? = some o) : b < W.heap.size := (Array.getElem?_eq_some_iff.1 h).1

theorem cell_lt {W : World} {b o : Nat} {x : Value} (h : W.cell? ⟨b, o, none⟩ = some x) : b < W.heap.size := World.block_lt_of_cell? W ⟨b, o, none⟩ h

theorem BRep.grow {ρ : Env} {M : Nat → Prop} {W W' : World} {k : Nat} {x : BK} (h : BRep ρ M W k x) (hb : Below W.heap.size W W') : BRep ρ M W' k x := by
  cases x with
  | un => trivial
  | dead => trivial
  | live own sym cells =>
    cases own with
    | true =>
      rcases h with h | ⟨b, vs, rest, ty, h1, h2, h3, h4⟩
      · exact .inl h
      · exact .inr ⟨b, vs, rest, ty, h1, h2, h3, by rw [hb.block b (heap_lt h4)]; exact h4⟩
    | false =>
      rcases h with h | ⟨b, o, n, vs, h1, h2, h3, h4⟩
      · exact .inl h
      · refine .inr ⟨b, o, n, vs, h1, h2, h3, fun i x hx => ?_⟩
        rw [cell_below hb (cell_lt (h4 i x hx))]; exact h4 i x hx

theorem BRep.congr {ρ ρ' : Env} {M : Nat → Prop} {W : World} {k : Nat} {x : BK} (hk : ρ' k = ρ k) (hx : ∀ j, x.has j → ρ' j = ρ j) (h : BRep ρ M W k x) : BRep ρ' M W k x := by
  cases x with
  | un => trivial
  | dead => trivial
  | live own sym cells =>
    cases own with
    | true =>
      rcases h with h | ⟨b, vs, rest, ty, h1, h2, h3, h4⟩
      · exact .inl ⟨hk.trans h.1, h.2⟩
      · exact .inr ⟨b, vs, rest, ty, hk.trans h1, h2, Rels.congr _ _ hx h3, h4⟩
    | false =>
      rcases h with h | ⟨b, o, n, vs, h1, h2, h3, h4⟩
      · exact .inl ⟨hk.trans h.1, h.2⟩
      · exact .inr ⟨b, o, n, vs, hk.trans h1, h2, Rels.congr _ _ hx h3, h4⟩

theorem Rep.size_le {w0 : Cx} {N : Nat} {D : List Deferred} {ρ : Env} {s : FS} {a : Act} {W : World} (h : Rep w0 N D ρ s a W) : w0.w.heap.size ≤ W.heap.size := h.kept.size

/-- The world has grown: the state stands for it as before. -/
theorem Rep.grow {w0 : Cx} {N : Nat} {D : List Deferred} {ρ : Env} {s : FS} {a : Act} {W W' : World} (h : Rep w0 N D ρ s a W) (hb : Below W.heap.size W W') : Rep w0 N D ρ s a W' :=
  { h with bk := fun k => (h.bk k).grow hb, kept := h.kept.grow hb }

theorem has_val {k : Nat} {x : Value} : ¬ (SV.v x).has k := by simp [SV.has]

/-- A value goes into a slot. -/
theorem Rep.put {w0 : Cx} {N : Nat} {D : List Deferred} {ρ : Env} {s : FS} {a : Act} {W : World} (h : Rep w0 N D ρ s a W) (dst : Option Nat) (hd : ∀ d, dst = some d → d < N)
    {x : SV} {y : Value} (hx : Rel ρ x y) (hw : ∀ k, x.has k → s.bk k ≠ .un) : Rep w0 N D ρ (s.app dst { val := x }) (a.put dst y) W := by
  cases dst with
  | none => exact h
  | some d =>
    have hdN := hd d rfl
    refine { defs := h.defs, size := by simp [Act.put, h.size], sl := fun t => ?_, bk := h.bk, apart := h.apart, wf1 := fun t k hk => ?_, wf2 := h.wf2, kept := h.kept, pl := h.pl, old := h.old }
    · simp only [FS.app, Act.put]
      by_cases ht : t = d
      · subst ht
        have : t < a.tmps.size := by rw [h.size]; exact hdN
        simp [this, hx]
      · rw [if_neg ht]
        have : (a.tmps.setIfInBounds d y).getD t undef = a.tmps.getD t undef := by
          simp only [Array.getD_eq_getD_getElem?, Array.getElem?_setIfInBounds]
          rw [if_neg (fun e => ht e.symm)]
        rw [this]; exact h.sl t
    · simp only [FS.app] at hk ⊢
      by_cases ht : t = d
      · rw [if_pos ht] at hk; exact hw k hk
      · rw [if_neg ht] at hk; exact h.wf1 t k hk

/-- A new block. -/
theorem Rep.new {w0 : Cx} {N : Nat} {D : List Deferred} {ρ : Env} {s : FS} {a : Act} {W : World} (h : Rep w0 N D ρ s a W) {k : Nat} (hk : s.bk k = .un)
    {cells : List SV} {vs rest : List Value} (sym : Bool) (ty : TypeId) (hc : Rels ρ cells vs) (hw : ∀ j, SV.hasl j cells → s.bk j ≠ .un) (hpl : (BK.live true sym cells).pl) :
    Rep w0 N D (fun j => if j = k then some (W.heap.size, 0, (vs ++ rest).length) else ρ j) (s.app none { val := .u, ups := [(k, .live true sym cells)] }) a
      { W with heap := W.heap.push (.cells (vs ++ rest).toArray ty) } := by
  have hne : ∀ j, s.bk j ≠ .un → (if j = k then some (W.heap.size, 0, (vs ++ rest).length) else ρ j) = ρ j := fun j hj => by
    rw [if_neg (fun e : j = k => hj (by rw [e]; exact hk))]
  have hbel : Below W.heap.size W { W with heap := W.heap.push (.cells (vs ++ rest).toArray ty) } :=
    ⟨rfl, rfl, rfl, by simp, fun i hi => by simp [Array.getElem?_push, Nat.ne_of_lt hi]⟩
  have h' := h.grow hbel
  refine { defs := h.defs, size := h.size, sl := fun t => Rel.congr _ _ (fun j hj => hne j (h.wf1 t j hj)) (h.sl t), bk := fun j => ?_, apart := ?_, wf1 := fun t j hj => ?_, wf2 := fun i j hj => ?_, kept := h'.kept, pl := fun j => (by simp only [FS.app, upds]; split; exact hpl; exact h.pl j), old := fun i hi => ⟨(hne i (h.old i hi).2).trans (h.old i hi).1, ?_⟩ }
  · simp only [FS.app, upds]
    by_cases hj : j = k
    · subst hj
      rw [if_pos rfl]
      refine .inr ⟨W.heap.size, vs, rest, ty, by simp, .inl h.size_le, Rels.congr _ _ (fun i hi => hne i (hw i hi)) hc, by simp⟩
    · rw [if_neg hj]
      exact BRep.congr (by simp [hj]) (fun i hi => hne i (h.wf2 j i hi)) (h'.bk j)
  · intro i j b n b' n' hij hi hj e1 e2
    simp only [FS.app, upds] at hi hj
    have lt : ∀ i b n, i ≠ k → (s.bk i).own → ρ i = some (b, 0, n) → b < W.heap.size := fun i b n hik hi e1 => by
      have := h.bk i
      cases hb : s.bk i with
      | un => rw [hb] at hi; exact hi.elim
      | dead => rw [hb] at hi; exact hi.elim
      | live own sy cs =>
        rw [hb] at hi this
        cases own with
        | false => exact hi.elim
        | true =>
          rcases this with ⟨e, _⟩ | ⟨b₁, vs₁, rest₁, ty₁, e, _, _, h4⟩
          · rw [e1] at e; cases e
          · rw [e1] at e; cases e; exact heap_lt h4
    by_cases hik : i = k
    · have hjk : j ≠ k := fun e => hij (hik.trans e.symm)
      rw [if_pos hik] at e1 hi
      rw [if_neg hjk] at e2 hj
      cases e1
      exact Nat.ne_of_gt (lt j b' n' hjk hj e2)
    · rw [if_neg hik] at e1 hi
      by_cases hjk : j = k
      · rw [if_pos hjk] at e2
        cases e2
        exact Nat.ne_of_lt (lt i b n hik hi e1)
      · rw [if_neg hjk] at e2 hj
        exact h.apart i j b n b' n' hij hi hj e1 e2
  · simp only [FS.app, upds]
    by_cases hjk : j = k
    · rw [if_pos hjk]; simp
    · rw [if_neg hjk]; exact h.wf1 t j hj
  · simp only [FS.app, upds] at hj ⊢
    have hj' : s.bk j ≠ .un := by
      by_cases hik : i = k
      · rw [if_pos hik] at hj; exact hw j hj
      · rw [if_neg hik] at hj; exact h.wf2 i j hj
    by_cases hjk : j = k
    · rw [if_pos hjk]; simp
    · rw [if_neg hjk]; exact hj'
  · simp only [FS.app, upds]
    by_cases hik : i = k
    · rw [if_pos hik]; simp
    · rw [if_neg hik]; exact (h.old i hi).2

end Go.Aw
