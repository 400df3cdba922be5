/-
  A symbolic executor for the model's code, part B: memory: reading, storing, new blocks. Generic in the program. No premise.
-/
import Derived.Test.YtopbnnmkdildgaaAwA
namespace Go.Aw
open Go.RowKit
set_option linter.unusedVariables false
set_option linter.unusedSimpArgs false

theorem add_eq (b off i : Nat) : (Addr.mk b off none).add i = ⟨b, off + i, none⟩ := by
  unfold Addr.add; split <;> simp_all

def SV.known : SV → Bool
  | .u => false
  | _ => true

/-- One cell. -/
def SV.one : SV → Bool
  | .u | .a _ | .t _ => false
  | .v x => x.oneCell'
  | _ => true

def SV.cells : SV → List SV
  | .a l => l
  | .v (.agg cs) => cs.toList.map .v
  | x => [x]

theorem Rel.cells {ρ : Env} {x : SV} {y : Value} (h : Rel ρ x y) (hk : x.known = true) : Rels ρ x.cells y.cells.toList := by
  cases x with
  | u => simp [SV.known] at hk
  | b x => simp only [Rel] at h; subst h; simp [SV.cells, Value.cells, Rels, Rel]
  | v x =>
    simp only [Rel] at h; subst h
    cases y <;> first
      | (simp only [SV.cells, Value.cells]; exact Rels.vals _)
      | simp [SV.cells, Value.cells, Rels, Rel]
  | p k off =>
    have h' := h
    simp only [Rel] at h; obtain ⟨b, o, n, h1, rfl⟩ := h
    simp only [SV.cells, Value.cells, Rels]; exact ⟨h', trivial⟩
  | s k off len es =>
    have h' := h
    simp only [Rel] at h
    rcases h with ⟨h1, h2, rfl⟩ | ⟨b, o, n, cap, off', h1, rfl, h2⟩ <;> (simp only [SV.cells, Value.cells, Rels]; exact ⟨h', trivial⟩)
  | f g caps =>
    have h' := h
    simp only [Rel] at h; obtain ⟨vs, rfl, h⟩ := h
    simp only [SV.cells, Value.cells, Rels]; exact ⟨h', trivial⟩
  | a l => simp only [Rel] at h; obtain ⟨vs, rfl, h⟩ := h; simpa [SV.cells, Value.cells] using h
  | t l =>
    have h' := h
    simp only [Rel] at h; obtain ⟨vs, rfl, h⟩ := h
    simp only [SV.cells, Value.cells, Rels]; exact ⟨h', trivial⟩

theorem Rel.one {ρ : Env} {x : SV} {y : Value} (h : Rel ρ x y) (hk : x.one = true) : y.oneCell' = true := by
  cases x <;> simp only [Rel] at h <;> simp only [SV.one] at hk
  case b x => subst h; rfl
  case v x => subst h; exact hk
  case p => obtain ⟨b, o, n, h1, rfl⟩ := h; rfl
  case s => rcases h with ⟨h1, h2, rfl⟩ | ⟨b, o, n, cap, off', h1, rfl, h2⟩ <;> rfl
  case f => obtain ⟨vs, rfl, h⟩ := h; rfl
  all_goals cases hk

theorem Rels.ones {ρ : Env} : ∀ {l : List SV} {m : List Value}, Rels ρ l m → l.all SV.one = true → ∀ v ∈ m, v.oneCell' = true
  | [], [], _, _ => by simp
  | [], _ :: _, h, _ => by simp [Rels] at h
  | _ :: _, [], h, _ => by simp [Rels] at h
  | x :: l, y :: m, h, ho => by
    simp only [Rels] at h
    simp only [List.all_cons, Bool.and_eq_true] at ho
    intro v hv
    rcases List.mem_cons.1 hv with rfl | hv
    · exact Rel.one h.1 ho.1
    · exact Rels.ones h.2 ho.2 v hv

theorem has_cells {k : Nat} {x : SV} : SV.hasl k x.cells → x.has k := by
  cases x <;> simp only [SV.cells, SV.hasl, SV.has, or_false, imp_self]
  case v x =>
    intro h
    cases x <;> simp only [SV.cells, SV.hasl, SV.has, or_false] at h
    rw [hasl_iff] at h
    obtain ⟨z, hz, hk⟩ := h
    obtain ⟨q, _, rfl⟩ := List.mem_map.1 hz
    exact (has_val hk).elim

/-! ### Reading -/
theorem BRep.read {ρ : Env} {M : Nat → Prop} {W : World} {k : Nat} {own sym : Bool} {cells : List SV} (h : BRep ρ M W k (.live own sym cells)) :
    (ρ k = none ∧ cells = []) ∨ ∃ (b o n : Nat) (vs : List Value), ρ k = some (b, o, n) ∧ (Rels ρ cells vs ∧ vs.length ≤ n) ∧ (own = true → o = 0 ∧ M b ∧ b < W.heap.size) ∧
      ∀ (i : Nat) (x : Value), vs[i]? = some x → W.cell? ⟨b, o + i, none⟩ = some x := by
  cases own with
  | true =>
    rcases h with h | ⟨b, vs, rest, ty, h1, h2, h3, h4⟩
    · exact .inl h
    · refine .inr ⟨b, 0, _, vs, h1, ⟨h3, by simp⟩, fun _ => ⟨rfl, h2, heap_lt h4⟩, fun i x hx => ?_⟩
      have hi : i < vs.length := (List.getElem?_eq_some_iff.1 hx).1
      simp [World.cell?, h4, List.getElem?_append_left hi, hx]
  | false =>
    rcases h with h | ⟨b, o, n, vs, h1, h2, h3, h4⟩
    · exact .inl h
    · exact .inr ⟨b, o, n, vs, h1, ⟨h3, h2.1⟩, (fun h => by cases h), h4⟩

theorem run_loadCells {P : Program} {W : World} {b o : Nat} : ∀ (vs : List Value) (i : Nat) (acc : Array Value),
    (∀ (j : Nat) (x : Value), vs[j]? = some x → W.cell? ⟨b, o + (i + j), none⟩ = some x) → (loadCellsFrom ⟨b, o, none⟩ i vs.length acc).run P W = .ok (acc ++ vs.toArray) W
  | [], i, acc, _ => by simp [loadCellsFrom]
  | v :: vs, i, acc, h => by
    have h0 := h 0 v (by simp)
    simp only [List.length_cons, loadCellsFrom, Sem.run_bind, run_load, add_eq]
    rw [show o + i = o + (i + 0) by omega, h0]
    simp only [Result.andThen_ok]
    rw [run_loadCells vs (i + 1) (acc.push v) (fun j x hx => by
      have := h (j + 1) x (by simpa using hx)
      rw [show i + 1 + j = i + (j + 1) by omega]; exact this)]
    congr 1
    apply Array.ext'; simp

/-! ### Storing -/
def splice {α : Type} (l : List α) (off : Nat) (m : List α) : List α := l.take off ++ m ++ l.drop (off + m.length)

/-- Block b alone has been turned: it holds these cells now. -/
structure Turned (W W' : World) (b : Nat) (cells : List Value) (ty : TypeId) : Prop where
  os : W'.os = W.os
  tape : W'.tape = W.tape
  output : W'.output = W.output
  size : W'.heap.size = W.heap.size
  other : ∀ j, j ≠ b → W'.heap[j]? = W.heap[j]?
  this : W'.heap[b]? = some (.cells cells.toArray ty (0, 0))

theorem Turned.setCell {W : World} {b i : Nat} {cells : List Value} {ty : TypeId} {v : Value} (h : W.heap[b]? = some (.cells cells.toArray ty (0, 0))) (hi : i < cells.length) :
    Turned W (W.setCell ⟨b, i, none⟩ v) b (cells.set i v) ty := by
  refine ⟨rfl, rfl, rfl, by simp [World.setCell], fun j hj => ?_, ?_⟩
  · simp only [World.setCell, Array.getElem?_modify]; rw [if_neg (fun e => hj e.symm)]
  · simp only [World.setCell, Array.getElem?_modify, if_pos, h]
    simp

theorem run_storeCells {P : Program} {b o : Nat} {ty : TypeId} : ∀ (vs : List Value) (i : Nat) (W : World) (cells : List Value), W.heap[b]? = some (.cells cells.toArray ty (0, 0)) →
    (∀ v ∈ vs, v.oneCell' = true) → o + i + vs.length ≤ cells.length →
    ∃ W', (storeCells ⟨b, o, none⟩ vs i).run P W = .ok () W' ∧ Turned W W' b (splice cells (o + i) vs) ty
  | [], i, W, cells, h, _, hl => ⟨W, by simp [storeCells], ⟨rfl, rfl, rfl, rfl, fun _ _ => rfl, by rw [h]; simp [splice]⟩⟩
  | v :: vs, i, W, cells, h, hv, hl => by
    have hv0 : v.oneCell' = true := hv v (by simp)
    simp only [List.length_cons] at hl
    have hi : o + i < cells.length := by omega
    have hc : W.cell? ⟨b, o + i, none⟩ = some cells[o + i] := by simp [World.cell?, h, hi]
    have hf : W.frozen? ⟨b, o + i, none⟩ = false := by simp [World.frozen?, h]
    have ht := Turned.setCell (v := v) h hi
    obtain ⟨W', hr, h'⟩ := run_storeCells (P := P) (b := b) (o := o) (ty := ty) vs (i + 1) (W.setCell ⟨b, o + i, none⟩ v) (cells.set (o + i) v) ht.this (fun x hx => hv x (by simp [hx])) (by simp; omega)
    refine ⟨W', ?_, ?_⟩
    · simp only [storeCells, Sem.run_bind, add_eq, run_store _ _ _ _ _ hv0, hc, hf, Bool.false_eq_true, if_false, Result.andThen_ok]
      exact hr
    · refine ⟨h'.os.trans ht.os, h'.tape.trans ht.tape, h'.output.trans ht.output, h'.size.trans ht.size, fun j hj => (h'.other j hj).trans (ht.other j hj), ?_⟩
      rw [h'.this]
      have : splice (cells.set (o + i) v) (o + (i + 1)) vs = splice cells (o + i) (v :: vs) := by
        unfold splice
        rw [show o + (i + 1) = (o + i) + 1 by omega, List.take_add_one]
        simp only [List.take_set_of_le (Nat.le_refl _), List.getElem?_set_self hi, Option.toList_some, List.append_assoc, List.cons_append, List.nil_append, List.length_cons]
        rw [List.drop_set_of_lt (by omega)]
        rw [show o + i + 1 + vs.length = o + i + (vs.length + 1) by omega]
      rw [this]

theorem Rels.splice {ρ : Env} {l m : List SV} {l' m' : List Value} (off : Nat) (h : Rels ρ l l') (h' : Rels ρ m m') : Rels ρ (Aw.splice l off m) (Aw.splice l' off m') := by
  unfold Aw.splice
  rw [h'.length]
  exact Rels.append (Rels.append (Rels.take _ h) h') (Rels.drop _ h)

theorem splice_append {α : Type} {l r : List α} {off : Nat} {m : List α} (h : off + m.length ≤ l.length) : splice (l ++ r) off m = splice l off m ++ r := by
  unfold splice
  rw [List.take_append_of_le_length (by omega), List.drop_append_of_le_length h]
  simp [List.append_assoc]

theorem splice_length {α : Type} {l : List α} {off : Nat} {m : List α} (h : off + m.length ≤ l.length) : (splice l off m).length = l.length := by
  unfold splice; simp; omega

/-- An own block has been turned. -/
theorem Rep.turn {w0 : Cx} {N : Nat} {D : List Deferred} {ρ : Env} {s : FS} {a : Act} {W W' : World} (h : Rep w0 N D ρ s a W) {k b : Nat} {sym : Bool} {cells cells' : List SV}
    {vs' rest : List Value} {ty : TypeId} (hk : s.bk k = .live true sym cells) (hρ : ρ k = some (b, 0, (vs' ++ rest).length)) (hb0 : w0.mine b)
    (hc : Rels ρ cells' vs') (hw : ∀ j, SV.hasl j cells' → s.bk j ≠ .un) (hpl : (BK.live true sym cells').pl) (ht : Turned W W' b (vs' ++ rest) ty) :
    Rep w0 N D ρ (s.app none { val := .u, ups := [(k, .live true sym cells')] }) a W' := by
  have hown : (s.bk k).own := by rw [hk]; trivial
  refine { defs := h.defs, size := h.size, sl := h.sl, bk := fun j => ?_, apart := fun i j b1 n1 b2 n2 hij hi hj => ?_, wf1 := fun t j hj => ?_, wf2 := fun i j hj => ?_, kept := ?_, pl := fun j => (by simp only [FS.app, upds]; split; exact hpl; exact h.pl j), old := fun i hi => ⟨(h.old i hi).1, ?_⟩ }
  · simp only [FS.app, upds]
    by_cases hj : j = k
    · subst hj; rw [if_pos rfl]
      exact .inr ⟨b, vs', rest, ty, hρ, hb0, hc, ht.this⟩
    · rw [if_neg hj]
      have hb := h.bk j
      cases hx : s.bk j with
      | un => trivial
      | dead => trivial
      | live own sy cs =>
        rw [hx] at hb
        cases own with
        | true =>
          rcases hb with hb | ⟨b₁, vs₁, rest₁, ty₁, e1, e2, e3, e4⟩
          · exact .inl hb
          · refine .inr ⟨b₁, vs₁, rest₁, ty₁, e1, e2, e3, ?_⟩
            rw [ht.other b₁ (h.apart j k b₁ _ b _ hj (by rw [hx]; trivial) hown e1 hρ)]; exact e4
        | false =>
          rcases hb with hb | ⟨b₁, o, n, vs₁, e1, e2, e3, e4⟩
          · exact .inl hb
          · refine .inr ⟨b₁, o, n, vs₁, e1, e2, e3, fun i x hx => ?_⟩
            have hne : vs₁ ≠ [] := by rintro rfl; simp at hx
            have hnm := e2.2 hne
            have := e4 i x hx
            simp only [World.cell?] at this ⊢
            rw [ht.other b₁ (fun e => hnm (by rw [e]; exact hb0))]; exact this
  · simp only [FS.app, upds] at hi hj
    have fix : ∀ i, (if i = k then BK.live true sym cells' else s.bk i).own → (s.bk i).own := fun i hi => by
      by_cases hik : i = k
      · subst hik; exact hown
      · rwa [if_neg hik] at hi
    exact h.apart i j b1 n1 b2 n2 hij (fix i hi) (fix j hj)
  · simp only [FS.app, upds]
    by_cases hjk : j = k
    · rw [if_pos hjk]; simp
    · rw [if_neg hjk]; exact h.wf1 t j hj
  · simp only [FS.app, upds] at hj ⊢
    have hj' : s.bk j ≠ .un := by
      by_cases hik : i = k
      · rw [if_pos hik] at hj; exact hw j hj
      · rw [if_neg hik] at hj; exact h.wf2 i j hj
    by_cases hjk : j = k
    · rw [if_pos hjk]; simp
    · rw [if_neg hjk]; exact hj'
  · exact ⟨ht.os.trans h.kept.os, ht.tape.trans h.kept.tape, ht.output.trans h.kept.output, by rw [ht.size]; exact h.kept.size, fun j hj ho => (ht.other j (fun e => (by rw [← e] at hb0; exact hb0.elim (Nat.not_le_of_lt hj) ho))).trans (h.kept.block j hj ho)⟩
  · simp only [FS.app, upds]
    by_cases hik : i = k
    · rw [if_pos hik]; simp
    · rw [if_neg hik]; exact (h.old i hi).2

end Go.Aw
