/-
  A symbolic executor for the model's code, part S: ranges over functions: an iterator's contract, and the statement of the one who ranges. Generic in the program. No premise.
-/
import Derived.Test.YtopbnnmkdildgaaAwR
import Derived.RangeFuncRecord
import Derived.RangeFuncSeq
namespace Go.Aw
open Go.RowKit
set_option linter.unusedVariables false
set_option linter.unusedSimpArgs false

/-! ### Blocks set aside -/
theorem Kept.trans {w A B : World} {own own' : Nat → Prop} (h : Kept w own A) (k : Kept A own' B) (ho : ∀ b, own' b → b < w.heap.size → own b) : Kept w own B :=
  ⟨k.os.trans h.os, k.tape.trans h.tape, k.output.trans h.output, Nat.le_trans h.size k.size, fun i hi hn => (k.block i (Nat.lt_of_lt_of_le hi h.size) (fun h' => hn (ho i h' hi))).trans (h.block i hi hn)⟩

theorem Kept.mono {w W : World} {own own' : Nat → Prop} (h : Kept w own W) (ho : ∀ b, own b → own' b) : Kept w own' W :=
  ⟨h.os, h.tape, h.output, h.size, fun k hk hn => h.block k hk (fun h' => hn (ho k h'))⟩

def isCellsAt (W : World) (b : Nat) : Prop := ∃ c ty m, W.heap[b]? = some (.cells c ty m)

theorem isCellsAt.lt {W : World} {b : Nat} (h : isCellsAt W b) : b < W.heap.size := by
  obtain ⟨c, ty, m, h⟩ := h; exact heap_lt h

theorem isCellsAt_of_cell {W : World} {b o : Nat} {x : Value} (h : W.cell? ⟨b, o, none⟩ = some x) : isCellsAt W b := by
  unfold World.cell? at h
  cases ho : W.heap[b]? with
  | none => simp [ho] at h
  | some o' =>
    cases o' with
    | cells c ty m => exact ⟨c, ty, m, ho⟩
    | _ => simp [ho] at h

/-- Only blocks that lie at or behind B and hold no cells have turned; new ones. -/
structure Turn (B : Nat) (W W' : World) : Prop where
  os : W'.os = W.os
  tape : W'.tape = W.tape
  output : W'.output = W.output
  size : W.heap.size ≤ W'.heap.size
  low : ∀ k, k < W.heap.size → k < B → W'.heap[k]? = W.heap[k]?
  cells : ∀ k, isCellsAt W k → W'.heap[k]? = W.heap[k]?

theorem Turn.of_below {B : Nat} {W W' : World} (h : Below W.heap.size W W') : Turn B W W' := ⟨h.os, h.tape, h.output, h.size, fun k hk _ => h.block k hk, fun k hk => h.block k hk.lt⟩
theorem Turn.put {B : Nat} {W : World} {l : Nat} {o o' : Obj} (hl : W.heap[l]? = some o) (hB : B ≤ l) (ho : ∀ c ty m, o ≠ .cells c ty m) : Turn B W (W.putObj l o') :=
  ⟨rfl, rfl, rfl, by simp, fun k _ hk => World.putObj_heap_other (by omega), fun k ⟨c, ty, m, hk⟩ => World.putObj_heap_other (fun e => by subst e; rw [hl] at hk; cases hk; exact ho _ _ _ rfl)⟩

theorem Turn.cell {B : Nat} {W W' : World} (h : Turn B W W') {b o : Nat} {x : Value} (hx : W.cell? ⟨b, o, none⟩ = some x) : W'.cell? ⟨b, o, none⟩ = some x := by
  have := h.cells b (isCellsAt_of_cell hx)
  simp only [World.cell?] at hx ⊢
  rw [this]; exact hx

section
variable {cx : Cx} {N : Nat} {D : List Deferred} {ρ : Env} {s : FS} {a : Act} {W : World}

theorem BRep.turn {M : Nat → Prop} {B : Nat} {W' : World} {k : Nat} {x : BK} (h : BRep ρ M W k x) (ht : Turn B W W') : BRep ρ M W' k x := by
  cases x with
  | un => trivial
  | dead => trivial
  | live own sym cells =>
    cases own with
    | true =>
      rcases h with h | ⟨b, vs, rest, ty, h1, h2, h3, h4⟩
      · exact .inl h
      · exact .inr ⟨b, vs, rest, ty, h1, h2, h3, (ht.cells b ⟨_, _, _, h4⟩).trans h4⟩
    | false =>
      rcases h with h | ⟨b, o, n, vs, h1, h2, h3, h4⟩
      · exact .inl h
      · exact .inr ⟨b, o, n, vs, h1, h2, h3, fun i x hx => ht.cell (h4 i x hx)⟩

theorem Rep.turned {B : Nat} {W' : World} (h : Rep cx N D ρ s a W) (ht : Turn B W W') (hB : cx.w.heap.size ≤ B) : Rep cx N D ρ s a W' :=
  { h with bk := fun k => (h.bk k).turn ht, kept := ⟨ht.os.trans h.kept.os, ht.tape.trans h.kept.tape, ht.output.trans h.kept.output, Nat.le_trans h.kept.size ht.size, fun k hk ho => (ht.low k (Nat.lt_of_lt_of_le hk h.kept.size) (Nat.lt_of_lt_of_le hk hB)).trans (h.kept.block k hk ho)⟩ }

theorem Rep.defer (h : Rep cx N D ρ s a W) (D' : List Deferred) : Rep cx N D' ρ s { a with defers := D' } W :=
  { defs := rfl, size := h.size, sl := h.sl, bk := h.bk, apart := h.apart, wf1 := h.wf1, wf2 := h.wf2, kept := h.kept, pl := h.pl, old := h.old }

/-- From here on, the blocks d (which hold no cells) are to lie as they lie. -/
def Cx.hold (cx : Cx) (W : World) (d : Nat → Prop) : Cx := { w := W, base := cx.base, ρ := cx.ρ, own := fun b => cx.mine b ∧ ¬ d b }

theorem Rep.hold (h : Rep cx N D ρ s a W) {d : Nat → Prop} (hd : ∀ b, d b → ¬ isCellsAt W b) : Rep (cx.hold W d) N D ρ s a W := by
  refine { defs := h.defs, size := h.size, sl := h.sl, bk := fun k => ?_, apart := h.apart, wf1 := h.wf1, wf2 := h.wf2, kept := Kept.refl _ _, pl := h.pl, old := h.old }
  have hb := h.bk k
  cases hx : s.bk k with
  | un => trivial
  | dead => trivial
  | live own sym cells =>
    rw [hx] at hb
    cases own with
    | true =>
      rcases hb with hb | ⟨b, vs, rest, ty, h1, h2, h3, h4⟩
      · exact .inl hb
      · exact .inr ⟨b, vs, rest, ty, h1, .inr ⟨h2, fun hdb => hd b hdb ⟨_, _, _, h4⟩⟩, h3, h4⟩
    | false =>
      rcases hb with hb | ⟨b, o, n, vs, h1, h2, h3, h4⟩
      · exact .inl hb
      · refine .inr ⟨b, o, n, vs, h1, ⟨h2.1, fun hne hM => ?_⟩, h3, h4⟩
        obtain ⟨x, vs', rfl⟩ := List.exists_cons_of_ne_nil hne
        have hlt := (isCellsAt_of_cell (h4 0 x (by simp))).lt
        rcases hM with hM | hM
        · exact absurd hM (Nat.not_le_of_lt hlt)
        · exact h2.2 hne hM.1

theorem Rep.unhold {W0 : World} {d : Nat → Prop} (h : Rep (cx.hold W0 d) N D ρ s a W) (hk : Kept cx.w cx.own W0) (hd : ∀ b, d b → b < W0.heap.size ∧ ¬ isCellsAt W0 b) : Rep cx N D ρ s a W := by
  have hkept : Kept W0 (cx.hold W0 d).own W := h.kept
  refine { defs := h.defs, size := h.size, sl := h.sl, bk := fun k => ?_, apart := h.apart, wf1 := h.wf1, wf2 := h.wf2, kept := hk.trans hkept (fun b hb hlt => ?_), pl := h.pl, old := h.old }
  · have hb := h.bk k
    cases hx : s.bk k with
    | un => trivial
    | dead => trivial
    | live own sym cells =>
      rw [hx] at hb
      cases own with
      | true =>
        rcases hb with hb | ⟨b, vs, rest, ty, h1, h2, h3, h4⟩
        · exact .inl hb
        · refine .inr ⟨b, vs, rest, ty, h1, ?_, h3, h4⟩
          rcases h2 with h2 | h2
          · exact .inl (Nat.le_trans hk.size h2)
          · exact h2.1
      | false =>
        rcases hb with hb | ⟨b, o, n, vs, h1, h2, h3, h4⟩
        · exact .inl hb
        · refine .inr ⟨b, o, n, vs, h1, ⟨h2.1, fun hne hM => ?_⟩, h3, h4⟩
          by_cases hdb : d b
          · obtain ⟨x, vs', rfl⟩ := List.exists_cons_of_ne_nil hne
            have hc := isCellsAt_of_cell (h4 0 x (by simp))
            obtain ⟨c, ty, m, hc⟩ := hc
            refine (hd b hdb).2 ⟨c, ty, m, ?_⟩
            rw [← hkept.block b (hd b hdb).1 (fun h' => h'.2 hdb)]; exact hc
          · exact h2.2 hne (.inr ⟨hM, hdb⟩)
  · rcases hb.1 with h' | h'
    · exact absurd h' (Nat.not_le_of_lt hlt)
    · exact h'

/-! ### A round: only the state's own blocks may be written -/
def OwnS (ρ : Env) (s : FS) (b : Nat) : Prop := ∃ k n, (s.bk k).own ∧ ρ k = some (b, 0, n)

theorem Rep.owns (h : Rep cx N D ρ s a W) {b : Nat} (hb : OwnS ρ s b) : isCellsAt W b ∧ cx.mine b := by
  obtain ⟨k, n, hk, hρ⟩ := hb
  have hb := h.bk k
  cases hx : s.bk k with
  | un => rw [hx] at hk; exact hk.elim
  | dead => rw [hx] at hk; exact hk.elim
  | live own sym cells =>
    rw [hx] at hb hk
    cases own with
    | false => exact hk.elim
    | true =>
      rcases hb with hb | ⟨b', vs, rest, ty, h1, h2, h3, h4⟩
      · rw [hρ] at hb; cases hb.1
      · rw [hρ] at h1; cases h1; exact ⟨⟨_, _, _, h4⟩, h2⟩

def Cx.only (base : Nat) (W : World) (ρ : Env) (S : Nat → Prop) : Cx := { w := W, base := base, ρ := ρ, own := S }

theorem Rep.only (h : Rep cx N D ρ s a W) {B : Nat} {W' : World} (ht : Turn B W W') (base : Nat) (hb : ∀ i, i < base → s.bk i ≠ .un) : Rep (Cx.only base W' ρ (OwnS ρ s)) N D ρ s a W' := by
  refine { defs := h.defs, size := h.size, sl := h.sl, bk := fun k => ?_, apart := h.apart, wf1 := h.wf1, wf2 := h.wf2, kept := Kept.refl _ _, pl := h.pl, old := fun i hi => ⟨rfl, hb i hi⟩ }
  refine BRep.turn ?_ ht
  have hsz := ht.size
  have hb := h.bk k
  cases hx : s.bk k with
  | un => trivial
  | dead => trivial
  | live own sym cells =>
    rw [hx] at hb
    cases own with
    | true =>
      rcases hb with hb | ⟨b, vs, rest, ty, h1, h2, h3, h4⟩
      · exact .inl hb
      · exact .inr ⟨b, vs, rest, ty, h1, .inr ⟨k, _, by rw [hx]; trivial, h1⟩, h3, h4⟩
    | false =>
      rcases hb with hb | ⟨b, o, n, vs, h1, h2, h3, h4⟩
      · exact .inl hb
      · refine .inr ⟨b, o, n, vs, h1, ⟨h2.1, fun hne hM => ?_⟩, h3, h4⟩
        obtain ⟨x, vs', rfl⟩ := List.exists_cons_of_ne_nil hne
        have hlt := (isCellsAt_of_cell (h4 0 x (by simp))).lt
        rcases hM with hM | hM
        · exact absurd (Nat.le_trans hsz hM) (Nat.not_le_of_lt hlt)
        · exact h2.2 hne (h.owns hM).2

/-- Behind a round: the state of the one who ranges again. -/
theorem Rep.rejoin (h : Rep cx N D ρ s a W) {base : Nat} {Wb W' : World} {ρ1 : Env} {S : Nat → Prop} (h1ρ : ∀ i, i < base → ρ1 i = ρ i) (hS : ∀ b, S b → OwnS ρ s b ∨ W.heap.size ≤ b) {N' : Nat} {D' : List Deferred} {ρ' : Env} {s' : FS} {a' : Act}
    (hr : Rep (Cx.only base Wb ρ1 S) N' D' ρ' s' a' W') (hsz : W.heap.size ≤ Wb.heap.size) (hk : Kept cx.w cx.own Wb) (hbase : cx.base ≤ base)
    (hsl : ∀ t k, (s.sl t).has k → k < base) (hro : ∀ k sym cells, s'.bk k = .live false sym cells → s.bk k = .live false sym cells ∧ k < base) :
    Rep cx N D ρ' ⟨s.sl, s'.bk⟩ a W' := by
  have hρ : ∀ i, i < base → ρ' i = ρ i := fun i hi => ((hr.old i hi).1).trans (h1ρ i hi)
  have hSm : ∀ b, S b → cx.mine b := fun b hb => by
    rcases hS b hb with h' | h'
    · exact (h.owns h').2
    · exact .inl (Nat.le_trans h.kept.size h')
  refine { defs := h.defs, size := h.size, sl := fun t => Rel.congr _ _ (fun k hk => hρ k (hsl t k hk)) (h.sl t), bk := fun k => ?_, apart := hr.apart, wf1 := fun t k hk => (hr.old k (hsl t k hk)).2, wf2 := hr.wf2,
           kept := hk.trans hr.kept (fun b hb hlt => ?_), pl := hr.pl, old := fun i hi => ⟨(hρ i (by omega)).trans (h.old i hi).1, (hr.old i (show i < base by omega)).2⟩ }
  · have hb := hr.bk k
    cases hx : s'.bk k with
    | un => trivial
    | dead => trivial
    | live own sym cells =>
      rw [hx] at hb
      cases own with
      | true =>
        rcases hb with hb | ⟨b, vs, rest, ty, h1, h2, h3, h4⟩
        · exact .inl hb
        · refine .inr ⟨b, vs, rest, ty, h1, ?_, h3, h4⟩
          rcases h2 with h2 | h2
          · exact .inl (Nat.le_trans (Nat.le_trans h.kept.size hsz) h2)
          · exact hSm b h2
      | false =>
        rcases hb with hb | ⟨b, o, n, vs, h1, h2, h3, h4⟩
        · exact .inl hb
        · refine .inr ⟨b, o, n, vs, h1, ⟨h2.1, fun hne => ?_⟩, h3, h4⟩
          obtain ⟨e1, e2⟩ := hro k sym cells hx
          have h0 := h.bk k
          rw [e1] at h0
          rcases h0 with ⟨q1, q2⟩ | ⟨b0, o0, n0, vs0, q1, q2, q3, q4⟩
          · rw [hρ k e2, q1] at h1; cases h1
          · rw [hρ k e2, q1] at h1; cases h1
            have hl : vs0.length = vs.length := by rw [← q3.length, h3.length]
            refine q2.2 (fun e => hne ?_)
            subst e; exact List.eq_nil_of_length_eq_zero hl.symm
  · have := hSm b hb
    rcases this with h' | h'
    · exact absurd h' (Nat.not_le_of_lt hlt)
    · exact h'

end

/-! ### Iterators -/
section
variable {α : Type} {P : Program}

/-- What a round comes to: it goes on, or it stops; the blocks S of the one who ranges may have changed. -/
def YR (J : Nat → (Nat → Prop) → World → Prop) (Jx : (Nat → Prop) → World → Prop) (i : Nat) (S : Nat → Prop) (W1 : World) (e : Ending) (W' : World) : Prop :=
  (e = .returned (.bool true) ∧ ∃ S', J (i + 1) S' W' ∧ Kept W1 S W' ∧ ∀ b, S' b → S b ∨ W1.heap.size ≤ b) ∨
  (e = .returned (.bool false) ∧ ∃ S', Jx S' W' ∧ Kept W1 S W')

/-- An iterator: called with a yield it gives the elements xs, one after the other, until it is told to stop; it writes nothing that lay when it was called. -/
def IterAt (P : Program) (g : Nat) (lb : List Value) (enc : α → Value) (xs : List α) (W0 : World) : Prop :=
  ∀ (l : Nat) (J : Nat → (Nat → Prop) → World → Prop) (Jx : (Nat → Prop) → World → Prop) (S0 : Nat → Prop),
    (∀ i S W W', J i S W → Below W.heap.size W W' → J i S W') → (∀ S W W', Jx S W → Below W.heap.size W W' → Jx S W') →
    (∀ i S W, J i S W → ∀ b, S b → b < W.heap.size) →
    (∀ i x S W1, xs[i]? = some x → J i S W1 → YieldAt (Fw none) 9 P l #[enc x] W1 (YR J Jx i S W1)) →
    J 0 S0 W0 →
    Calls P g (#[.func (.yield l) #[] #[]] ++ lb.toArray) W0 fun e W' => (∃ v, e = .returned v) ∧ ∃ S', (J xs.length S' W' ∨ Jx S' W') ∧ Kept W0 S0 W'

/-- How a round's body is left. -/
def RP (I : Nat → (Nat → Prop) → World → Prop) (Ix : (Nat → Prop) → World → Prop) (i : Nat) (S : Nat → Prop) (W1 W3 : World) : Exit → Act → World → Prop
  | .normal, _, W4 => ∃ S', I (i + 1) S' W4 ∧ Kept W3 (fun b => S b ∨ W1.heap.size ≤ b) W4 ∧ ∀ b, S' b → S b ∨ W1.heap.size ≤ b
  | .ret, _, W4 => ∃ S', Ix S' W4 ∧ Kept W3 (fun b => S b ∨ W1.heap.size ≤ b) W4
  | _, _, _ => False

def mark (d : Nat) : Deferred := { target := .collected d, args := #[] }

theorem roundIn_n {r : Option Nat} {n m : Nat} {l : Nat} {f : FuncId} {tmps : Array Value} {assign body : Code} {W : World} {R : Ending → World → Prop} (h : RoundIn (Fw r) n P l f tmps assign body W R) : RoundIn (Fw r) m P l f tmps assign body W R :=
  ⟨h.1, fun c cs _ => h.2 c cs (by simp [Fence.room, Fw])⟩

theorem wpIn_range {n : Nat} {gf : Nat} {lb : List Value} {g : Operand} {t : Tmp} {assign body : Code} {Q : Exit → Act → World → Prop} {a : Act} {W : World} {enc : α → Value} {xs : List α}
    (hg : a.eval g = .func (.func gf) #[] lb.toArray) (hE : Enters P gf) (hit : ∀ W', Below W.heap.size W W' → IterAt P gf lb enc xs W')
    (S0 : Nat → Prop) (I : Nat → (Nat → Prop) → World → Prop) (Ix : (Nat → Prop) → World → Prop)
    (hI : ∀ i S W1 W2, I i S W1 → Turn W.heap.size W1 W2 → I i S W2) (hIx : ∀ S W1 W2, Ix S W1 → Turn W.heap.size W1 W2 → Ix S W2)
    (hIS : ∀ i S W1, I i S W1 → ∀ b, S b → isCellsAt W1 b) (h0 : I 0 S0 W)
    (hround : ∀ (l i : Nat) (x : α) (S : Nat → Prop) (W1 : World), W.heap.size ≤ l → xs[i]? = some x → I i S W1 →
      assign.wpIn (Fw (some l)) 9 P (Exit.then (fun a1 W2 => Kept W1 S W2 ∧ ∀ W3, Turn W.heap.size W2 W3 → Kept W2 (fun b => b = l) W3 → body.wpIn (Fw (some l)) 9 P (RP I Ix i S W1 W3) a1 W3) (fun _ _ _ => False))
        { tmps := a.tmps.setIfInBounds t (enc x), defers := [] } W1)
    (hdone : ∀ (d : Nat) (S : Nat → Prop) (W' : World), W.heap.size ≤ d → I xs.length S W' → W'.heap[d]? = some (.deferred (some [])) → Q .normal { a with defers := mark d :: a.defers } W')
    (hstop : ∀ (d : Nat) (S : Nat → Prop) (W' : World), W.heap.size ≤ d → Ix S W' → W'.heap[d]? = some (.deferred (some [])) → Q .ret { a with defers := mark d :: a.defers } W') :
    (Code.rangeFunc g #[t] assign body).wpIn (Fw none) n P Q a W := by
  refine wpIn_rangeFunc ?_
  intro fn hfn
  let rc : LoopState → Option Code → Loop := fun st pe => { state := st, pending := pe, fn := fn, tmps := a.tmps, params := #[t], assign := assign, body := body, defers := W.heap.size }
  let l := W.heap.size + 1
  let W1 := (W.alloc (.deferred (some []))).alloc (.loop (rc .ready none))
  have hl1 : W1.heap[l]? = some (.loop (rc .ready none)) := by
    have := World.alloc_heap_new (W.alloc (.deferred (some []))) (.loop (rc .ready none)); rwa [World.size_alloc] at this
  have hd1 : W1.heap[W.heap.size]? = some (.deferred (some [])) := (Below.heap_alloc _ _ _ (by simp)).trans (World.alloc_heap_new W _)
  have hb1 : Below W.heap.size W W1 := ((Below.refl _ W).alloc (Nat.le_refl _) _).alloc (by simp) _
  have hcal := (hit W1 hb1) l (fun i Sf W' => ∃ S, I i S W' ∧ W'.heap[l]? = some (.loop (rc .ready none)) ∧ W'.heap[W.heap.size]? = some (.deferred (some [])) ∧ ∀ b, Sf b ↔ S b ∨ b = l)
    (fun Sf W' => ∃ S, Ix S W' ∧ W'.heap[l]? = some (.loop (rc .done (some .ret))) ∧ W'.heap[W.heap.size]? = some (.deferred (some []))) (fun b => S0 b ∨ b = l)
    (fun i Sf A B ⟨S, q1, q2, q3, q4⟩ hb => ⟨S, hI i S A B q1 (Turn.of_below hb), (hb.block _ (heap_lt q2)).trans q2, (hb.block _ (heap_lt q3)).trans q3, q4⟩)
    (fun Sf A B ⟨S, q1, q2, q3⟩ hb => ⟨S, hIx S A B q1 (Turn.of_below hb), (hb.block _ (heap_lt q2)).trans q2, (hb.block _ (heap_lt q3)).trans q3⟩)
    (fun i Sf A ⟨S, q1, q2, q3, q4⟩ b hb => by
      rcases (q4 b).1 hb with h | rfl
      · exact (hIS i S A q1 b h).lt
      · exact heap_lt q2)
    (fun i x Sf A hx ⟨S, q1, q2, q3, q4⟩ => by
      have hy := run_yield (P := P) (args := #[enc x]) q2 rfl
      have htm : ((rc .ready none).params.zip #[enc x]).foldl (fun tmps (t, a) => tmps.setIfInBounds t a) (rc .ready none).tmps = a.tmps.setIfInBounds t (enc x) := by
        rw [← Array.foldl_toList]; simp [rc]
      rw [htm] at hy
      refine ⟨fn, _, assign, body, hy, roundIn_of_wpIn hfn ?_⟩
      refine wpIn_mono (hround l i x S A (by omega) hx q1) ?_
      intro e a1 A2 hq
      cases e with
      | normal =>
        obtain ⟨hbel, hbody⟩ := hq
        have hSn : ∀ b o, A.heap[b]? = some o → (∀ c ty m, o ≠ .cells c ty m) → ¬ S b := fun b o ho hc hS => by
          obtain ⟨c, ty, m, h'⟩ := hIS i S A q1 b hS
          rw [ho] at h'; cases h'; exact hc _ _ _ rfl
        have nl : ¬ S l := hSn l _ q2 (by intros; simp)
        have nd : ¬ S W.heap.size := hSn _ _ q3 (by intros; simp)
        have ll : ¬ A.heap.size ≤ l := Nat.not_le_of_lt (heap_lt q2)
        have ld : ¬ A.heap.size ≤ W.heap.size := Nat.not_le_of_lt (heap_lt q3)
        have q2' : A2.heap[l]? = some (.loop (rc .ready none)) := (hbel.block _ (heap_lt q2) nl).trans q2
        have q3' : A2.heap[W.heap.size]? = some (.deferred (some [])) := (hbel.block _ (heap_lt q3) nd).trans q3
        refine ⟨_, run_beginRound q2' rfl, ?_⟩
        refine wpIn_mono (hbody _ (Turn.put q2' (by omega) (by intros; simp)) ⟨rfl, rfl, rfl, by simp, fun k hk hne => World.putObj_heap_other hne⟩) ?_
        have hlt : l < A2.heap.size := heap_lt q2'
        -- the record, busy
        have hbusy : (A2.putObj l (.loop (rc .busy none))).heap[l]? = some (.loop (rc .busy none)) := World.putObj_heap_same hlt
        have hdb : (A2.putObj l (.loop (rc .busy none))).heap[W.heap.size]? = some (.deferred (some [])) := (World.putObj_heap_other (by omega)).trans q3'
        have nl' : ¬ (S l ∨ A.heap.size ≤ l) := fun h => h.elim nl ll
        have nd' : ¬ (S W.heap.size ∨ A.heap.size ≤ W.heap.size) := fun h => h.elim nd ld
        have kept : ∀ (A4 : World) (o : Obj), Kept (A2.putObj l (.loop (rc .busy none))) (fun b => S b ∨ A.heap.size ≤ b) A4 → Kept A Sf (A4.putObj l o) := fun A4 o hk => by
          have hs0 := hbel.size
          refine ⟨hk.os.trans hbel.os, hk.tape.trans hbel.tape, hk.output.trans hbel.output, ?_, fun k hlk hn => ?_⟩
          · have := hk.size; simp at this ⊢; omega
          · have h1 : k ≠ l := fun e => hn ((q4 k).2 (.inr e))
            have h2 : ¬ S k := fun h => hn ((q4 k).2 (.inl h))
            rw [World.putObj_heap_other h1, hk.block k (by simp; omega) (fun h => h.elim h2 (fun h => absurd h (Nat.not_le_of_lt hlk))), World.putObj_heap_other h1]
            exact hbel.block k hlk h2
        intro e a4 A4 hp
        cases e with
        | normal =>
          obtain ⟨S', i1, i2, i3⟩ := hp
          have hl4 : A4.heap[l]? = some (.loop (rc .busy none)) := (i2.block l (heap_lt hbusy) nl').trans hbusy
          have hd4 : A4.heap[W.heap.size]? = some (.deferred (some [])) := (i2.block _ (heap_lt hdb) nd').trans hdb
          refine ⟨_, _, run_endRound none hl4, .inl ⟨rfl, fun b => S' b ∨ b = l, ⟨S', hI _ _ _ _ i1 (Turn.put hl4 (by omega) (by intros; simp)), World.putObj_heap_same (heap_lt hl4), (World.putObj_heap_other (by omega)).trans hd4, fun _ => Iff.rfl⟩, kept A4 _ i2, fun b hb => ?_⟩⟩
          rcases hb with hb | rfl
          · exact (i3 b hb).imp (fun h => (q4 b).2 (.inl h)) id
          · exact .inl ((q4 _).2 (.inr rfl))
        | ret =>
          obtain ⟨S', i1, i2⟩ := hp
          have hl4 : A4.heap[l]? = some (.loop (rc .busy none)) := (i2.block l (heap_lt hbusy) nl').trans hbusy
          have hd4 : A4.heap[W.heap.size]? = some (.deferred (some [])) := (i2.block _ (heap_lt hdb) nd').trans hdb
          exact ⟨_, _, run_endRound (some .ret) hl4, .inr ⟨rfl, fun b => S' b ∨ b = l, ⟨S', hIx _ _ _ i1 (Turn.put hl4 (by omega) (by intros; simp)), World.putObj_heap_same (heap_lt hl4), (World.putObj_heap_other (by omega)).trans hd4⟩, kept A4 _ i2⟩⟩
        | exit id => exact hp.elim
        | goto t => exact hp.elim
        | panic ch => exact hp.elim
        | outgrown => exact hp.elim
      | ret => exact hq.elim
      | exit id => exact hq.elim
      | goto t => exact hq.elim
      | panic ch => exact hq.elim
      | outgrown => exact hq.elim)
    ⟨S0, hI _ _ _ _ h0 (Turn.of_below hb1), hl1, hd1, fun _ => Iff.rfl⟩
  refine ⟨l, [mark W.heap.size], W1, { target := .fn (.func gf) lb.toArray, args := #[.func (.yield l) #[] #[]] }, W1, gf, #[.func (.yield l) #[] #[]] ++ lb.toArray, W1, ?_, ?_, ?_, ?_, ?_, ?_⟩
  · exact run_enterLoop_outer _ _ _ _ _
  · simp only [resolve, hg]
    simp [go_sem]
  · intro f' _; trivial
  · simp only [invoke]; rw [hE]
  · intro h; simp [Fw] at h
  · refine callsIn_Fw.2 (hcal.mono fun e W2 hp => ?_)
    obtain ⟨⟨v, rfl⟩, S', hJ, _⟩ := hp
    rcases hJ with ⟨S, q1, q2, q3, _⟩ | ⟨S, q1, q2, q3⟩
    · exact ⟨none, _, run_endLoop q2 (by simp [rc]), hdone _ _ _ (Nat.le_refl _) (hI _ _ _ _ q1 (Turn.put q2 (by omega) (by intros; simp))) ((World.putObj_heap_other (by omega)).trans q3)⟩
    · exact ⟨some .ret, _, run_endLoop q2 (by simp [rc]), wpIn_ret (hstop _ _ _ (Nat.le_refl _) (hIx _ _ _ q1 (Turn.put q2 (by omega) (by intros; simp))) ((World.putObj_heap_other (by omega)).trans q3))⟩
end
end Go.Aw
