/-
  A symbolic executor for the model's code, part O: running code up to a loop or the end. Generic in the program. No premise.
-/
import Derived.Test.YtopbnnmkdildgaaAwN
namespace Go.Aw
open Go.RowKit
set_option linter.unusedVariables false
set_option linter.unusedSimpArgs false

/-- What is to be done: code; the end of a block; a loop that may go on for at most m rounds. -/
inductive K where
  | c (x : Code)
  | b (id : Nat)
  | l (body : Code) (m : Nat)
  | s (body : Code) (m : Nat)     -- the end of a scope; at most m jumps to a label of it

/-- How a scope's body may be left, where it jumps at most m times to a label of its own. -/
def ScopeR (F : Fence) (n : Nat) (P : Program) (c : Code) (Q : Exit → Act → World → Prop) : Nat → Exit → Act → World → Prop
  | 0, e, a, w => match e with
    | .goto _ => False
    | e => Q e a w
  | m + 1, e, a, w => match e with
    | .goto l => ∃ rest, findLabel c l = some rest ∧ rest.wpIn F n P (ScopeR F n P c Q m) a w
    | e => Q e a w

theorem ScopeR_other {F : Fence} {n : Nat} {P : Program} {c : Code} {Q : Exit → Act → World → Prop} {m : Nat} {e : Exit} {a : Act} {w : World} (h : ∀ l, e ≠ .goto l) : ScopeR F n P c Q m e a w = Q e a w := by
  cases m <;> cases e <;> first | rfl | exact absurd rfl (h _)

theorem stepR_scope {P : Program} {b : Frame} {a : Act} {k : List Item} {cs : List Frame} {w : World} {c : Code} : step P (lone (b.atR a (.code (.scope c) :: k)) cs w) = .next (lone (b.atR a (.code c :: .inScope c :: k)) cs w) :=
  step_lone_go (by simp [stepG, stepG.exec, Frame.atR])
theorem stepR_inScope {P : Program} {b : Frame} {a : Act} {k : List Item} {cs : List Frame} {w : World} {c : Code} : step P (lone (b.atR a (.inScope c :: k)) cs w) = .next (lone (b.atR a k) cs w) :=
  step_lone_go (by simp [stepG, stepG.exec, Frame.atR])

theorem wpIn_scope {F : Fence} {n : Nat} {P : Program} {c : Code} {Q : Exit → Act → World → Prop} {a : Act} {w : World} (m : Nat) (h : c.wpIn F n P (ScopeR F n P c Q m) a w) : (Code.scope c).wpIn F n P Q a w := by
  intro b k cs hro hb hr
  have key : ∀ m (c' : Code) a w, c'.wpIn F n P (ScopeR F n P c Q m) a w → ∃ e a' w', Q e a' w' ∧ ArrivesIn (Machine.fenced P F) P (lone (b.atR a (.code c' :: .inScope c :: k)) cs w) b k cs e a' w' := by
    intro m
    induction m with
    | zero =>
      intro c' a w h
      obtain ⟨e, a₁, w₁, hq, harr⟩ := h b (.inScope c :: k) cs hro hb hr
      cases e with
      | normal => exact ⟨.normal, a₁, w₁, hq, StepsIn.trans harr (.one (fenced_calm hb hr rfl) stepR_inScope)⟩
      | exit id => exact ⟨.exit id, a₁, w₁, hq, fun k' hk => harr.1 k' (by simp [exitTo, hk]), fun hr' hk => harr.2 hr' (by simp [exitTo, hk])⟩
      | goto l => exact hq.elim
      | ret => exact ⟨_, a₁, w₁, hq, harr⟩
      | panic ch => exact ⟨_, a₁, w₁, hq, harr⟩
      | outgrown => exact ⟨_, a₁, w₁, hq, harr⟩
    | succ m ih =>
      intro c' a w h
      obtain ⟨e, a₁, w₁, hq, harr⟩ := h b (.inScope c :: k) cs hro hb hr
      cases e with
      | normal => exact ⟨.normal, a₁, w₁, hq, StepsIn.trans harr (.one (fenced_calm hb hr rfl) stepR_inScope)⟩
      | exit id => exact ⟨.exit id, a₁, w₁, hq, fun k' hk => harr.1 k' (by simp [exitTo, hk]), fun hr' hk => harr.2 hr' (by simp [exitTo, hk])⟩
      | goto l =>
        obtain ⟨rest, hf, hq⟩ := hq
        have hg : gotoIn l (.inScope c :: k) = some (.code rest :: .inScope c :: k) := by simp [gotoIn, hf]
        obtain ⟨e₂, a₂, w₂, hq₂, harr₂⟩ := ih rest a₁ w₁ hq
        exact ⟨e₂, a₂, w₂, hq₂, .of_steps (harr.1 _ hg) harr₂⟩
      | ret => exact ⟨_, a₁, w₁, hq, harr⟩
      | panic ch => exact ⟨_, a₁, w₁, hq, harr⟩
      | outgrown => exact ⟨_, a₁, w₁, hq, harr⟩
  obtain ⟨e, a', w', hq, harr⟩ := key m c a w h
  exact ⟨e, a', w', hq, .of_steps (.one (fenced_calm hb hr rfl) stepR_scope) harr⟩

def cont (r : Option Nat) (n : Nat) (P : Program) (Q : Exit → Act → World → Prop) : List K → Exit → Act → World → Prop
  | [], e => Q e
  | .c x :: k, e => match e with
    | .normal => x.wpIn (Fw r) n P (cont r n P Q k)
    | e => cont r n P Q k e
  | .b id :: k, e => match e with
    | .exit id' => if id == id' then cont r n P Q k .normal else cont r n P Q k (.exit id')
    | e => cont r n P Q k e
  | .l body m :: k, e => match e with
    | .normal => Code.roundsIn (Fw r) n P body (cont r n P Q k) m
    | e => cont r n P Q k e
  | .s body m :: k, e => ScopeR (Fw r) n P body (cont r n P Q k) m e

def unwindK (id : Nat) : List K → Option (List K)
  | [] => none
  | .b id' :: k => if id' == id then some k else unwindK id k
  | .c _ :: k => unwindK id k
  | .l _ _ :: k => unwindK id k
  | .s _ _ :: k => unwindK id k

inductive Out where
  | ret (s : LS)
  | norm (s : LS)
  | enter (body : Code) (k : List K) (s : LS)
  | back (body : Code) (m : Nat) (k : List K) (s : LS)
  | at (x : Code) (k : List K) (s : LS)

/-- The oracle says that the run is to stop at this region. -/
def stops (id : Nat) : List Or → Option (List Or)
  | .stop j :: orc => if j = id then some orc else none
  | _ => none

def run (T : Nat → Option TI) : Nat → List K → LS → List Or → Option (Out × List Ob × List Or)
  | 0, _, _, _ => none
  | f + 1, k, s, orc =>
    match k with
    | [] => some (.norm s, [], orc)
    | .b _ :: k => run T f k s orc
    | .s _ _ :: k => run T f k s orc
    | .l body m :: k => match orc with
      | .un _ :: orc' => match m with
        | m + 1 => run T f (.c body :: .l body m :: k) s orc'
        | 0 => none
      | _ => some (.back body m k s, [], orc)
    | .c x :: k =>
      match x with
      | .skip => run T f k s orc
      | .label _ => run T f k s orc
      | .seq a b => run T f (.c a :: .c b :: k) s orc
      | .block id c => run T f (.c c :: .b id :: k) s orc
      | .exit id => match unwindK id k with
        | some k' => run T f k' s orc
        | none => none
      | .ret => some (.ret s, [], orc)
      | .loop body => match orc with
        | .un m :: orc' => run T f (.c body :: .l body m :: k) s orc'
        | _ => some (.enter body k s, [], orc)
      | .cond c a b => match ev s.fs.sl c with
        | .b d => run T f (.c (match d with | true => a | false => b) :: k) s orc
        | .v (.bool x) => match orc with
          | .d d :: orc => match run T f (.c (match d with | true => a | false => b) :: k) s orc with
            | some (o, obs, orc) => some (o, .eq x d :: obs, orc)
            | none => none
          | _ => none
        | _ => none
      | .region id ops draw => match stops id orc with
        | some orc' => some (.at (.region id ops draw) k s, [], orc')
        | none => match evOps T ops ops.toList 0 s orc with
          | some (evs, s', obs, orc) => if (!draw || raceOK ops evs) = true then
              match run T f k s' orc with
              | some (o, obs', orc) => some (o, obs ++ obs', orc)
              | none => none
            else none
          | none => none
      | .scope x => match orc with
        | .un m :: orc' => run T f (.c x :: .s x m :: k) s orc'
        | _ => none
      | .goto l => some (.at (.goto l) k s, [], orc)
      | .rangeFunc g ps x y => some (.at (.rangeFunc g ps x y) k s, [], orc)
      | _ => none

section
variable {P : Program} {T : Nat → Option TI} {cx : Cx} {D : List Deferred} {r : Option Nat} {n : Nat} {Q : Exit → Act → World → Prop}

/-- From whatever state that s stands for, what is to be done comes to its end as Q asks. -/
def Good (P : Program) (r : Option Nat) (n : Nat) (Q : Exit → Act → World → Prop) (cx : Cx) (D : List Deferred) (k : List K) (s : LS) : Prop :=
  ∀ (ρ : Env) (a : Act) (W : World), Rep cx s.sl.length D ρ s.fs a W → cont r n P Q k .normal a W

def GoodAt (Q : Exit → Act → World → Prop) (e : Exit) (cx : Cx) (D : List Deferred) (s : LS) : Prop := ∀ (ρ : Env) (a : Act) (W : World), Rep cx s.sl.length D ρ s.fs a W → Q e a W

def OutGood (P : Program) (r : Option Nat) (n : Nat) (Q : Exit → Act → World → Prop) (cx : Cx) (D : List Deferred) : Out → Prop
  | .ret s => GoodAt Q .ret cx D s
  | .norm s => GoodAt Q .normal cx D s
  | .enter body k s => ∃ m, Good P r n Q cx D (.l body m :: k) s
  | .back body m k s => Good P r n Q cx D (.l body m :: k) s
  | .at x k s => Good P r n Q cx D (.c x :: k) s

theorem cont_other {k : List K} {e : Exit} (h : e ≠ .normal) (hx : ∀ id, e ≠ .exit id) (hg : ∀ l, e ≠ .goto l) : cont r n P Q k e = Q e := by
  induction k with
  | nil => rfl
  | cons x k ih =>
    cases x with
    | s body m => funext a w; simp only [cont]; rw [ScopeR_other hg, ih]
    | _ => cases e <;> simp_all [cont]

theorem cont_exit {id : Nat} {a : Act} {W : World} : ∀ {k k' : List K}, unwindK id k = some k' → cont r n P Q k' .normal a W → cont r n P Q k (.exit id) a W
  | [], k', h, _ => by simp [unwindK] at h
  | .b id' :: k, k', h, hg => by
    simp only [unwindK] at h
    simp only [cont]
    split at h
    · rename_i hid
      simp only [Option.some.injEq] at h; subst h
      rw [if_pos hid]; exact hg
    · rename_i hid
      rw [if_neg hid]; exact cont_exit h hg
  | .c _ :: k, k', h, hg => by simp only [unwindK] at h; simp only [cont]; exact cont_exit h hg
  | .l _ _ :: k, k', h, hg => by simp only [unwindK] at h; simp only [cont]; exact cont_exit h hg
  | .s _ _ :: k, k', h, hg => by simp only [unwindK] at h; simp only [cont]; rw [ScopeR_other (by simp)]; exact cont_exit h hg

/-- One round more. -/
theorem good_round {body : Code} {m : Nat} {k : List K} {s : LS} (h : Good P r n Q cx D (.c body :: .l body m :: k) s) : Good P r n Q cx D (.l body (m + 1) :: k) s := by
  intro ρ a W hrep
  have := h ρ a W hrep
  simp only [cont] at this ⊢
  rw [roundsIn_succ]
  refine wpIn_mono this (fun e a w hq => ?_)
  cases e <;> simpa [cont, Exit.then] using hq

/-- A jump to a label of the scope. -/
theorem good_jump {c rest : Code} {l m : Nat} {k : List K} {s : LS} (hf : findLabel c l = some rest) (h : Good P r n Q cx D (.c rest :: .s c m :: k) s) : Good P r n Q cx D (.c (.goto l) :: .s c (m + 1) :: k) s := by
  intro ρ a W hrep
  have := h ρ a W hrep
  simp only [cont] at this ⊢
  exact wpIn_goto ⟨rest, hf, this⟩

theorem run_ok (hT : TOk P T) (hm : P.follows .mixedOrders = true) : ∀ (f : Nat) (k : List K) (s : LS) (orc : List Or) (out : Out) (obs : List Ob) (orc' : List Or), run T f k s orc = some (out, obs, orc') → Obs P obs →
    OutGood P r n Q cx D out → Good P r n Q cx D k s
  | 0, _, _, _, _, _, _, h, _, _ => by simp [run] at h
  | f + 1, [], s, orc, out, obs, orc', h, _, hg => by
    simp only [run, Option.some.injEq, Prod.mk.injEq] at h
    obtain ⟨rfl, _, _⟩ := h
    exact hg
  | f + 1, .b id :: k, s, orc, out, obs, orc', h, ho, hg => by
    simp only [run] at h
    have := run_ok hT hm f k s orc out obs orc' h ho hg
    exact fun ρ a W hrep => this ρ a W hrep
  | f + 1, .s body m :: k, s, orc, out, obs, orc', h, ho, hg => by
    simp only [run] at h
    have := run_ok hT hm f k s orc out obs orc' h ho hg
    exact fun ρ a W hrep => by
      simp only [cont]; rw [ScopeR_other (by simp)]; exact this ρ a W hrep
  | f + 1, .l body m :: k, s, orc, out, obs, orc', h, ho, hg => by
    simp only [run] at h
    split at h
    · split at h
      · rename_i m
        exact good_round (run_ok hT hm f _ s _ out obs orc' h ho hg)
      · cases h
    · simp only [Option.some.injEq, Prod.mk.injEq] at h
      obtain ⟨rfl, _, _⟩ := h
      exact hg
  | f + 1, .c x :: k, s, orc, out, obs, orc', h, ho, hg => by
    simp only [run] at h
    split at h
    · -- skip
      have := run_ok hT hm f k s orc out obs orc' h ho hg
      exact fun ρ a W hrep => wpIn_skip (this ρ a W hrep)
    · -- label
      have := run_ok hT hm f k s orc out obs orc' h ho hg
      exact fun ρ a W hrep => wpIn_label (this ρ a W hrep)
    · -- seq
      rename_i x y
      have := run_ok hT hm f (.c x :: .c y :: k) s orc out obs orc' h ho hg
      intro ρ a W hrep
      have := this ρ a W hrep
      simp only [cont] at this ⊢
      refine wpIn_seq (wpIn_mono this fun e a w hq => ?_)
      cases e <;> simpa [cont, Exit.then] using hq
    · -- block
      rename_i id c
      have := run_ok hT hm f (.c c :: .b id :: k) s orc out obs orc' h ho hg
      intro ρ a W hrep
      have := this ρ a W hrep
      simp only [cont] at this ⊢
      refine wpIn_block (wpIn_mono this fun e a w hq => ?_)
      cases e <;> simp only [cont, Exit.inBlock] at hq ⊢ <;> try exact hq
      rename_i id'
      by_cases hid : id = id'
      · subst hid; simpa using hq
      · have h1 : (id == id') = false := by simpa using hid
        have h2 : (id' == id) = false := by simpa using fun e => hid e.symm
        simp only [h1, h2, Bool.false_eq_true, if_false] at hq ⊢
        first | exact hq | (rw [if_neg (fun e => hid e.symm)]; exact hq) | (rw [if_neg hid]; exact hq)
    · -- exit
      rename_i id
      split at h
      · rename_i k' hk'
        have := run_ok hT hm f k' s orc out obs orc' h ho hg
        exact fun ρ a W hrep => wpIn_exit (cont_exit hk' (this ρ a W hrep))
      · cases h
    · -- ret
      simp only [Option.some.injEq, Prod.mk.injEq] at h
      obtain ⟨rfl, _, _⟩ := h
      intro ρ a W hrep
      simp only [cont]
      refine wpIn_ret ?_
      rw [cont_other (by simp) (by simp) (by simp)]
      exact hg ρ a W hrep
    · -- loop
      rename_i body
      split at h
      · rename_i m orc2
        have := good_round (run_ok hT hm f _ s orc2 out obs orc' h ho hg)
        exact fun ρ a W hrep => wpIn_loop_rounds (m + 1) (this ρ a W hrep)
      · simp only [Option.some.injEq, Prod.mk.injEq] at h
        obtain ⟨rfl, _, _⟩ := h
        obtain ⟨m, hg⟩ := hg
        exact fun ρ a W hrep => wpIn_loop_rounds m (hg ρ a W hrep)
    · -- cond
      rename_i c x y
      split at h
      · rename_i d hc
        have := run_ok hT hm f _ s orc out obs orc' h ho hg
        intro ρ a W hrep
        have hr := ev_rel hrep c
        rw [hc] at hr
        simp only [Rel] at hr
        have := this ρ a W hrep
        simp only [cont] at this ⊢
        refine wpIn_cond hr ?_
        cases d <;> exact this
      · rename_i b hc
        split at h
        · rename_i d orc2
          split at h
          · rename_i o' obs' orc3 hrun
            simp only [Option.some.injEq, Prod.mk.injEq] at h
            obtain ⟨rfl, rfl, rfl⟩ := h
            obtain ⟨h1, h2⟩ := ho
            simp only [Ob.Holds] at h1
            have := run_ok hT hm f _ s orc2 o' obs' orc3 hrun h2 hg
            intro ρ a W hrep
            have hr := ev_rel hrep c
            rw [hc] at hr
            simp only [Rel] at hr
            have := this ρ a W hrep
            simp only [cont] at this ⊢
            refine wpIn_cond hr ?_
            rw [h1]
            cases d <;> exact this
          · cases h
        · cases h
      · cases h
    · -- region
      rename_i id ops draw
      split at h
      · simp only [Option.some.injEq, Prod.mk.injEq] at h
        obtain ⟨rfl, _, _⟩ := h
        exact hg
      · split at h
        · rename_i evs s' obs1 orc1 hev
          split at h
          · rename_i hrace
            split at h
            · rename_i o' obs2 orc2 hrun
              simp only [Option.some.injEq, Prod.mk.injEq] at h
              obtain ⟨rfl, rfl, rfl⟩ := h
              obtain ⟨h1, h2⟩ := Obs.append ho
              have := run_ok hT hm f k s' orc1 o' obs2 orc2 hrun h2 hg
              intro ρ a W hrep
              simp only [cont]
              exact region_sound hT hm hev h1 (fun hd => by subst hd; simpa using hrace) hrep (fun ρ' a' W' h' => this ρ' a' W' h')
            · cases h
          · cases h
        · cases h
    · -- scope
      rename_i x
      split at h
      · rename_i m orc2
        have := run_ok hT hm f (.c x :: .s x m :: k) s orc2 out obs orc' h ho hg
        intro ρ a W hrep
        have := this ρ a W hrep
        simp only [cont] at this ⊢
        exact wpIn_scope m this
      · cases h
    · -- goto
      simp only [Option.some.injEq, Prod.mk.injEq] at h
      obtain ⟨rfl, _, _⟩ := h
      exact hg
    · -- a range over a function
      simp only [Option.some.injEq, Prod.mk.injEq] at h
      obtain ⟨rfl, _, _⟩ := h
      exact hg
    · cases h

end
end Go.Aw
