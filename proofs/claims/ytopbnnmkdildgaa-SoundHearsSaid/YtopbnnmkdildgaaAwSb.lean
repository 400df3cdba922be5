/-
  A symbolic executor for the model's code, part Sb: iterators: functions that call a yield, or one another. Generic in the program. No premise.
-/
import Derived.Test.YtopbnnmkdildgaaAwSa
namespace Go.Aw
open Go.RowKit
set_option linter.unusedVariables false
set_option linter.unusedSimpArgs false

section
variable {P : Program} {T : Nat → Option TI} {cx : Cx} {N : Nat} {D : List Deferred} {ρ : Env} {s : FS} {a : Act} {W : World} {r : Option Nat} {n : Nat}

/-- Part of a region, in the text's order. -/
theorem ops_pre (hT : TOk P T) {ops : Array Oper} {Q : Exit → Act → World → Prop} {rest : List Nat} : ∀ (l : List Oper) (i : Nat) (s s' : LS) (orc orc' : List Or) (evs : List Ev) (obs : List Ob), evOps T ops l i s orc = some (evs, s', obs, orc') → Obs P obs →
    (∀ j o, l[j]? = some o → ops[i + j]? = some o) → ∀ (ρ : Env) (a : Act) (W : World), Rep cx s.sl.length D ρ s.fs a W →
    (∀ ρ' a' W', Rep cx s.sl.length D ρ' s'.fs a' W' → s'.sl.length = s.sl.length → wpOpsIn (Fw r) n P ops Q rest a' W') → wpOpsIn (Fw r) n P ops Q (List.range' i l.length ++ rest) a W
  | [], i, s, s', orc, orc', evs, obs, h, _, _, ρ, a, W, hrep, hK => by
    simp only [evOps, Option.some.injEq, Prod.mk.injEq] at h
    obtain ⟨_, rfl, _, _⟩ := h
    simpa using hK ρ a W hrep rfl
  | o :: l, i, s, s', orc, orc', evs, obs, h, hob, hl, ρ, a, W, hrep, hK => by
    simp only [evOps] at h
    split at h
    · cases h
    · rename_i v obs1 orc1 hv
      split at h
      · cases h
      · rename_i s1 happ
        split at h
        · cases h
        · rename_i vs s2 obs2 orc2 hrest
          simp only [Option.some.injEq, Prod.mk.injEq] at h
          obtain ⟨rfl, rfl, rfl, rfl⟩ := h
          obtain ⟨ho1, ho2⟩ := Obs.append hob
          have hi : ops[i]? = some o := by have := hl 0 o (by simp); simpa using this
          obtain ⟨hfs, hd, hlen⟩ := app_fs happ
          have hdst : dstOf ops i = o.dst := by simp [dstOf, hi]
          rw [List.length_cons, List.range'_succ, List.cons_append, wpOpsIn_cons]
          refine evOp_ok (r := r) (n := n) (w0 := cx) (D := D) hT hv ho1 hi hd s.fs (fun _ _ => rfl) (fun _ _ => rfl) ρ a W Q _ hrep (fun ρ' a' W' h' => ?_)
          rw [hdst, ← hfs] at h'
          refine ops_pre hT l (i + 1) s1 s2 orc1 orc2 vs obs2 hrest ho2 (fun j o' hj => ?_) ρ' a' W' (by rw [hlen]; exact h') (fun ρ'' a'' W'' h'' e'' => hK ρ'' a'' W'' (by rw [hlen] at h''; exact h'') (e''.trans hlen))
          rw [show i + 1 + j = i + (j + 1) by omega]; exact hl (j + 1) o' (by simpa using hj)

/-! ### Behind a call that another's blocks may have been written by -/
def BK.frz : BK → BK
  | .live _ sym cells => .live false sym cells
  | x => x

theorem Rep.freeze (h : Rep cx N D ρ s a W) {W' : World} {S : Nat → Prop} (hk : Kept W S W') (hS : ∀ k own sym cells, s.bk k = .live own sym cells → ∀ b o n, ρ k = some (b, o, n) → ¬ S b) (base : Nat) (hb : ∀ i, i < base → s.bk i ≠ .un) :
    Rep (Cx.only base W' ρ (fun _ => False)) N D ρ ⟨s.sl, fun k => (s.bk k).frz⟩ a W' := by
  have hun : ∀ k, s.bk k ≠ .un → (s.bk k).frz ≠ .un := fun k hk => by cases hx : s.bk k <;> simp_all [BK.frz]
  have cell : ∀ b o x, ¬ S b → W.cell? ⟨b, o, Option.none⟩ = some x → W'.cell? ⟨b, o, Option.none⟩ = some x := fun b o x hb hx => by
    have := hk.block b (isCellsAt_of_cell hx).lt hb
    simp only [World.cell?] at hx ⊢
    rw [this]; exact hx
  refine { defs := h.defs, size := h.size, sl := h.sl, bk := fun k => ?_, apart := fun i j b n b' n' hij hi hj => ?_, wf1 := fun t k hk => hun k (h.wf1 t k hk), wf2 := fun j k hk => hun k (h.wf2 j k ?_), kept := Kept.refl _ _, pl := fun k => ?_, old := fun i hi => ⟨rfl, hun i (hb i hi)⟩ }
  · have hbk := h.bk k
    show BRep ρ (Cx.only base W' ρ fun x => False).mine W' k (s.bk k).frz
    cases hx : s.bk k with
    | un => trivial
    | dead => trivial
    | live own sym cells =>
      rw [hx] at hbk
      simp only [BK.frz]
      cases own with
      | true =>
        rcases hbk with hbk | ⟨b, vs, rest, ty, h1, h2, h3, h4⟩
        · exact .inl hbk
        · refine .inr ⟨b, 0, _, vs, h1, ⟨by simp, fun _ hM => ?_⟩, h3, fun i x hi => ?_⟩
          · rcases hM with hM | hM
            · exact absurd (Nat.le_trans hk.size hM) (Nat.not_le_of_lt (heap_lt h4))
            · exact hM
          · refine cell b _ x (hS k _ _ _ hx b _ _ h1) ?_
            have hlt : i < vs.length := (List.getElem?_eq_some_iff.1 hi).1
            simp [World.cell?, h4, List.getElem?_append_left hlt, hi]
      | false =>
        rcases hbk with hbk | ⟨b, o, n, vs, h1, h2, h3, h4⟩
        · exact .inl hbk
        · refine .inr ⟨b, o, n, vs, h1, ⟨h2.1, fun hne hM => ?_⟩, h3, fun i x hi => cell b _ x (hS k _ _ _ hx b _ _ h1) (h4 i x hi)⟩
          obtain ⟨x, vs', rfl⟩ := List.exists_cons_of_ne_nil hne
          have hlt := (isCellsAt_of_cell (h4 0 x (by simp))).lt
          rcases hM with hM | hM
          · exact absurd (Nat.le_trans hk.size hM) (Nat.not_le_of_lt hlt)
          · exact hM
  · cases hx : s.bk i <;> simp only [hx, BK.frz] at hi <;> exact hi.elim
  · cases hx : s.bk j <;> simp only [hx, BK.frz, BK.has] at hk ⊢ <;> exact hk
  · have := h.pl k
    show (s.bk k).frz.pl
    cases hx : s.bk k with
    | un => trivial
    | dead => trivial
    | live own sym cells => rw [hx] at this; cases sym <;> exact this

/-! ### Between two calls of an iterator's -/
structure Seg (J : Nat → (Nat → Prop) → World → Prop) (W : World) (S : Nat → Prop) (i : Nat) (cx : Cx) (Sc : Nat → Prop) : Prop where
  j : J i Sc cx.w
  kept : Kept W S cx.w
  sub : ∀ b, Sc b → S b ∨ W.heap.size ≤ b
  apart : ∀ k b o n, k < cx.base → cx.ρ k = some (b, o, n) → ¬ Sc b
  own : ∀ b, ¬ cx.own b

structure SegX (Jx : (Nat → Prop) → World → Prop) (W : World) (S : Nat → Prop) (cx : Cx) : Prop where
  j : ∃ Sc, Jx Sc cx.w
  kept : Kept W S cx.w
  own : ∀ b, ¬ cx.own b

/-- What a call of an iterator's part comes to: it has gone on to m, or it has been told to stop. -/
def VR (J : Nat → (Nat → Prop) → World → Prop) (Jx : (Nat → Prop) → World → Prop) (m : Nat) (S : Nat → Prop) (W : World) (e : Ending) (W' : World) : Prop :=
  (e = .returned (.bool true) ∧ ∃ S', J m S' W' ∧ Kept W S W' ∧ ∀ b, S' b → S b ∨ W.heap.size ≤ b) ∨
  (e = .returned (.bool false) ∧ ∃ S', Jx S' W' ∧ Kept W S W')

def GrowsJ (J : Nat → (Nat → Prop) → World → Prop) : Prop := ∀ i S W W', J i S W → Below W.heap.size W W' → J i S W'
def GrowsX (Jx : (Nat → Prop) → World → Prop) : Prop := ∀ S W W', Jx S W → Below W.heap.size W W' → Jx S W'
def BoundJ (J : Nat → (Nat → Prop) → World → Prop) : Prop := ∀ i S W, J i S W → ∀ b, S b → b < W.heap.size

def liveC : BK → Bool
  | .live _ _ (_ :: _) => true
  | _ => false

/-- All blocks that may only be read were handed over. -/
def roBelow (base : Nat) : Nat → List BK → Bool
  | _, [] => true
  | i, .live false _ _ :: l => decide (i < base) && roBelow base (i + 1) l
  | i, _ :: l => roBelow base (i + 1) l

theorem roBelow_get {base : Nat} : ∀ {l : List BK} {i : Nat}, roBelow base i l = true → ∀ k sym cells, l[k]? = some (.live false sym cells) → i + k < base
  | [], i, _, k, _, _, h => by simp at h
  | x :: l, i, hr, k, sym, cells, h => by
    have hl : roBelow base (i + 1) l = true ∧ (∀ sym cells, x = .live false sym cells → i < base) := by
      cases x with
      | un => simp only [roBelow] at hr; exact ⟨hr, fun _ _ h => by cases h⟩
      | dead => simp only [roBelow] at hr; exact ⟨hr, fun _ _ h => by cases h⟩
      | live own sy cs => cases own with
        | true => simp only [roBelow] at hr; exact ⟨hr, fun _ _ h => by cases h⟩
        | false => simp only [roBelow, Bool.and_eq_true, decide_eq_true_eq] at hr; exact ⟨hr.2, fun _ _ _ => hr.1⟩
    cases k with
    | zero => simp at h; exact hl.2 _ _ h
    | succ k => have := roBelow_get hl.1 k sym cells (by simpa using h); omega

theorem Seg.safe {J : Nat → (Nat → Prop) → World → Prop} (hB : BoundJ J) {W0 : World} {S Sc : Nat → Prop} {i : Nat} (h : Seg J W0 S i cx Sc) {s : LS} (hr : Rep cx N D ρ s.fs a W) (hro : roBelow cx.base 0 s.bk = true) :
    ∀ k own sym cells, s.fs.bk k = .live own sym cells → ∀ b o n, ρ k = some (b, o, n) → ¬ Sc b := by
  intro k own sym cells hk b o n hρ hSc
  have hlt := hB _ _ _ h.j b hSc
  cases own with
  | true =>
    have := hr.bk k
    rw [hk] at this
    rcases this with ⟨q, _⟩ | ⟨b', vs, rest, ty, q1, q2, q3, q4⟩
    · rw [hρ] at q; cases q
    · rw [hρ] at q1; cases q1
      rcases q2 with q2 | q2
      · omega
      · exact h.own _ q2
  | false =>
    have hkb : k < cx.base := by
      have : s.bk[k]? = some (.live false sym cells) := by
        simp only [LS.fs, List.getD_eq_getElem?_getD] at hk
        cases hx : s.bk[k]? with
        | none => rw [hx] at hk; simp at hk
        | some y => rw [hx] at hk; simp at hk; rw [hk]
      have := roBelow_get hro k sym cells this; omega
    rw [(hr.old k hkb).1] at hρ
    exact h.apart k b o n hkb hρ hSc

theorem Seg.call {J : Nat → (Nat → Prop) → World → Prop} {Jx : (Nat → Prop) → World → Prop} (hB : BoundJ J) {W0 : World} {S Sc : Nat → Prop} {i m : Nat} (h : Seg J W0 S i cx Sc) {s : LS} (hr : Rep cx N D ρ s.fs a W) (hro : roBelow cx.base 0 s.bk = true)
    (hlive : s.bk.all liveC = true) {e : Ending} {W' : World} (hv : VR J Jx m Sc W e W') :
    ∃ b cx', e = .returned (.bool b) ∧ cx'.base = s.bk.length ∧ Rep cx' N D ρ ⟨s.fs.sl, fun k => (s.fs.bk k).frz⟩ a W' ∧ (b = true → ∃ Sc', Seg J W0 S m cx' Sc') ∧ (b = false → SegX Jx W0 S cx') := by
  have hsafe := h.safe hB hr hro
  have hlv : ∀ k, k < s.bk.length → ∃ own sym c cs, s.fs.bk k = .live own sym (c :: cs) := fun k hk => by
    have := List.all_eq_true.1 hlive s.bk[k] (by simp)
    rw [show s.fs.bk k = s.bk[k] by simp [LS.fs, List.getD_eq_getElem?_getD, hk]]
    cases hx : s.bk[k] with
    | un => rw [hx] at this; cases this
    | dead => rw [hx] at this; cases this
    | live own sym cells => cases cells with
      | nil => rw [hx] at this; cases this
      | cons c cs => exact ⟨own, sym, c, cs, rfl⟩
  have hun : ∀ k, k < s.bk.length → s.fs.bk k ≠ .un := fun k hk e => by
    obtain ⟨_, _, _, _, h⟩ := hlv k hk
    rw [e] at h; cases h
  have hbel : Below cx.w.heap.size cx.w W := by
    have := hr.kept
    exact ⟨this.os, this.tape, this.output, this.size, fun k hk => this.block k hk (h.own k)⟩
  have hkW : Kept W0 S W := h.kept.grow hbel
  have comp : ∀ {W' : World}, Kept W Sc W' → Kept W0 S W' := fun hk => hkW.trans hk (fun b hb hlt => by
    rcases h.sub b hb with h' | h'
    · exact h'
    · omega)
  rcases hv with ⟨rfl, S', j, k, sub⟩ | ⟨rfl, S', j, k⟩
  · refine ⟨true, Cx.only s.bk.length W' ρ (fun _ => False), rfl, rfl, hr.freeze k hsafe _ hun, fun _ => ⟨S', j, comp k, fun b hb => ?_, fun i b o n hi hρ hS' => ?_, fun b h => h⟩, (fun h => by cases h)⟩
    · rcases sub b hb with h' | h'
      · exact h.sub b h'
      · exact .inr (Nat.le_trans hkW.size h')
    · simp only [Cx.only] at hi hρ
      obtain ⟨own, sym, c, cs, hx⟩ := hlv i hi
      rcases sub b hS' with h' | h'
      · exact hsafe i own sym _ hx b o n hρ h'
      · have hbk := hr.bk i
        rw [hx] at hbk
        rcases hbk.read with ⟨q, _⟩ | ⟨b', o', n', vs, q1, ⟨q2, _⟩, _, q4⟩
        · rw [hρ] at q; cases q
        · rw [hρ] at q1; cases q1
          cases vs with
          | nil => simp [Rels] at q2
          | cons x vs =>
            have := (isCellsAt_of_cell (q4 0 x (by simp))).lt
            omega
  · exact ⟨false, Cx.only s.bk.length W' ρ (fun _ => False), rfl, rfl, hr.freeze k hsafe _ hun, (fun h => by cases h), fun _ => ⟨⟨S', j⟩, comp k, fun b h => h⟩⟩

theorem BRep.ro {M : Nat → Prop} {k : Nat} {sym : Bool} {cells : List SV} (h : BRep ρ M W k (.live false sym cells)) : BRep ρ (fun b => W.heap.size ≤ b) W k (.live false sym cells) := by
  rcases h with h | ⟨b, o, n, vs, h1, h2, h3, h4⟩
  · exact .inl h
  · refine .inr ⟨b, o, n, vs, h1, ⟨h2.1, fun hne hM => ?_⟩, h3, h4⟩
    obtain ⟨x, vs', rfl⟩ := List.exists_cons_of_ne_nil hne
    exact absurd hM (Nat.not_le_of_lt (isCellsAt_of_cell (h4 0 x (by simp))).lt)

/-- A call of a function value. -/
theorem op_call {o : Oper} {f : Operand} {args : Array Operand} {ts : Array TypeId} (hop : o.op = .call { callee := .value f, args := args, argTypes := ts }) {g : Nat} {caps : List Value} {R : Ending → World → Prop}
    (hf : a.eval f = .func (.func g) #[] caps.toArray) (hE : Enters P g) (hc : Calls P g (args.toList.map a.eval ++ caps).toArray W R) {K : Act → World → Prop} {Q : Exit → Act → World → Prop}
    (hK : ∀ e W', R e W' → ∃ v, e = .returned v ∧ K (a.put o.dst v) W') : o.wpIn (Fw r) n P a W K Q := by
  have hnd' : ∀ c, o.op ≠ .defer c := fun c hc => by rw [hop] at hc; cases hc
  have hrun : (execOp a.eval o).run P W = .ok (.enter g (args.toList.map a.eval ++ caps).toArray) W := by
    have e1 : (args.map a.eval) ++ caps.toArray = (args.toList.map a.eval ++ caps).toArray := by apply Array.ext'; simp
    simp only [execOp, hop, resolve, hf, Deferred.ofValue, Sem.run_bind, Sem.run_pure, Result.andThen_ok, invoke]
    simp only [Array.empty_append]
    rw [hE, e1]
  refine ⟨fun _ _ => trivial, ?_⟩
  rw [Oper.semAt_eq _ _ _ hnd', hrun]
  simp only [Oper.uponIn]
  refine ⟨fun h => by simp [Fw] at h, callsIn_Fw.2 (hc.mono fun e w' hR => ?_)⟩
  obtain ⟨v, rfl, h⟩ := hK e w' hR
  exact h

/-- A call of yield. -/
theorem op_yield {o : Oper} {f : Operand} {args : Array Operand} {ts : Array TypeId} (hop : o.op = .call { callee := .value f, args := args, argTypes := ts }) {l : Nat} {R : Ending → World → Prop}
    (hf : a.eval f = .func (.yield l) #[] #[]) {vs : Array Value} (hvs : args.map a.eval = vs) (hc : YieldAt (Fw Option.none) 9 P l vs W R) {K : Act → World → Prop} {Q : Exit → Act → World → Prop}
    (hK : ∀ e W', R e W' → ∃ v, e = .returned v ∧ K (a.put o.dst v) W') : o.wpIn (Fw Option.none) n P a W K Q := by
  have hnd' : ∀ c, o.op ≠ .defer c := fun c hc => by rw [hop] at hc; cases hc
  obtain ⟨fn, tmps, assign, body, hy, hround⟩ := hc
  have hrun : (execOp a.eval o).run P W = .ok (.round l fn tmps assign body) W := by
    simp only [execOp, hop, resolve, hf, Deferred.ofValue, Sem.run_bind, Sem.run_pure, Result.andThen_ok, invoke]
    simp only [Array.empty_append]
    rw [hvs]; exact hy
  refine ⟨fun _ _ => trivial, ?_⟩
  rw [Oper.semAt_eq _ _ _ hnd', hrun]
  simp only [Oper.uponIn]
  refine ⟨fun h => by simp [Fw] at h, roundIn_n (n := 9) (hround.mono fun e w' hR => ?_)⟩
  obtain ⟨v, rfl, h⟩ := hK e w' hR
  exact h

theorem range_split {x y : Nat} : List.range (x + (y + 1)) = List.range' 0 x ++ x :: List.range' (x + 1) y := by
  rw [List.range_eq_range', ← List.range'_succ, ← List.range'_append_1]
  simp

/-- **A region that calls such a function.** -/
theorem good_visit (hT : TOk P T) {Q : Exit → Act → World → Prop} {J : Nat → (Nat → Prop) → World → Prop} {Jx : (Nat → Prop) → World → Prop} (hJ : GrowsJ J) (hB : BoundJ J) {W0 : World} {S Sc : Nat → Prop} {i m : Nat} (hseg : Seg J W0 S i cx Sc)
    {ops : Array Oper} {id : Nat} {k : List K} {s s1 : LS} (l1 : List Oper) (o : Oper) (l2 : List Oper) (hops : ops.toList = l1 ++ o :: l2) {orc1 : List Or} {evs1 : List Ev} {obs1 : List Ob}
    (h1 : evOps T ops l1 0 s orc1 = some (evs1, s1, obs1, [])) (ho1 : Obs P obs1) (hg : o.guard = Option.none) {dst : Nat} (hd : o.dst = some dst) (hdl : dst < s1.sl.length)
    (hro : roBelow cx.base 0 s1.bk = true) (hlive : s1.bk.all liveC = true)
    (hcall : ∀ ρ a W2, Rep cx s1.sl.length D ρ s1.fs a W2 → (∀ k own sym cells, s1.fs.bk k = .live own sym cells → ∀ b o n, ρ k = some (b, o, n) → ¬ Sc b) → J i Sc W2 →
      ∀ (K : Act → World → Prop) (Q' : Exit → Act → World → Prop), (∀ e W', VR J Jx m Sc W2 e W' → ∃ v, e = .returned v ∧ K (a.put o.dst v) W') → o.wpIn (Fw Option.none) n P a W2 K Q')
    {s3 : Bool → LS} {orc2 : Bool → List Or} {evs2 : Bool → List Ev} {obs2 : Bool → List Ob} (h2 : ∀ b, evOps T ops l2 (l1.length + 1) ⟨s1.sl.set dst (.v (.bool b)), s1.bk.map BK.frz⟩ (orc2 b) = some (evs2 b, s3 b, obs2 b, [])) (ho2 : ∀ b, Obs P (obs2 b))
    (hgood : ∀ b cx', cx'.base = s1.bk.length → (b = true → ∃ Sc', Seg J W0 S m cx' Sc') → (b = false → SegX Jx W0 S cx') → Good P Option.none n Q cx' D k (s3 b)) :
    Good P Option.none n Q cx D (.c (.region id ops false) :: k) s := by
  intro ρ a W hrep
  simp only [cont]
  refine wpIn_region ?_
  have hsz : ops.size = l1.length + (l2.length + 1) := by
    have := congrArg List.length hops; simpa using this
  have hget : ∀ j, ops[j]? = (l1 ++ o :: l2)[j]? := fun j => by rw [← hops, Array.getElem?_toList]
  rw [hsz, range_split]
  refine ops_pre hT l1 0 s s1 orc1 [] evs1 obs1 h1 ho1 (fun j o' hj => ?_) ρ a W hrep (fun ρ1 a1 W1 hrep1 hl1 => ?_)
  · rw [hget, Nat.zero_add, List.getElem?_append_left (List.getElem?_eq_some_iff.1 hj).1]; exact hj
  rw [← hl1] at hrep1
  rw [wpOpsIn_cons]
  unfold wpOpIn
  have ho : ops[l1.length]? = some o := by rw [hget, List.getElem?_append_right (Nat.le_refl _)]; simp
  rw [ho]
  have hw : Region.wanted o (yielded ops a1.tmps) = true := by unfold Region.wanted; rw [hg]
  simp only [hw, if_true]
  have hbel : Below cx.w.heap.size cx.w W1 := by
    have := hrep1.kept
    exact ⟨this.os, this.tape, this.output, this.size, fun k hk => this.block k hk (hseg.own k)⟩
  refine hcall ρ1 a1 W1 hrep1 (hseg.safe hB hrep1 hro) (hJ _ _ _ _ hseg.j hbel) _ _ (fun e W' hv => ?_)
  obtain ⟨b, cx', rfl, hbase, hrep2, hs1, hs2⟩ := hseg.call hB hrep1 hro hlive hv
  refine ⟨_, rfl, ?_⟩
  have h3 := hrep2.put o.dst (fun d hd' => by rw [hd] at hd'; cases hd'; exact hdl) (x := .v (.bool b)) (y := .bool b) (by simp [Rel]) (fun k hk => absurd hk (by simp [SV.has]))
  have efs : ((⟨s1.fs.sl, fun k => (s1.fs.bk k).frz⟩ : FS).app o.dst { val := .v (.bool b) }) = (⟨s1.sl.set dst (.v (.bool b)), s1.bk.map BK.frz⟩ : LS).fs := by
    rw [hd]
    simp only [FS.app, LS.fs, upds]
    congr 1
    · funext t
      simp only [List.getD_eq_getElem?_getD, List.getElem?_set]
      by_cases ht : t = dst
      · subst ht; simp [hdl]
      · rw [if_neg ht, if_neg (fun e => ht e.symm)]
    · funext k
      simp only [List.getD_eq_getElem?_getD, List.getElem?_map]
      cases s1.bk[k]? <;> rfl
  rw [efs] at h3
  have hl3 : (⟨s1.sl.set dst (.v (.bool b)), s1.bk.map BK.frz⟩ : LS).sl.length = s1.sl.length := by simp
  have hpre := ops_pre (r := Option.none) (n := n) (Q := cont Option.none n P Q k) (rest := []) hT l2 (l1.length + 1) _ (s3 b) (orc2 b) [] (evs2 b) (obs2 b) (h2 b) (ho2 b) (fun j o' hj => ?_) ρ1 _ W' (by rw [hl3]; exact h3) (fun ρ4 a4 W4 hrep4 hl4 => ?_)
  · rw [List.append_nil] at hpre; exact hpre
  · rw [hget, List.getElem?_append_right (by omega), show l1.length + 1 + j - l1.length = j + 1 by omega]; simpa using hj
  · simp only [wpOpsIn]
    exact hgood b cx' hbase hs1 hs2 ρ4 a4 W4 (by rw [hl4]; exact hrep4)

/-- The end of an iterator's part. -/
theorem fin_iter (hT : TOk P T) {fn : Func} {R : Ending → World → Prop} {s : LS} {x : SV} {b : Bool} (hres : resVals T s.fs fn.results.toList = some [x]) (hx : ∀ ρ v, Rel ρ x v → v = .bool b) (hown : ∀ b, ¬ cx.own b)
    (hR : ∀ W, Below cx.w.heap.size cx.w W → R (.returned (.bool b)) W) : GoodAt (bodyPost P fn R) .ret cx [] s := by
  intro ρ a W hrep
  obtain ⟨vs, hrun, hrel⟩ := resVals_ok hT hrep fn.results.toList [x] hres #[]
  have hmap : (fn.results.mapM (rvSem a.tmps)).run P W = .ok vs.toArray W := by
    rw [Array.mapM_eq_foldlM, ← Array.foldlM_toList]
    simp only [Array.empty_append] at hrun
    rw [← hrun]
    simp only [bind_pure_comp]
  obtain ⟨y, rfl, hy⟩ : ∃ y, vs = [y] ∧ Rel ρ x y := rels1 hrel
  refine ⟨hrep.defs, y, ?_, ?_⟩
  · rw [results_eq]
    simp only [Sem.run_bind, hmap, Result.andThen_ok, Sem.run_pure]
    simp
  · have := hx ρ y hy
    subst this
    have hk := hrep.kept
    exact hR W ⟨hk.os, hk.tape, hk.output, hk.size, fun k hk' => hk.block k hk' (hown k)⟩

/-- Part of a region: the state behind it, and what is owed. -/
def evS (T : Nat → Option TI) (ops : Array Oper) (l : List Oper) (i : Nat) (s : LS) (orc : List Or) : Option (LS × List Ob) :=
  match evOps T ops l i s orc with
  | some (_, s', obs, []) => some (s', obs)
  | _ => Option.none

theorem evS_spec {ops : Array Oper} {l : List Oper} {i : Nat} {s s' : LS} {orc : List Or} {obs : List Ob} (h : evS T ops l i s orc = some (s', obs)) : ∃ evs, evOps T ops l i s orc = some (evs, s', obs, []) := by
  unfold evS at h
  split at h
  · rename_i evs s2 obs2 he
    simp only [Option.some.injEq, Prod.mk.injEq] at h
    obtain ⟨rfl, rfl⟩ := h
    exact ⟨evs, he⟩
  · cases h

/-- A region that calls such a function; certificates. -/
theorem visit_of (hT : TOk P T) {Q : Exit → Act → World → Prop} {J : Nat → (Nat → Prop) → World → Prop} {Jx : (Nat → Prop) → World → Prop} (hJ : GrowsJ J) (hB : BoundJ J) {W0 : World} {S Sc : Nat → Prop} {i m : Nat} (hseg : Seg J W0 S i cx Sc)
    {ops : Array Oper} {id : Nat} {k : List K} {s s1 : LS} (l1 : List Oper) (o : Oper) (l2 : List Oper) (hops : ops.toList = l1 ++ o :: l2)
    (h1 : evS T ops l1 0 s [] = some (s1, [])) (hg : o.guard = Option.none) (dst : Nat) (hd : o.dst = some dst) (hdl : dst < s1.sl.length)
    (base : Nat) (hbase : cx.base = base) (hro : roBelow base 0 s1.bk = true) (hlive : s1.bk.all liveC = true)
    (hcall : ∀ ρ a W2, Rep cx s1.sl.length D ρ s1.fs a W2 → (∀ k own sym cells, s1.fs.bk k = .live own sym cells → ∀ b o n, ρ k = some (b, o, n) → ¬ Sc b) → J i Sc W2 →
      ∀ (K : Act → World → Prop) (Q' : Exit → Act → World → Prop), (∀ e W', VR J Jx m Sc W2 e W' → ∃ v, e = .returned v ∧ K (a.put o.dst v) W') → o.wpIn (Fw Option.none) n P a W2 K Q')
    (s3 : Bool → LS) (h2 : ∀ b, evS T ops l2 (l1.length + 1) ⟨s1.sl.set dst (.v (.bool b)), s1.bk.map BK.frz⟩ [] = some (s3 b, []))
    (hgood : ∀ b cx', cx'.base = s1.bk.length → (b = true → ∃ Sc', Seg J W0 S m cx' Sc') → (b = false → SegX Jx W0 S cx') → Good P Option.none n Q cx' D k (s3 b)) :
    Good P Option.none n Q cx D (.c (.region id ops false) :: k) s := by
  subst hbase
  obtain ⟨evs1, h1'⟩ := evS_spec h1
  exact good_visit hT hJ hB hseg l1 o l2 hops h1' trivial hg hd hdl hro hlive hcall (s3 := s3) (orc2 := fun _ => []) (evs2 := fun b => (evS_spec (h2 b)).choose) (obs2 := fun _ => []) (fun b => (evS_spec (h2 b)).choose_spec) (fun _ => trivial) hgood

def retB (T : Nat → Option TI) (rv : List ResultVar) (b : Bool) : Option (Out × List Ob × List Or) → Option (List Ob)
  | some (.ret s, obs, []) => match resVals T s.fs rv with
    | some [.b c] => if c = b then some obs else Option.none
    | some [.v (.bool c)] => if c = b then some obs else Option.none
    | _ => Option.none
  | _ => Option.none

/-- A run to the end of an iterator's part, which returns b. -/
theorem retB_of (hT : TOk P T) (hm : P.follows .mixedOrders = true) {fn : Func} {R : Ending → World → Prop} {f : Nat} {k : List K} {s : LS} {orc : List Or} {b : Bool} {obs : List Ob} (h : retB T fn.results.toList b (run T f k s orc) = some obs) (hob : Obs P obs) (hown : ∀ b, ¬ cx.own b)
    (hR : ∀ W, Below cx.w.heap.size cx.w W → R (.returned (.bool b)) W) : Good P r n (bodyPost P fn R) cx [] k s := by
  unfold retB at h
  split at h
  · rename_i s' obs' hrun
    split at h
    · rename_i c hres
      split at h
      · rename_i hc
        subst hc
        simp only [Option.some.injEq] at h; subst h
        exact run_ok hT hm f k s orc _ _ _ hrun hob (fin_iter hT hres (fun ρ v hv => by simpa [Rel] using hv) hown hR)
      · cases h
    · rename_i c hres
      split at h
      · rename_i hc
        subst hc
        simp only [Option.some.injEq] at h; subst h
        exact run_ok hT hm f k s orc _ _ _ hrun hob (fin_iter hT hres (fun ρ v hv => by simpa [Rel] using hv) hown hR)
      · cases h
    · cases h
  · cases h

theorem results_nil {fn : Func} {W : World} {tmps : Array Value} (h : fn.results = #[]) : (results fn tmps).run P W = .ok (.tuple #[]) W := by
  rw [results_eq, h]
  simp [Array.mapM_eq_foldlM]

theorem calls_of_good {n : Nat} {f : Nat} {fn : Func} {c : Code} {args : List SV} {bs : List BK} {vs : List Value} {R : Ending → World → Prop} (hf : P.funcs[f]? = some fn) (hb : fn.body = some c)
    (hlen : args.length ≤ fn.ntmps) (hlive : (bs.all isLive && belowL bs.length args) = true) (hbs : belowBs bs.length bs) (hro : roBelow bs.length 0 bs = true) (hnown : ∀ i, ¬ (bs.getD i .un).own)
    (hargs : Rels ρ args vs) (hbr : ∀ i, BRep ρ (fun b => W.heap.size ≤ b) W i (bs.getD i .un)) (hpl : ∀ i, (bs.getD i .un).pl)
    (h : ∀ cx : Cx, cx.base = bs.length → cx.w = W → cx.ρ = ρ → (∀ b, ¬ cx.own b) → Good P Option.none n (bodyPost P fn R) cx [] [.c c] (start fn.ntmps args bs)) : Calls P f vs.toArray W R := by
  have ho : ∀ b, ¬ (callCx ρ W bs).own b := fun b ⟨i, n, hi, _⟩ => hnown i hi
  have hbr' : ∀ i, BRep ρ (callCx ρ W bs).mine W i (bs.getD i .un) := fun i => by
    have := hbr i
    cases hx : bs.getD i .un with
    | un => trivial
    | dead => trivial
    | live own sym cells =>
      rw [hx] at this
      cases own with
      | true => exact (hnown i (by rw [hx]; trivial)).elim
      | false =>
        rcases this with h | ⟨b, o, n, vs, h1, h2, h3, h4⟩
        · exact .inl h
        · refine .inr ⟨b, o, n, vs, h1, ⟨h2.1, fun hne hM => h2.2 hne ?_⟩, h3, h4⟩
          rcases hM with hM | hM
          · exact hM
          · exact (ho b hM).elim
  have hrep := start_rep hlen (by rw [hlive, belowBs_all hbs]; rfl) hargs hbr' hpl (fun i j b n b' n' _ hi => (hnown i hi).elim)
  refine calls_of_wp hf hb ?_
  have := h (callCx ρ W bs) rfl rfl rfl ho ρ _ W hrep
  simp only [cont] at this
  exact (wpIn_wide (n := n)).1 this

/-! ### Ranges, with certificates -/
theorem runL_foldl {V α : Type} (f : V → α → V) : ∀ (xs : List α) (v : V), runL (R := Empty) (fun v x => .inl (f v x)) xs v = .inl (xs.foldl f v)
  | [], v => rfl
  | x :: xs, v => by simp only [runL, List.foldl_cons]; exact runL_foldl f xs (f v x)

/-- What may only be read in l' may only be read in l, and is the same. -/
def roSub : List BK → List BK → Prop
  | [], _ => True
  | .live false sy c :: l', x :: l => x = .live false sy c ∧ roSub l' l
  | .live false _ _ :: _, [] => False
  | _ :: l', x :: l => roSub l' l
  | _ :: l', [] => roSub l' []

theorem roSub_ro {l' l : List BK} {sy : Bool} {c : List SV} (h : roSub l' l) : roSub (.live false sy c :: l') (.live false sy c :: l) := ⟨rfl, h⟩
theorem roSub_own {l' l : List BK} {sy : Bool} {c : List SV} {x : BK} (h : roSub l' l) : roSub (.live true sy c :: l') (x :: l) := h
theorem roSub_dead {l' l : List BK} {x : BK} (h : roSub l' l) : roSub (.dead :: l') (x :: l) := h
theorem roSub_nil {l : List BK} : roSub [] l := by cases l <;> exact trivial

theorem roSub_get : ∀ {l' l : List BK}, roSub l' l → ∀ (k : Nat) (sy : Bool) (c : List SV), l'[k]? = some (BK.live false sy c) → l[k]? = some (BK.live false sy c)
  | [], _, _, k, _, _, h => by simp at h
  | x :: l', y :: l, hr, k, sy, c, h => by
    have hl : roSub l' l ∧ (∀ sy c, x = .live false sy c → y = .live false sy c) := by
      cases x with
      | un => exact ⟨hr, fun _ _ h => by cases h⟩
      | dead => exact ⟨hr, fun _ _ h => by cases h⟩
      | live o s' c' => cases o with
        | true => exact ⟨hr, fun _ _ h => by cases h⟩
        | false => exact ⟨hr.2, fun _ _ h => by cases h; exact hr.1⟩
    cases k with
    | zero => simp at h; rw [h] at hl; simpa using hl.2 _ _ rfl
    | succ k => simpa using roSub_get hl.1 k sy c (by simpa using h)
  | x :: l', [], hr, k, sy, c, h => by
    cases x with
    | un => cases k with
      | zero => simp at h
      | succ k => have := roSub_get (l' := l') (l := []) hr k sy c (by simpa using h); simp at this
    | dead => cases k with
      | zero => simp at h
      | succ k => have := roSub_get (l' := l') (l := []) hr k sy c (by simpa using h); simp at this
    | live o s' c' => cases o with
      | true => cases k with
        | zero => simp at h
        | succ k => have := roSub_get (l' := l') (l := []) hr k sy c (by simpa using h); simp at this
      | false => exact hr.elim

theorem fs_get {s : LS} {k : Nat} {o sy : Bool} {c : List SV} (h : s.fs.bk k = .live o sy c) : s.bk[k]? = some (.live o sy c) := by
  simp only [LS.fs, List.getD_eq_getElem?_getD] at h
  cases hx : s.bk[k]? with
  | none => rw [hx] at h; simp at h
  | some y => rw [hx] at h; simp at h; rw [h]

theorem fs_of {s : LS} {k : Nat} {o sy : Bool} {c : List SV} (h : s.bk[k]? = some (.live o sy c)) : s.fs.bk k = .live o sy c := by
  simp only [LS.fs, List.getD_eq_getElem?_getD, h, Option.getD_some]

theorem range_of {α V R' : Type} {Q : Exit → Act → World → Prop} {s0 : LS} {k : List K} {g : Operand} {t : Tmp} {assign body : Code} {gf : Nat} {caps : List SV} {enc : α → Value} {xs : List α}
    {base0 : Nat} (hb0 : cx.base = base0) (hgv : ev s0.fs.sl g = .f gf caps) (ks : List Nat) (capsR : List SV) (bs : List BK) (hc : renL ks caps = some capsR) (hbs : renBs ks s0.fs.bk ks [] = some bs) (hit : Iter P gf capsR bs enc xs)
    (encS : α → SV) (henc : ∀ ρ x, Rel ρ (encS x) (enc x)) (hpl : ∀ x k, ¬ (encS x).has k)
    (base : Nat) (hbase : base0 ≤ base) (ht : t < s0.sl.length)
    (st : V → LS) (v0 : V) (h0 : st v0 = s0) (hsl : ∀ v, (st v).sl = s0.sl) (hslb : belowL base s0.sl = true)
    (hro1 : ∀ v v', roSub (st v').bk (st v).bk) (hro2 : ∀ v, roBelow base 0 (st v).bk = true)
    (hun1 : ∀ v, ((st v).bk.all fun b => !isUn b) = true) (hun2 : ∀ v, base ≤ (st v).bk.length)
    (step : V → α → V ⊕ R') (str : R' → LS) (hrr1 : ∀ v r, roSub (str r).bk (st v).bk) (hrr2 : ∀ r, roBelow base 0 (str r).bk = true)
    (inv : Nat → V → Prop) (hi0 : inv 0 v0) (sA : V → α → LS) (hsAl : ∀ v x, (sA v x).sl.length = s0.sl.length)
    (hsA1 : ∀ v x, ((sA v x).bk.all fun b => !isUn b) = true) (hsA2 : ∀ v x, base ≤ (sA v x).bk.length)
    (hA : ∀ (cx' : Cx) (l i : Nat) (v : V) (x : α) (QA : Exit → Act → World → Prop), cx'.base = base → xs[i]? = some x → inv i v → GoodAt QA .normal cx' [] (sA v x) → Good P (some l) 9 QA cx' [] [.c assign] ⟨s0.sl.set t (encS x), (st v).bk⟩)
    (hB : ∀ (cx' : Cx) (l i : Nat) (v : V) (x : α) (QB : Exit → Act → World → Prop), cx'.base = base → xs[i]? = some x → inv i v →
      (∀ v', step v x = .inl v' → inv (i + 1) v' → GoodAt QB .normal cx' [] ⟨List.replicate s0.sl.length .u, (st v').bk⟩) →
      (∀ r, step v x = .inr r → GoodAt QB .ret cx' [] ⟨List.replicate s0.sl.length .u, (str r).bk⟩) → Good P (some l) 9 QB cx' [] [.c body] (sA v x))
    (hrest : ∀ (cx' : Cx) (d : Nat) (v : V), Held cx d cx' → runL step xs v0 = .inl v → inv xs.length v → Good P Option.none n Q cx' [mark d] k (st v))
    (hexit : ∀ (cx' : Cx) (d : Nat) (r : R'), Held cx d cx' → runL step xs v0 = .inr r → GoodAt Q .ret cx' [mark d] ⟨s0.sl, (str r).bk⟩) :
    Good P Option.none n Q cx [] (.c (.rangeFunc g #[t] assign body) :: k) s0 := by
  subst hb0
  have nun : ∀ {l : List BK}, (l.all fun b => !isUn b) = true → base ≤ l.length → ∀ i, i < base → l.getD i .un ≠ .un := fun {l} h1 h2 i hi => by
    have hlt : i < l.length := Nat.lt_of_lt_of_le hi h2
    have := List.all_eq_true.1 h1 l[i] (by simp)
    rw [show l.getD i .un = l[i] by simp [List.getD_eq_getElem?_getD, hlt]]
    intro e; rw [e] at this; simp [isUn] at this
  exact good_range hgv ks hc hbs hit encS henc hpl base hbase ht st v0 h0 hsl hslb
    (fun v v' k sym cells hk => ⟨fs_of (roSub_get (hro1 v v') k sym cells (fs_get hk)), by have := roBelow_get (hro2 v') k sym cells (fs_get hk); omega⟩)
    (fun v i hi => nun (hun1 v) (hun2 v) i hi) step str
    (fun v r k sym cells hk => ⟨fs_of (roSub_get (hrr1 v r) k sym cells (fs_get hk)), by have := roBelow_get (hrr2 r) k sym cells (fs_get hk); omega⟩)
    inv hi0 sA hsAl (fun v x i hi => nun (hsA1 v x) (hsA2 v x) i hi) hA hB hrest hexit

/-- Where a piece of code stands: the piece, and what is to be done behind it. -/
def codeAt : List Nat → List Nat → Code → List K → Option (Code × List K)
  | [], _, x, k => some (x, k)
  | q :: p, ms, .seq a b, k => if q = 0 then codeAt p ms a (.c b :: k) else codeAt p ms b k
  | _ :: p, ms, .block id c, k => codeAt p ms c (.b id :: k)
  | q :: p, ms, .cond _ a b, k => if q = 0 then codeAt p ms a k else codeAt p ms b k
  | _ :: p, m :: ms, .loop body, k => codeAt p ms body (.l body m :: k)
  | _ :: p, m :: ms, .scope body, k => codeAt p ms body (.s body m :: k)
  | _, _, _, _ => Option.none

def codeAtD (p ms : List Nat) (c : Code) : Code × List K := (codeAt p ms c []).getD (.skip, [])
end
end Go.Aw
