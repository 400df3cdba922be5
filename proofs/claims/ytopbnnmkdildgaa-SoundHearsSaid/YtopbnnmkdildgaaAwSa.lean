/-
  A symbolic executor for the model's code, part Sa: a statement that ranges over a function, symbolically; functions that hold one. Generic in the program. No premise.
-/
import Derived.Test.YtopbnnmkdildgaaAwS
import Derived.RangeFuncLeaves
namespace Go.Aw
open Go.RowKit
set_option linter.unusedVariables false
set_option linter.unusedSimpArgs false

/-- Element by element, until there is a result. -/
def runL {V R α : Type} (step : V → α → V ⊕ R) : List α → V → V ⊕ R
  | [], v => .inl v
  | x :: l, v => match step v x with
    | .inl v' => runL step l v'
    | .inr r => .inr r

theorem runL_snoc {V R α : Type} {step : V → α → V ⊕ R} {x : α} : ∀ {l : List α} {v : V}, runL step (l ++ [x]) v = match runL step l v with
    | .inl v' => step v' x
    | .inr r => .inr r
  | [], v => by simp only [List.nil_append, runL]; cases step v x <;> rfl
  | y :: l, v => by
    simp only [List.cons_append, runL]
    cases step v y with
    | inl v' => exact runL_snoc
    | inr r => rfl

theorem runL_stop {V R α : Type} {step : V → α → V ⊕ R} {r : R} {m : List α} : ∀ {l : List α} {v : V}, runL step l v = .inr r → runL step (l ++ m) v = .inr r
  | [], v, h => by simp [runL] at h
  | y :: l, v, h => by
    simp only [List.cons_append, runL] at h ⊢
    cases hs : step v y with
    | inl v' => rw [hs] at h; exact runL_stop h
    | inr r' => rw [hs] at h; exact h

theorem runL_take {V R α : Type} {step : V → α → V ⊕ R} {xs : List α} {i : Nat} {x : α} {v0 v : V} (hx : xs[i]? = some x) (h : runL step (xs.take i) v0 = .inl v) : runL step (xs.take (i + 1)) v0 = step v x := by
  obtain ⟨hlt, hx⟩ := List.getElem?_eq_some_iff.1 hx
  rw [← hx, List.take_succ_eq_append_getElem hlt, runL_snoc, h]

/-- Behind a range. -/
def thenL {V R : Type} (k : V → R) : V ⊕ R → R
  | .inl v => k v
  | .inr r => r

section
variable {P : Program} {T : Nat → Option TI} {cx : Cx}

/-- An iterator's contract: the function g, with what it has captured. -/
def Iter {α : Type} (P : Program) (g : Nat) (caps : List SV) (bs : List BK) (enc : α → Value) (xs : List α) : Prop :=
  Enters P g ∧ ∀ (ρ : Env) (W : World) (lb : List Value), Rels ρ caps lb → (∀ i, BRep ρ (fun b => W.heap.size ≤ b) W i (bs.getD i .un)) → (∀ i, (bs.getD i .un).pl) → IterAt P g lb enc xs W

structure Held (cx : Cx) (d : Nat) (cx' : Cx) : Prop where
  ex : ∃ W0, cx' = cx.hold W0 (fun b => b = d) ∧ Kept cx.w cx.own W0 ∧ W0.heap[d]? = some (.deferred (some [])) ∧ cx.w.heap.size ≤ d

theorem Held.base {d : Nat} {cx' : Cx} (h : Held cx d cx') : cx'.base = cx.base := by
  obtain ⟨W0, rfl, _⟩ := h.ex; rfl

theorem good_range {α V R' : Type} {n : Nat} {Q : Exit → Act → World → Prop} {s0 : LS} {k : List K} {g : Operand} {t : Tmp} {assign body : Code} {gf : Nat} {caps capsR : List SV} {bs : List BK} {enc : α → Value} {xs : List α}
    (hgv : ev s0.fs.sl g = .f gf caps) (ks : List Nat) (hc : renL ks caps = some capsR) (hbs : renBs ks s0.fs.bk ks [] = some bs) (hit : Iter P gf capsR bs enc xs)
    (encS : α → SV) (henc : ∀ ρ x, Rel ρ (encS x) (enc x)) (hpl : ∀ x k, ¬ (encS x).has k)
    (base : Nat) (hbase : cx.base ≤ base) (ht : t < s0.sl.length)
    (st : V → LS) (v0 : V) (h0 : st v0 = s0) (hsl : ∀ v, (st v).sl = s0.sl) (hslb : belowL base s0.sl = true)
    (hro : ∀ v v' k sym cells, (st v').fs.bk k = .live false sym cells → (st v).fs.bk k = .live false sym cells ∧ k < base)
    (hun : ∀ v i, i < base → (st v).fs.bk i ≠ .un)
    (step : V → α → V ⊕ R') (str : R' → LS) (hroR : ∀ v r k sym cells, (str r).fs.bk k = .live false sym cells → (st v).fs.bk k = .live false sym cells ∧ k < base)
    (inv : Nat → V → Prop) (hi0 : inv 0 v0) (sA : V → α → LS) (hsAl : ∀ v x, (sA v x).sl.length = s0.sl.length) (hsAu : ∀ v x i, i < base → (sA v x).fs.bk i ≠ .un)
    (hA : ∀ (cx' : Cx) (l i : Nat) (v : V) (x : α) (QA : Exit → Act → World → Prop), cx'.base = base → xs[i]? = some x → inv i v → GoodAt QA .normal cx' [] (sA v x) → Good P (some l) 9 QA cx' [] [.c assign] ⟨s0.sl.set t (encS x), (st v).bk⟩)
    (hB : ∀ (cx' : Cx) (l i : Nat) (v : V) (x : α) (QB : Exit → Act → World → Prop), cx'.base = base → xs[i]? = some x → inv i v →
      (∀ v', step v x = .inl v' → inv (i + 1) v' → GoodAt QB .normal cx' [] ⟨List.replicate s0.sl.length .u, (st v').bk⟩) →
      (∀ r, step v x = .inr r → GoodAt QB .ret cx' [] ⟨List.replicate s0.sl.length .u, (str r).bk⟩) → Good P (some l) 9 QB cx' [] [.c body] (sA v x))
    (hrest : ∀ (cx' : Cx) (d : Nat) (v : V), Held cx d cx' → runL step xs v0 = .inl v → inv xs.length v → Good P none n Q cx' [mark d] k (st v))
    (hexit : ∀ (cx' : Cx) (d : Nat) (r : R'), Held cx d cx' → runL step xs v0 = .inr r → GoodAt Q .ret cx' [mark d] ⟨s0.sl, (str r).bk⟩) :
    Good P none n Q cx [] (.c (.rangeFunc g #[t] assign body) :: k) s0 := by
  intro ρ0 a W hrep
  simp only [cont]
  have hgr := ev_rel hrep g
  rw [hgv] at hgr
  simp only [Rel] at hgr
  obtain ⟨vs, hgval, hcr⟩ := hgr
  have hcapsR := renL_rel caps capsR vs hc hcr
  obtain ⟨hbl, hbsp⟩ := renBs_spec ks [] bs hbs
  have hslv : ∀ v, (st v).sl.length = s0.sl.length := fun v => by rw [hsl]
  have hfs : ∀ v, (st v).fs.sl = s0.fs.sl := fun v => by simp only [LS.fs, hsl]
  have hslk : ∀ (t k : Nat), (s0.fs.sl t).has k → k < base := fun t k hk => by
    simp only [LS.fs, List.getD_eq_getElem?_getD] at hk
    cases hx : s0.sl[t]? with
    | none => rw [hx] at hk; simp [SV.has] at hk
    | some y => rw [hx] at hk; exact belowL_has hslb (hasl_iff.2 ⟨y, List.mem_of_getElem? hx, hk⟩)
  have hcw := hrep.size_le
  refine wpIn_range (enc := enc) (xs := xs) hgval hit.1 (fun W' hb => hit.2 (envOf ρ0 ks) W' vs hcapsR (fun i => ?_) (fun i => ?_)) (OwnS ρ0 s0.fs)
    (fun i S W1 => ∃ v ρ, runL step (xs.take i) v0 = .inl v ∧ inv i v ∧ Rep cx s0.sl.length [] ρ (st v).fs a W1 ∧ ∀ b, S b ↔ OwnS ρ (st v).fs b)
    (fun S W1 => ∃ r ρ, runL step xs v0 = .inr r ∧ Rep cx s0.sl.length [] ρ ⟨s0.fs.sl, (str r).fs.bk⟩ a W1)
    (fun i S W1 W2 ⟨v, ρ, q1, q2, q3, q4⟩ hT => ⟨v, ρ, q1, q2, q3.turned hT hcw, q4⟩)
    (fun S W1 W2 ⟨r, ρ, q1, q2⟩ hT => ⟨r, ρ, q1, q2.turned hT hcw⟩)
    (fun i S W1 ⟨v, ρ, q1, q2, q3, q4⟩ b hb => (q3.owns ((q4 b).1 hb)).1)
    ⟨v0, ρ0, rfl, hi0, by rw [h0]; exact hrep, fun b => by rw [h0]⟩ ?_ ?_ ?_
  · cases hi : ks[i]? with
    | none =>
      have : bs[i]? = none := by rw [List.getElem?_eq_none_iff] at hi ⊢; omega
      simp [this, BRep]
    | some k =>
      obtain ⟨y, hy1, hy2⟩ := hbsp i k hi
      rw [show bs.getD i .un = y by simp [hy1]]
      simp only [List.getD_nil, isUn, Bool.not_true] at hy2
      refine (renB_rep hi hy2 (hrep.pl k) ((hrep.bk k).grow (hb.mono (Nat.le_refl _))) (fun _ h => by cases h) (fun _ b hlt _ hM => absurd hM (Nat.not_le_of_lt hlt))).1
  · cases hi : ks[i]? with
    | none =>
      have : bs[i]? = none := by rw [List.getElem?_eq_none_iff] at hi ⊢; omega
      simp [this, BK.pl]
    | some k =>
      obtain ⟨y, hy1, hy2⟩ := hbsp i k hi
      rw [show bs.getD i .un = y by simp [hy1]]
      exact renB_pl hy2 (hrep.pl k)
  · -- a round
    intro l i x S W1 hl hx ⟨v, ρ, hv, hinv, hrep1, hS⟩
    have h2 := hrep1.only (Turn.of_below (B := 0) (Below.refl _ W1)) base (hun v)
    have h3 := h2.put (some t) (fun d hd => by cases hd; exact ht) (henc ρ x) (fun k hk => absurd hk (hpl x k))
    have happ : (st v).app (some t) { val := encS x } = some ⟨s0.sl.set t (encS x), (st v).bk⟩ := by
      simp only [LS.app, updL]
      rw [hslv, if_pos ht, hsl]
    rw [← (app_fs happ).1] at h3
    have hlenA : (⟨s0.sl.set t (encS x), (st v).bk⟩ : LS).sl.length = s0.sl.length := by simp
    have hgA := hA (Cx.only base W1 ρ (OwnS ρ (st v).fs)) l i v x (Exit.then (fun a1 W2 => Kept W1 S W2 ∧ ∀ W3, Turn W.heap.size W2 W3 → Kept W2 (fun b => b = l) W3 → body.wpIn (Fw (some l)) 9 P (RP
      (fun i S W1 => ∃ v ρ, runL step (xs.take i) v0 = .inl v ∧ inv i v ∧ Rep cx s0.sl.length [] ρ (st v).fs a W1 ∧ ∀ b, S b ↔ OwnS ρ (st v).fs b)
      (fun S W1 => ∃ r ρ, runL step xs v0 = .inr r ∧ Rep cx s0.sl.length [] ρ ⟨s0.fs.sl, (str r).fs.bk⟩ a W1) i S W1 W3) a1 W3) (fun _ _ _ => False)) rfl hx hinv ?_ ρ (a.put (some t) (enc x)) W1 (by rw [hlenA]; exact h3)
    · have hdef : a.put (some t) (enc x) = { tmps := a.tmps.setIfInBounds t (enc x), defers := [] } := by
        simp only [Act.put, hrep1.defs]
      rw [hdef] at hgA
      simp only [cont] at hgA
      exact hgA
    · intro ρ1 a1 W2 hrep2
      rw [hsAl] at hrep2
      have hk2 : Kept W1 S W2 := hrep2.kept.mono (fun b hb => (hS b).2 hb)
      refine ⟨hk2, fun W3 hT hK => ?_⟩
      have h4 := hrep2.only hT base (hsAu v x)
      have hk3 : Kept cx.w cx.own W3 := by
        refine (hrep1.kept.trans hrep2.kept (fun b hb hlt => ?_)).trans hK (fun b hb hlt => ?_)
        · rcases (hrep1.owns hb).2 with h' | h'
          · exact absurd h' (Nat.not_le_of_lt hlt)
          · exact h'
        · subst hb; omega
      have hsub : ∀ b, OwnS ρ1 (sA v x).fs b → OwnS ρ (st v).fs b ∨ W1.heap.size ≤ b := fun b hb => by
        rcases (hrep2.owns hb).2 with h' | h'
        · exact .inr h'
        · exact .inl h'
      have hsz : W1.heap.size ≤ W3.heap.size := Nat.le_trans hk2.size hK.size
      have hgB := hB (Cx.only base W3 ρ1 (OwnS ρ1 (sA v x).fs)) l i v x (RP
        (fun i S W1 => ∃ v ρ, runL step (xs.take i) v0 = .inl v ∧ inv i v ∧ Rep cx s0.sl.length [] ρ (st v).fs a W1 ∧ ∀ b, S b ↔ OwnS ρ (st v).fs b)
        (fun S W1 => ∃ r ρ, runL step xs v0 = .inr r ∧ Rep cx s0.sl.length [] ρ ⟨s0.fs.sl, (str r).fs.bk⟩ a W1) i S W1 W3) rfl hx hinv ?_ ?_ ρ1 a1 W3 (by rw [hsAl]; exact h4)
      · simp only [cont] at hgB
        exact hgB
      · intro v' hst hinv' ρ4 a4 W4 h5
        have hj := hrep1.rejoin (fun i hi => (hrep2.old i hi).1) hsub h5 hsz hk3 hbase (fun t k hk => hslk t k (by rw [hfs] at hk; exact hk)) (fun k sym cells hk => hro v v' k sym cells hk)
        refine ⟨OwnS ρ4 (st v').fs, ⟨v', ρ4, (runL_take hx hv).trans hst, hinv', ?_, fun b => Iff.rfl⟩, h5.kept.mono (fun b hb => (hsub b hb).imp (fun h => (hS b).2 h) id), fun b hb => ?_⟩
        · have e : (st v').fs = ⟨(st v).fs.sl, (st v').fs.bk⟩ := by
            rw [hfs v, ← hfs v']
          rw [e]; exact hj
        · have h' : OwnS ρ4 (⟨List.replicate s0.sl.length .u, (st v').bk⟩ : LS).fs b := hb
          rcases (h5.owns h').2 with h' | h'
          · exact .inr (Nat.le_trans hsz h')
          · exact (hsub b h').imp (fun h => (hS b).2 h) id
      · intro r hst ρ4 a4 W4 h5
        have hj := hrep1.rejoin (fun i hi => (hrep2.old i hi).1) hsub h5 hsz hk3 hbase (fun t k hk => hslk t k (by rw [hfs] at hk; exact hk)) (fun k sym cells hk => hroR v r k sym cells hk)
        refine ⟨fun _ => False, ⟨r, ρ4, ?_, ?_⟩, h5.kept.mono (fun b hb => (hsub b hb).imp (fun h => (hS b).2 h) id)⟩
        · have := (runL_take hx hv).trans hst
          rw [← List.take_append_drop (i + 1) xs]; exact runL_stop this
        · rw [← hfs v]; exact hj
  · -- all have come
    intro d S W' hd ⟨v, ρ, hv, hinv, hrep1, hS⟩ hdd
    rw [List.take_length] at hv
    have hnc : ∀ b, b = d → ¬ isCellsAt W' b := fun b hb ⟨c, ty, m, h⟩ => by subst hb; rw [hdd] at h; cases h
    have := hrest (cx.hold W' (fun b => b = d)) d v ⟨_, rfl, hrep1.kept, hdd, Nat.le_trans hcw hd⟩ hv hinv ρ { a with defers := [mark d] } W' (by rw [hslv]; exact (hrep1.hold hnc).defer _)
    rw [hrep.defs]; exact this
  · intro d S W' hd ⟨r, ρ, hr, hrep1⟩ hdd
    have hnc : ∀ b, b = d → ¬ isCellsAt W' b := fun b hb ⟨c, ty, m, h⟩ => by subst hb; rw [hdd] at h; cases h
    have := hexit (cx.hold W' (fun b => b = d)) d r ⟨_, rfl, hrep1.kept, hdd, Nat.le_trans hcw hd⟩ hr ρ { a with defers := [mark d] } W' ((hrep1.hold hnc).defer _)
    rw [hrep.defs, cont_other (by simp) (by simp) (by simp)]; exact this

/-! ### Functions that hold such a statement -/
theorem bodyPost_M {n : Nat} {fn : Func} {R : Ending → World → Prop} {a : Act} {W : World} (h : bodyPost P fn R .ret a W) : bodyPostM (Fw none) n P fn R .ret a W := by
  obtain ⟨hd, v, hv, hR⟩ := h
  simp only [bodyPostM, hd, LeavesInM, LeavesIn]
  exact ⟨v, hv, hR⟩

theorem bodyPost_MN {n : Nat} {fn : Func} {R : Ending → World → Prop} {a : Act} {W : World} (h : bodyPost P fn R .normal a W) : bodyPostM (Fw none) n P fn R .normal a W := by
  obtain ⟨hd, v, hv, hR⟩ := h
  simp only [bodyPostM, hd, LeavesInM, LeavesIn]
  exact ⟨v, hv, hR⟩

/-- At the return, ahead of the range. -/
theorem fin_okM (hT : TOk P T) {n : Nat} {fn : Func} {ms ks : List Nat} {s : LS} {res : SV} {nb mb : List BK} (h : fin T fn.results.toList cx.base ms ks s = some (res, nb, mb)) :
    GoodAt (bodyPostM (Fw none) n P fn (RR cx res nb mb)) .ret cx [] s := fun ρ a W hrep => bodyPost_M (fin_ok hT h ρ a W hrep)

/-- At the return, behind the range. -/
theorem fin_mark (hT : TOk P T) {n : Nat} {fn : Func} {ms ks : List Nat} {s : LS} {res : SV} {nb mb : List BK} (h : fin T fn.results.toList cx.base ms ks s = some (res, nb, mb)) {d : Nat} {cx' : Cx} (hh : Held cx d cx') :
    GoodAt (bodyPostM (Fw none) n P fn (RR cx res nb mb)) .ret cx' [mark d] s := by
  obtain ⟨W0, rfl, hk, hd, hdl⟩ := hh.ex
  intro ρ a W hrep
  have hdW : W.heap[d]? = some (.deferred (some [])) := (hrep.kept.block d (heap_lt hd) (fun h => h.2 rfl)).trans hd
  have h1 := hrep.unhold hk (fun b hb => by
    subst hb
    exact ⟨heap_lt hd, fun ⟨c, ty, m, h⟩ => by rw [hd] at h; cases h⟩)
  have h2 := (h1.turned (Turn.put (o' := .deferred none) hdW hdl (by intros; simp)) (Nat.le_refl _)).defer []
  obtain ⟨_, v, hv, hR⟩ := fin_ok hT h ρ _ _ h2
  simp only [bodyPostM, hrep.defs, LeavesInM]
  refine ⟨by simp, .inl ⟨d, _, rfl, run_takeDeferred hdW, ?_⟩⟩
  simp only [LeavesIn]
  exact ⟨v, hv, hR⟩

/-- **A function's contract, where the function holds a range over a function.** -/
theorem con_of_mark {n : Nat} {f : Nat} {fn : Func} {c : Code} {args : List SV} {bs : List BK} {res : SV} {nb mb : List BK} (hf : P.funcs[f]? = some fn) (hb : fn.body = some c) (hent : Enters P f)
    (hlen : args.length ≤ fn.ntmps) (hlive : (bs.all isLive && belowL bs.length args) = true) (hbs : belowBs bs.length bs)
    (h : ∀ cx : Cx, cx.base = bs.length → Good P none n (bodyPostM (Fw none) n P fn (RR cx res nb mb)) cx [] [.c c] (start fn.ntmps args bs)) : Con P f args bs res nb mb := by
  refine ⟨hent, fun ρ W vs hargs hbs' hpl hap => ?_⟩
  have hrep := start_rep hlen (by rw [hlive, belowBs_all hbs]; rfl) hargs hbs' hpl hap
  have := h (callCx ρ W bs) rfl ρ _ W hrep
  simp only [cont] at this
  exact callsIn_Fw.1 (callsIn_of_wp_marks (n := n) hf hb trivial this)

/-! ### Certificates -/
def atOf (base : Nat) (ts ks : List Nat) : Option (Out × List Ob × List Or) → Option (Code × List K × LS × List Ob)
  | some (.at x k s, obs, []) => match shrink base ts ks s with
    | some s' => some (x, k, s', obs)
    | none => none
  | _ => none

def normOf (base : Nat) (ts ks : List Nat) : Option (Out × List Ob × List Or) → Option (LS × List Ob)
  | some (.norm s, obs, []) => match shrink base ts ks s with
    | some s' => some (s', obs)
    | none => none
  | _ => none

def retsOf (base : Nat) (ts ks : List Nat) : Option (Out × List Ob × List Or) → Option (LS × List Ob)
  | some (.ret s, obs, []) => match shrink base ts ks s with
    | some s' => some (s', obs)
    | none => none
  | _ => none

variable {D : List Deferred} {r : Option Nat} {n : Nat} {Q : Exit → Act → World → Prop}

theorem goodAt_shrink {e : Exit} {s s' : LS} {ts ks : List Nat} {base : Nat} (hb : cx.base = base) (hs : Aw.shrink base ts ks s = some s') (h : GoodAt Q e cx D s') : GoodAt Q e cx D s := by
  subst hb
  intro ρ a W hrep
  obtain ⟨h1, h2⟩ := hrep.shrink hs
  exact h _ a W (by rw [h2]; exact h1)

theorem at_of (hT : TOk P T) (hm : P.follows .mixedOrders = true) {f : Nat} {k k' : List K} {s s' : LS} {orc : List Or} (ads : List Adj) (ts ks : List Nat) {base : Nat} (hb : cx.base = base) {x : Code} {obs : List Ob}
    (h : atOf base ts ks (adjO ads (run T f k s orc)) = some (x, k', s', obs)) (hob : Obs P obs) (hg : Good P r n Q cx D (.c x :: k') s') : Good P r n Q cx D k s := by
  unfold atOf at h
  split at h
  · rename_i x' k1 s1 obs' hrun
    split at h
    · rename_i s2 hs
      simp only [Option.some.injEq, Prod.mk.injEq] at h
      obtain ⟨rfl, rfl, rfl, rfl⟩ := h
      obtain ⟨o', hr, hg'⟩ := adjO_ok (P := P) (r := r) (n := n) (Q := Q) (cx := cx) (D := D) hrun
      exact run_ok hT hm f k s orc _ _ _ hr hob (hg' (good_shrink hb hs hg))
    · cases h
  · cases h

theorem norm_of (hT : TOk P T) (hm : P.follows .mixedOrders = true) {f : Nat} {k : List K} {s s' : LS} {orc : List Or} (ads : List Adj) (ts ks : List Nat) {base : Nat} (hb : cx.base = base) {obs : List Ob}
    (h : normOf base ts ks (adjO ads (run T f k s orc)) = some (s', obs)) (hob : Obs P obs) (hg : GoodAt Q .normal cx D s') : Good P r n Q cx D k s := by
  unfold normOf at h
  split at h
  · rename_i s1 obs' hrun
    split at h
    · rename_i s2 hs
      simp only [Option.some.injEq, Prod.mk.injEq] at h
      obtain ⟨rfl, rfl⟩ := h
      obtain ⟨o', hr, hg'⟩ := adjO_ok (P := P) (r := r) (n := n) (Q := Q) (cx := cx) (D := D) hrun
      exact run_ok hT hm f k s orc _ _ _ hr hob (hg' (goodAt_shrink hb hs hg))
    · cases h
  · cases h

theorem rets_of (hT : TOk P T) (hm : P.follows .mixedOrders = true) {f : Nat} {k : List K} {s s' : LS} {orc : List Or} (ads : List Adj) (ts ks : List Nat) {base : Nat} (hb : cx.base = base) {obs : List Ob}
    (h : retsOf base ts ks (adjO ads (run T f k s orc)) = some (s', obs)) (hob : Obs P obs) (hg : GoodAt Q .ret cx D s') : Good P r n Q cx D k s := by
  unfold retsOf at h
  split at h
  · rename_i s1 obs' hrun
    split at h
    · rename_i s2 hs
      simp only [Option.some.injEq, Prod.mk.injEq] at h
      obtain ⟨rfl, rfl⟩ := h
      obtain ⟨o', hr, hg'⟩ := adjO_ok (P := P) (r := r) (n := n) (Q := Q) (cx := cx) (D := D) hrun
      exact run_ok hT hm f k s orc _ _ _ hr hob (hg' (goodAt_shrink hb hs hg))
    · cases h
  · cases h

/-- A run to a return, ahead of the range. -/
theorem retM_of (hT : TOk P T) (hm : P.follows .mixedOrders = true) {fn : Func} {f : Nat} {k : List K} {s : LS} {orc : List Or} (ads : List Adj) (ms ks : List Nat) {base : Nat} (hb : cx.base = base) {res : SV} {nb mb : List BK} {obs : List Ob}
    (h : retOf T fn.results.toList base ms ks (adjO ads (run T f k s orc)) = some (res, nb, mb, obs)) (hob : Obs P obs) : Good P none n (bodyPostM (Fw none) n P fn (RR cx res nb mb)) cx [] k s := by
  subst hb
  unfold retOf at h
  split at h
  · rename_i s' obs' hrun
    split at h
    · rename_i res' nb' mb' hf
      simp only [Option.some.injEq, Prod.mk.injEq] at h
      obtain ⟨rfl, rfl, rfl, rfl⟩ := h
      obtain ⟨o', hr, hg⟩ := adjO_ok (P := P) (r := none) (n := n) (Q := bodyPostM (Fw none) n P fn (RR cx res' nb' mb')) (cx := cx) (D := []) hrun
      exact run_ok hT hm f k s orc _ _ _ hr hob (hg (fin_okM hT hf))
    · cases h
  · cases h

/-- A run to a return, behind the range. -/
theorem retH_of (hT : TOk P T) (hm : P.follows .mixedOrders = true) {fn : Func} {f : Nat} {k : List K} {s : LS} {orc : List Or} (ads : List Adj) (ms ks : List Nat) {base d : Nat} {cx' : Cx} (hh : Held cx d cx') (hb : cx.base = base) {res : SV} {nb mb : List BK} {obs : List Ob}
    (h : retOf T fn.results.toList base ms ks (adjO ads (run T f k s orc)) = some (res, nb, mb, obs)) (hob : Obs P obs) : Good P none n (bodyPostM (Fw none) n P fn (RR cx res nb mb)) cx' [mark d] k s := by
  subst hb
  unfold retOf at h
  split at h
  · rename_i s' obs' hrun
    split at h
    · rename_i res' nb' mb' hf
      simp only [Option.some.injEq, Prod.mk.injEq] at h
      obtain ⟨rfl, rfl, rfl, rfl⟩ := h
      obtain ⟨o', hr, hg⟩ := adjO_ok (P := P) (r := none) (n := n) (Q := bodyPostM (Fw none) n P fn (RR cx res' nb' mb')) (cx := cx') (D := [mark d]) hrun
      exact run_ok hT hm f k s orc _ _ _ hr hob (hg (fin_mark hT hf hh))
    · cases h
  · cases h

/-- The result, where a round has left. -/
theorem finH_of (hT : TOk P T) {fn : Func} {s : LS} (ads : List Adj) (ms ks : List Nat) {s' : LS} (ha : adjs ads s = some s') {base d : Nat} {cx' : Cx} (hh : Held cx d cx') (hb : cx.base = base) {res : SV} {nb mb : List BK}
    (h : fin T fn.results.toList base ms ks s' = some (res, nb, mb)) : GoodAt (bodyPostM (Fw none) n P fn (RR cx res nb mb)) .ret cx' [mark d] s := by
  subst hb
  exact goodAt_adj ha (fin_mark hT h hh)
end
end Go.Aw
