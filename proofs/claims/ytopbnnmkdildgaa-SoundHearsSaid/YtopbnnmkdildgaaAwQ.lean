/-
  A symbolic executor for the model's code, part Q: certificates, checked by reckoning: a run to the return; a run to a loop's head. Generic in the program. No premise.
-/
import Derived.Test.YtopbnnmkdildgaaAwP
import Derived.Shelf.Abstract
namespace Go.Aw
open Go.RowKit
set_option linter.unusedVariables false
set_option linter.unusedSimpArgs false

theorem ent {P : Program} {f : Nat} {fn : Func} {c : Code} (hf : P.funcs[f]? = some fn) (hname : (fn.name == "runtime.NumGoroutine") = false) (hb : fn.body = some c) : Enters P f := Go.Proofs.enters_of hf hname hb

/-- A run that comes to a return: the result, the new blocks, what is owed. -/
def retOf (T : Nat → Option TI) (rv : List ResultVar) (base : Nat) (ms ks : List Nat) : Option (Out × List Ob × List Or) → Option (SV × List BK × List BK × List Ob)
  | some (.ret s, obs, []) => match fin T rv base ms ks s with
    | some (res, nb, mb) => some (res, nb, mb, obs)
    | none => none
  | _ => none

def renSl (R ts : List Nat) : Nat → List SV → Option (List SV)
  | _, [] => some []
  | t, x :: l => match (if ts.contains t then ren R x else some .u), renSl R ts (t + 1) l with
    | some y, some m => some (y :: m)
    | _, _ => none

def renK (R : List Nat) : BK → Option BK
  | .live own true cells => some (.live own true cells)
  | .live own false cells => match renL R cells with
    | some l => some (.live own false l)
    | none => none
  | .dead => some .dead
  | .un => none

def renKs (R : List Nat) (bk : Nat → BK) : List Nat → Option (List BK)
  | [] => some []
  | k :: l => match renK R (bk k), renKs R bk l with
    | some x, some m => some (x :: m)
    | _, _ => none

/-- The state with the slots ts and the blocks ks (behind those that were handed over) alone. -/
def shrink (base : Nat) (ts ks : List Nat) (s : LS) : Option LS :=
  let R := List.range base ++ ks
  match renSl R ts 0 s.sl, renKs R s.fs.bk R with
  | some sl, some bk => if nodupB R then some ⟨sl, bk⟩ else none
  | _, _ => none

def enterOf (base : Nat) (ts ks : List Nat) : Option (Out × List Ob × List Or) → Option (Code × List K × LS × List Ob)
  | some (.enter body k s, obs, []) => match shrink base ts ks s with
    | some s' => some (body, k, s', obs)
    | none => none
  | _ => none

def backOf (base : Nat) (ts ks : List Nat) : Option (Out × List Ob × List Or) → Option (Code × Nat × List K × LS × List Ob)
  | some (.back body m k s, obs, []) => match shrink base ts ks s with
    | some s' => some (body, m, k, s', obs)
    | none => none
  | _ => none

section
variable {P : Program} {T : Nat → Option TI} {cx : Cx} {D : List Deferred} {r : Option Nat} {n : Nat} {Q : Exit → Act → World → Prop}

theorem good_ret (hT : TOk P T) (hm : P.follows .mixedOrders = true) {fn : Func} {f : Nat} {k : List K} {s : LS} {orc : List Or} {ms ks : List Nat} {base : Nat} (hb : cx.base = base) {res : SV} {nb mb : List BK} {obs : List Ob}
    (h : retOf T fn.results.toList base ms ks (run T f k s orc) = some (res, nb, mb, obs)) (hob : Obs P obs) : Good P none n (bodyPost P fn (RR cx res nb mb)) cx [] k s := by
  subst hb
  unfold retOf at h
  split at h
  · rename_i s' obs' hrun
    split at h
    · rename_i res' nb' mb' hf
      simp only [Option.some.injEq, Prod.mk.injEq] at h
      obtain ⟨rfl, rfl, rfl, rfl⟩ := h
      exact run_ok hT hm f k s orc _ _ _ hrun hob (fin_ok hT hf)
    · cases h
  · cases h

theorem renSl_spec {ρ : Env} {R ts : List Nat} : ∀ (l m : List SV) (t : Nat), renSl R ts t l = some m → m.length = l.length ∧ ∀ (i : Nat) (y : SV), m[i]? = some y → y = .u ∨ ∃ x, l[i]? = some x ∧ ren R x = some y
  | [], m, t, h => by simp only [renSl, Option.some.injEq] at h; subst h; simp
  | x :: l, m, t, h => by
    simp only [renSl] at h
    split at h
    · rename_i y m' hy hm
      simp only [Option.some.injEq] at h; subst h
      obtain ⟨h1, h2⟩ := renSl_spec (ρ := ρ) l m' (t + 1) hm
      refine ⟨by simp [h1], fun i z hi => ?_⟩
      cases i with
      | zero =>
        simp at hi; subst hi
        split at hy
        · exact .inr ⟨x, by simp, hy⟩
        · simp at hy; exact .inl hy.symm
      | succ i =>
        rcases h2 i z (by simpa using hi) with h' | ⟨x', h', h''⟩
        · exact .inl h'
        · exact .inr ⟨x', by simpa using h', h''⟩
    · cases h

theorem renKs_spec {R : List Nat} {bk : Nat → BK} : ∀ (l : List Nat) (m : List BK), renKs R bk l = some m → m.length = l.length ∧ ∀ (i : Nat) (y : BK), m[i]? = some y → ∃ k, l[i]? = some k ∧ renK R (bk k) = some y
  | [], m, h => by simp only [renKs, Option.some.injEq] at h; subst h; simp
  | k :: l, m, h => by
    simp only [renKs] at h
    split at h
    · rename_i x m' hx hm
      simp only [Option.some.injEq] at h; subst h
      obtain ⟨h1, h2⟩ := renKs_spec l m' hm
      refine ⟨by simp [h1], fun i y hi => ?_⟩
      cases i with
      | zero => simp at hi; subst hi; exact ⟨k, by simp, hx⟩
      | succ i =>
        obtain ⟨k', e1, e2⟩ := h2 i y (by simpa using hi)
        exact ⟨k', by simpa using e1, e2⟩
    · cases h

mutual
theorem ren_has {ks : List Nat} {k : Nat} : ∀ (x y : SV), ren ks x = some y → y.has k → k < ks.length
  | .u, y, h, hk => by simp only [ren, Option.some.injEq] at h; subst h; simp [SV.has] at hk
  | .b x, y, h, hk => by simp only [ren, Option.some.injEq] at h; subst h; simp [SV.has] at hk
  | .v x, y, h, hk => by simp only [ren, Option.some.injEq] at h; subst h; simp [SV.has] at hk
  | .p j off, y, h, hk => by
    simp only [ren] at h
    split at h
    · rename_i i hi; simp only [Option.some.injEq] at h; subst h
      simp only [SV.has] at hk; subst hk
      exact (List.getElem?_eq_some_iff.1 (idxOf_spec hi)).1
    · cases h
  | .s j off len es, y, h, hk => by
    simp only [ren] at h
    split at h
    · rename_i i hi; simp only [Option.some.injEq] at h; subst h
      simp only [SV.has] at hk; subst hk
      exact (List.getElem?_eq_some_iff.1 (idxOf_spec hi)).1
    · cases h
  | .f g caps, y, h, hk => by
    simp only [ren] at h
    split at h
    · rename_i l hl; simp only [Option.some.injEq] at h; subst h
      exact renL_has caps l hl (by simpa [SV.has] using hk)
    · cases h
  | .a l', y, h, hk => by
    simp only [ren] at h
    split at h
    · rename_i l hl; simp only [Option.some.injEq] at h; subst h
      exact renL_has l' l hl (by simpa [SV.has] using hk)
    · cases h
  | .t l', y, h, hk => by
    simp only [ren] at h
    split at h
    · rename_i l hl; simp only [Option.some.injEq] at h; subst h
      exact renL_has l' l hl (by simpa [SV.has] using hk)
    · cases h
theorem renL_has {ks : List Nat} {k : Nat} : ∀ (l m : List SV), renL ks l = some m → SV.hasl k m → k < ks.length
  | [], m, h, hk => by simp only [renL, Option.some.injEq] at h; subst h; simp [SV.hasl] at hk
  | x :: l, m, h, hk => by
    simp only [renL] at h
    split at h
    · rename_i y m' hy hm
      simp only [Option.some.injEq] at h; subst h
      simp only [SV.hasl] at hk
      rcases hk with hk | hk
      · exact ren_has x y hy hk
      · exact renL_has l m' hm hk
    · cases h
end

theorem renK_cases {R : List Nat} {x y : BK} (hx : renK R x = some y) (hp : x.pl) : (x = .dead ∧ y = .dead) ∨ ∃ own sym cells l, x = .live own sym cells ∧ y = .live own sym l ∧ (∀ (ρ : Env) vs, Rels ρ cells vs → Rels (envOf ρ R) l vs) ∧ (cells = [] → l = []) ∧ (∀ k, SV.hasl k l → k < R.length) ∧ y.pl := by
  cases x with
  | un => simp [renK] at hx
  | dead => simp only [renK, Option.some.injEq] at hx; exact .inl ⟨rfl, hx.symm⟩
  | live own sym cells =>
    cases sym with
    | true =>
      simp only [renK, Option.some.injEq] at hx; subst hx
      exact .inr ⟨own, true, cells, cells, rfl, rfl, fun ρ vs h => Plain.congr hp h, id, fun k hk => (hp k hk).elim, hp⟩
    | false =>
      simp only [renK] at hx
      split at hx
      · rename_i l hl
        simp only [Option.some.injEq] at hx; subst hx
        exact .inr ⟨own, false, cells, l, rfl, rfl, fun ρ vs h => renL_rel cells l vs hl h, fun e => by subst e; simp only [renL, Option.some.injEq] at hl; exact hl.symm, fun k hk => renL_has cells l hl hk, trivial⟩
      · cases hx

theorem renK_rep {ρ : Env} {R : List Nat} {M : Nat → Prop} {W : World} {k i : Nat} {x y : BK} (hk : R[i]? = some k) (hx : renK R x = some y) (hp : x.pl) (h : BRep ρ M W k x) : BRep (envOf ρ R) M W i y := by
  have he : envOf ρ R i = ρ k := by unfold envOf; rw [hk]
  rcases renK_cases hx hp with ⟨rfl, rfl⟩ | ⟨own, sym, cells, l, rfl, rfl, hr, hn, _, _⟩
  · trivial
  · cases own with
    | true =>
      rcases h with ⟨h1, h2⟩ | ⟨b, vs, rest, ty, h1, h2, h3, h4⟩
      · exact .inl ⟨he.trans h1, hn h2⟩
      · exact .inr ⟨b, vs, rest, ty, he.trans h1, h2, hr ρ vs h3, h4⟩
    | false =>
      rcases h with ⟨h1, h2⟩ | ⟨b, o, m, vs, h1, h2, h3, h4⟩
      · exact .inl ⟨he.trans h1, hn h2⟩
      · exact .inr ⟨b, o, m, vs, he.trans h1, h2, hr ρ vs h3, h4⟩

theorem renK_own {R : List Nat} {x y : BK} (hx : renK R x = some y) (hp : x.pl) (h : y.own) : x.own := by
  rcases renK_cases hx hp with ⟨rfl, rfl⟩ | ⟨own, sym, cells, l, rfl, rfl, _⟩
  · exact h
  · cases own <;> exact h

theorem renK_ne {R : List Nat} {x y : BK} (hx : renK R x = some y) (hp : x.pl) : y ≠ .un ∧ y.pl := by
  rcases renK_cases hx hp with ⟨rfl, rfl⟩ | ⟨own, sym, cells, l, rfl, rfl, _, _, _, h⟩
  · exact ⟨by simp, trivial⟩
  · exact ⟨by simp, h⟩

theorem Rep.shrink {N : Nat} {ρ : Env} {a : Act} {W : World} {s s' : LS} {ts ks : List Nat} (h : Rep cx N D ρ s.fs a W) (hs : Aw.shrink cx.base ts ks s = some s') :
    Rep cx N D (envOf ρ (List.range cx.base ++ ks)) s'.fs a W ∧ s'.sl.length = s.sl.length := by
  unfold Aw.shrink at hs
  simp only at hs
  split at hs
  · rename_i sl bk hsl hbk
    split at hs
    · rename_i hnd
      simp only [Option.some.injEq] at hs
      subst hs
      obtain ⟨l1, l2⟩ := renSl_spec (ρ := ρ) _ _ _ hsl
      obtain ⟨b1, b2⟩ := renKs_spec _ _ hbk
      have hnun : ∀ j, j < (List.range cx.base ++ ks).length → bk.getD j .un ≠ .un := fun j hj => by
        have hlt : j < bk.length := by rw [b1]; exact hj
        obtain ⟨k, _, hk⟩ := b2 j bk[j] (by simp [hlt])
        rw [show bk.getD j .un = bk[j] by simp [List.getD_eq_getElem?_getD, hlt]]
        exact (renK_ne hk (h.pl k)).1
      have get : ∀ j, (∃ k, (List.range cx.base ++ ks)[j]? = some k ∧ renK (List.range cx.base ++ ks) (s.fs.bk k) = some (bk.getD j .un)) ∨ bk.getD j .un = .un := fun j => by
        cases hj : bk[j]? with
        | none => exact .inr (by simp [List.getD_eq_getElem?_getD, hj])
        | some y =>
          obtain ⟨k, h1, h2⟩ := b2 j y hj
          exact .inl ⟨k, h1, by rw [show bk.getD j .un = y by simp [List.getD_eq_getElem?_getD, hj]]; exact h2⟩
      have hplg : ∀ j, (bk.getD j .un).pl := fun j => by
        rcases get j with ⟨k, _, h2⟩ | h0
        · exact (renK_ne h2 (h.pl k)).2
        · rw [h0]; trivial
      refine ⟨{ defs := h.defs, size := h.size, sl := fun t => ?_, bk := fun j => ?_, apart := fun i j b m b' m' hij hi hj e1 e2 => ?_, wf1 := fun t k hk => ?_, wf2 := fun j k hk => ?_, kept := h.kept, pl := hplg, old := fun i hi => ⟨?_, ?_⟩ }, l1⟩
      · simp only [LS.fs]
        cases ht : sl[t]? with
        | none => simp [List.getD_eq_getElem?_getD, ht, Rel]
        | some y =>
          rw [show sl.getD t .u = y by simp [List.getD_eq_getElem?_getD, ht]]
          rcases l2 t y ht with rfl | ⟨x, hx, hr⟩
          · simp [Rel]
          · have := h.sl t
            simp only [LS.fs, List.getD_eq_getElem?_getD, hx, Option.getD_some] at this
            exact ren_rel x y _ hr this
      · simp only [LS.fs]
        rcases get j with ⟨k, h1, h2⟩ | h0
        · exact renK_rep h1 h2 (h.pl k) (h.bk k)
        · rw [h0]; trivial
      · simp only [LS.fs] at hi hj
        rcases get i with ⟨k1, g1, g2⟩ | h0
        · rcases get j with ⟨k2, q1, q2⟩ | h0
          · simp only [envOf, g1] at e1
            simp only [envOf, q1] at e2
            refine h.apart k1 k2 b m b' m' (fun e => hij ?_) (renK_own g2 (h.pl k1) hi) (renK_own q2 (h.pl k2) hj) e1 e2
            subst e
            exact nodupB_spec hnd i j k1 g1 q1
          · rw [h0] at hj; exact hj.elim
        · rw [h0] at hi; exact hi.elim
      · simp only [LS.fs] at hk
        cases ht : sl[t]? with
        | none => rw [List.getD_eq_getElem?_getD, ht] at hk; simp [SV.has] at hk
        | some y =>
          rw [show sl.getD t .u = y by simp [List.getD_eq_getElem?_getD, ht]] at hk
          rcases l2 t y ht with rfl | ⟨x, hx, hr⟩
          · simp [SV.has] at hk
          · exact hnun k (ren_has x y hr hk)
      · simp only [LS.fs] at hk
        rcases get j with ⟨k1, g1, g2⟩ | h0
        · refine hnun k ?_
          rcases renK_cases g2 (h.pl k1) with ⟨e1, e2⟩ | ⟨own, sym, cells, l, e1, e2, _, _, hl, _⟩
          · rw [e2] at hk; exact hk.elim
          · rw [e2] at hk; exact hl k hk
        · rw [h0] at hk; exact hk.elim
      · have : (List.range cx.base ++ ks)[i]? = some i := by
          rw [List.getElem?_append_left (by simpa using hi)]; simp [hi]
        simp only [envOf, this]
        exact (h.old i hi).1
      · simp only [LS.fs]
        exact hnun i (by simp; omega)
    · cases hs
  · cases hs

theorem good_shrink {k : List K} {s s' : LS} {ts ks : List Nat} {base : Nat} (hb : cx.base = base) (hs : Aw.shrink base ts ks s = some s') (h : Good P r n Q cx D k s') : Good P r n Q cx D k s := by
  subst hb
  intro ρ a W hrep
  obtain ⟨h1, h2⟩ := hrep.shrink hs
  exact h _ a W (by rw [h2]; exact h1)

theorem good_enter (hT : TOk P T) (hm : P.follows .mixedOrders = true) {f : Nat} {k k' : List K} {s s' : LS} {orc : List Or} {ts ks : List Nat} {base : Nat} (hb : cx.base = base) {body : Code} {obs : List Ob}
    (h : enterOf base ts ks (run T f k s orc) = some (body, k', s', obs)) (hob : Obs P obs) (hg : ∃ m, Good P r n Q cx D (.l body m :: k') s') : Good P r n Q cx D k s := by
  unfold enterOf at h
  split at h
  · rename_i body' k1 s1 obs' hrun
    split at h
    · rename_i s2 hs
      simp only [Option.some.injEq, Prod.mk.injEq] at h
      obtain ⟨rfl, rfl, rfl, rfl⟩ := h
      obtain ⟨m, hg⟩ := hg
      exact run_ok hT hm f k s orc _ _ _ hrun hob ⟨m, good_shrink hb hs hg⟩
    · cases h
  · cases h

theorem good_back (hT : TOk P T) (hm : P.follows .mixedOrders = true) {f m : Nat} {k k' : List K} {s s' : LS} {orc : List Or} {ts ks : List Nat} {base : Nat} (hb : cx.base = base) {body : Code} {obs : List Ob}
    (h : backOf base ts ks (run T f k s orc) = some (body, m, k', s', obs)) (hob : Obs P obs) (hg : Good P r n Q cx D (.l body m :: k') s') : Good P r n Q cx D k s := by
  unfold backOf at h
  split at h
  · rename_i body' m' k1 s1 obs' hrun
    split at h
    · rename_i s2 hs
      simp only [Option.some.injEq, Prod.mk.injEq] at h
      obtain ⟨rfl, rfl, rfl, rfl, rfl⟩ := h
      exact run_ok hT hm f k s orc _ _ _ hrun hob (good_shrink hb hs hg)
    · cases h
  · cases h

/-- Where a loop stands in a function's code: its body, and what is to be done behind it. -/
def loopAt : List Nat → List Nat → Code → List K → Option (Code × List K)
  | p, ms, .seq a b, k => match p with
    | 0 :: p => loopAt p ms a (.c b :: k)
    | _ :: p => loopAt p ms b k
    | [] => none
  | p, ms, .block id c, k => loopAt p ms c (.b id :: k)
  | p, ms, .cond _ a b, k => match p with
    | 0 :: p => loopAt p ms a k
    | _ :: p => loopAt p ms b k
    | [] => none
  | p, ms, .loop body, k => match p, ms with
    | [], _ => some (body, k)
    | _ :: p, m :: ms => loopAt p ms body (.l body m :: k)
    | _ :: _, [] => none
  | _, _, _, _ => none

end
end Go.Aw
