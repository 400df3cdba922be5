/-
  A symbolic executor for the model's code, part R: states that say the same in other words (a nil slice with a block's name); loops that count. Generic in the program. No premise.
-/
import Derived.Test.YtopbnnmkdildgaaAwQ
namespace Go.Aw
open Go.RowKit
set_option linter.unusedVariables false
set_option linter.unusedSimpArgs false

section
variable {P : Program} {T : Nat → Option TI} {cx : Cx} {N : Nat} {D : List Deferred} {ρ : Env} {s : FS} {a : Act} {W : World}

/-- A name for no block. -/
theorem Rep.none (h : Rep cx N D ρ s a W) {k : Nat} (hk : s.bk k = .un) : Rep cx N D (fun j => if j = k then Option.none else ρ j) ⟨s.sl, fun j => if j = k then .live true true [] else s.bk j⟩ a W := by
  have hne : ∀ j, s.bk j ≠ .un → (if j = k then Option.none else ρ j) = ρ j := fun j hj => if_neg (fun e => hj (by rw [e]; exact hk))
  have hun : ∀ j, s.bk j ≠ .un → (if j = k then BK.live true true [] else s.bk j) ≠ .un := fun j hj => by
    split
    · simp
    · exact hj
  have hpl : ∀ j, (if j = k then BK.live true true [] else s.bk j).pl := fun j => by
    split
    · intro i hi; simp [SV.hasl] at hi
    · exact h.pl j
  refine { pl := hpl, defs := h.defs, size := h.size, sl := fun t => Rel.congr _ _ (fun j hj => hne j (h.wf1 t j hj)) (h.sl t), bk := fun j => ?_, apart := fun i j b n b' n' hij hi hj e1 e2 => ?_, wf1 := fun t j hj => hun j (h.wf1 t j hj), wf2 := fun i j hj => ?_, kept := h.kept, old := fun i hi => ⟨(hne i (h.old i hi).2).trans (h.old i hi).1, hun i (h.old i hi).2⟩ }
  · by_cases hj : j = k
    · subst hj; simp only [if_true]; exact .inl ⟨by simp, rfl⟩
    · simp only [hj, if_false]
      exact BRep.congr (by simp [hj]) (fun i hi => hne i (h.wf2 j i hi)) (h.bk j)
  · by_cases hik : i = k
    · simp [hik] at e1
    · by_cases hjk : j = k
      · simp [hjk] at e2
      · simp only [hik, hjk, if_false] at hi hj e1 e2
        exact h.apart i j b n b' n' hij hi hj e1 e2
  · by_cases hik : i = k
    · simp [hik, BK.has, SV.hasl] at hj
    · simp only [hik, if_false] at hj
      exact hun j (h.wf2 i j hj)

/-- The same, said in other words. -/
theorem Rep.sub (h : Rep cx N D ρ s a W) (s' : FS) (hsl : ∀ t y, Rel ρ (s.sl t) y → Rel ρ (s'.sl t) y) (hbk : ∀ k, BRep ρ cx.mine W k (s.bk k) → BRep ρ cx.mine W k (s'.bk k)) (hown : ∀ k, (s'.bk k).own → (s.bk k).own)
    (hun : ∀ k, s.bk k ≠ .un → s'.bk k ≠ .un) (hw1 : ∀ t k, (s'.sl t).has k → s'.bk k ≠ .un) (hw2 : ∀ j k, (s'.bk j).has k → s'.bk k ≠ .un) (hpl : ∀ k, (s'.bk k).pl) : Rep cx N D ρ s' a W :=
  { pl := hpl, defs := h.defs, size := h.size, sl := fun t => hsl t _ (h.sl t), bk := fun k => hbk k (h.bk k), apart := fun i j b n b' n' hij hi hj => h.apart i j b n b' n' hij (hown i hi) (hown j hj), wf1 := hw1, wf2 := hw2, kept := h.kept, old := fun i hi => ⟨(h.old i hi).1, hun i (h.old i hi).2⟩ }

theorem Rels.set {l : List SV} {m : List Value} {i : Nat} {x x' : SV} (h : Rels ρ l m) (hx : l[i]? = some x) (hs : ∀ y, Rel ρ x y → Rel ρ x' y) : Rels ρ (l.set i x') m := by
  induction l generalizing m i with
  | nil => simp at hx
  | cons z l ih =>
    cases m with
    | nil => simp [Rels] at h
    | cons y m =>
      simp only [Rels] at h
      cases i with
      | zero => simp at hx; subst hx; simp only [List.set_cons_zero, Rels]; exact ⟨hs y h.1, h.2⟩
      | succ i => simp at hx; simp only [List.set_cons_succ, Rels]; exact ⟨h.1, ih h.2 hx⟩

theorem hasl_set {k i : Nat} {x : SV} {l : List SV} (h : SV.hasl k (l.set i x)) : SV.hasl k l ∨ x.has k := by
  rw [hasl_iff] at h
  obtain ⟨y, hy, hk⟩ := h
  rcases List.mem_or_eq_of_mem_set hy with hy | rfl
  · exact .inl (hasl_iff.2 ⟨y, hy, hk⟩)
  · exact .inr hk

inductive Adj where
  | slot (t es : Nat)
  | cell (k i es : Nat)
  | sym (k : Nat) (b : Bool)
  | kill (k : Nat)

def adj1 : Adj → LS → Option LS
  | .slot t es, s => match s.sl[t]? with
    | some (.v (.slice none 0 0)) => some ⟨s.sl.set t (.s s.bk.length 0 0 es), s.bk ++ [.live true true []]⟩
    | _ => none
  | .cell k i es, s => match s.bk[k]? with
    | some (.live own false cells) => match cells[i]? with
      | some (.v (.slice none 0 0)) => some ⟨s.sl, s.bk.set k (.live own false (cells.set i (.s s.bk.length 0 0 es))) ++ [.live true true []]⟩
      | _ => none
    | _ => none
  | .sym k b, s => match s.bk[k]? with
    | some (.live own _ cells) => if (!b || cells.all SV.plain) = true then some ⟨s.sl, s.bk.set k (.live own b cells)⟩ else none
    | _ => none
  | .kill k, s => match s.bk[k]? with
    | some (.live own _ cells) => some ⟨s.sl, s.bk.set k .dead⟩
    | _ => none

def adjs : List Adj → LS → Option LS
  | [], s => some s
  | x :: l, s => match adj1 x s with
    | some s => adjs l s
    | none => none

theorem getD_append_un {l : List BK} {x : BK} {j : Nat} : (l ++ [x]).getD j .un = if j = l.length then x else l.getD j .un := by
  simp only [List.getD_eq_getElem?_getD]
  by_cases hj : j = l.length
  · subst hj; simp
  · rw [if_neg hj]
    by_cases hlt : j < l.length
    · rw [List.getElem?_append_left hlt]
    · rw [List.getElem?_eq_none (by simp; omega), List.getElem?_eq_none (by omega)]

theorem getD_set_un {l : List BK} {k j : Nat} {x : BK} (hk : k < l.length) : (l.set k x).getD j .un = if j = k then x else l.getD j .un := by
  simp only [List.getD_eq_getElem?_getD, List.getElem?_set]
  by_cases hj : j = k
  · subst hj; simp [hk]
  · rw [if_neg hj, if_neg (fun e => hj e.symm)]

theorem adj1_ok {s s' : LS} {x : Adj} (h : adj1 x s = some s') (hr : Rep cx N D ρ s.fs a W) : ∃ ρ', Rep cx N D ρ' s'.fs a W ∧ s'.sl.length = s.sl.length := by
  have hfree : s.fs.bk s.bk.length = .un := getD_len (Nat.le_refl _)
  cases x with
  | slot t es =>
    simp only [adj1] at h
    split at h
    · rename_i ht
      simp only [Option.some.injEq] at h; subst h
      have h1 := hr.none hfree
      refine ⟨_, h1.sub _ (fun u y hy => ?_) (fun k hk => ?_) (fun k hk => ?_) (fun k hk => ?_) (fun u k hk => ?_) (fun j k hk => ?_) (fun k => ?_), by simp⟩
      · simp only [LS.fs, List.getD_eq_getElem?_getD, List.getElem?_set] at hy ⊢
        by_cases hu : t = u
        · subst hu
          have hlt := (List.getElem?_eq_some_iff.1 ht).1
          rw [ht] at hy
          simp only [Option.getD_some, Rel] at hy
          subst hy
          simp [hlt, Rel]
        · simpa [hu] using hy
      · simp only [LS.fs, getD_append_un] at hk ⊢
        exact hk
      · simp only [LS.fs, getD_append_un] at hk ⊢
        exact hk
      · simp only [LS.fs, getD_append_un] at hk ⊢
        exact hk
      · simp only [LS.fs, getD_append_un]
        simp only [LS.fs, List.getD_eq_getElem?_getD, List.getElem?_set] at hk
        by_cases hu : t = u
        · subst hu
          have hlt := (List.getElem?_eq_some_iff.1 ht).1
          simp [hlt, SV.has] at hk
          rw [if_pos hk.symm]; simp
        · simp only [hu, if_false] at hk
          refine h1.wf1 u k ?_
          simp only [LS.fs, List.getD_eq_getElem?_getD]
          exact hk
      · simp only [LS.fs, getD_append_un] at hk ⊢
        have := h1.wf2 j k
        simp only [LS.fs] at this
        exact this hk
      · simp only [LS.fs, getD_append_un]
        exact h1.pl k
    · cases h
  | cell k0 i es =>
    simp only [adj1] at h
    split at h
    · rename_i own cells hb
      split at h
      · rename_i hi
        simp only [Option.some.injEq] at h; subst h
        have h1 := hr.none hfree
        have hlt := (List.getElem?_eq_some_iff.1 hb).1
        have hk0 : s.bk.getD k0 .un = .live own false cells := by simp [List.getD_eq_getElem?_getD, hb]
        have hg : ∀ j, (s.bk.set k0 (.live own false (cells.set i (.s s.bk.length 0 0 es))) ++ [BK.live true true []]).getD j .un = if j = s.bk.length then .live true true [] else if j = k0 then .live own false (cells.set i (.s s.bk.length 0 0 es)) else s.bk.getD j .un := fun j => by
          rw [getD_append_un, List.length_set, getD_set_un hlt]
        have hun : ∀ k, (if k = s.bk.length then BK.live true true [] else s.bk.getD k .un) ≠ .un → (if k = s.bk.length then BK.live true true [] else if k = k0 then .live own false (cells.set i (.s s.bk.length 0 0 es)) else s.bk.getD k .un) ≠ .un := fun k hk => by
          by_cases h' : k = s.bk.length
          · rw [if_pos h']; simp
          · rw [if_neg h'] at hk ⊢
            by_cases h'' : k = k0
            · rw [if_pos h'']; simp
            · rw [if_neg h'']; exact hk
        have hsub : ∀ y, Rel (fun j => if j = s.bk.length then Option.none else ρ j) (.v (.slice Option.none 0 0)) y → Rel (fun j => if j = s.bk.length then Option.none else ρ j) (.s s.bk.length 0 0 es) y := fun y hy => by
          simp only [Rel] at hy ⊢; subst hy; simp
        refine ⟨_, h1.sub _ (fun u y hy => hy) (fun k hk => ?_) (fun k hk => ?_) (fun k hk => ?_) (fun u k hk => ?_) (fun j k hk => ?_) (fun k => ?_), rfl⟩
        · simp only [LS.fs] at hk ⊢
          rw [hg]
          by_cases h' : k = s.bk.length
          · simp only [h', if_true] at hk ⊢; exact hk
          · simp only [h', if_false] at hk ⊢
            by_cases h'' : k = k0
            · subst h''
              rw [hk0] at hk
              simp only [if_true]
              cases own with
              | true =>
                rcases hk with ⟨q1, q2⟩ | ⟨b, vs, rest, ty, q1, q2, q3, q4⟩
                · rw [q2] at hi; simp at hi
                · exact .inr ⟨b, vs, rest, ty, q1, q2, q3.set hi hsub, q4⟩
              | false =>
                rcases hk with ⟨q1, q2⟩ | ⟨b, o, n, vs, q1, q2, q3, q4⟩
                · rw [q2] at hi; simp at hi
                · exact .inr ⟨b, o, n, vs, q1, q2, q3.set hi hsub, q4⟩
            · simp only [h'', if_false]; exact hk
        · simp only [LS.fs] at hk ⊢
          rw [hg] at hk
          by_cases h' : k = s.bk.length
          · simp only [h', if_true]; trivial
          · simp only [h', if_false] at hk ⊢
            by_cases h'' : k = k0
            · subst h''; simp only [if_true] at hk; rw [hk0]; cases own <;> exact hk
            · simp only [h'', if_false] at hk; exact hk
        · simp only [LS.fs] at hk ⊢
          rw [hg]; exact hun k hk
        · simp only [LS.fs] at hk ⊢
          rw [hg]; exact hun k (h1.wf1 u k hk)
        · simp only [LS.fs] at hk ⊢
          rw [hg] at hk ⊢
          refine hun k ?_
          by_cases h' : j = s.bk.length
          · simp [h', BK.has, SV.hasl] at hk
          · simp only [h', if_false] at hk
            by_cases h'' : j = k0
            · subst h''
              simp only [if_true, BK.has] at hk
              rcases hasl_set hk with hk | hk
              · refine h1.wf2 j k ?_
                simp only [LS.fs, h', if_false, hk0, BK.has]; exact hk
              · simp only [SV.has] at hk; rw [if_pos hk.symm]; simp
            · simp only [h'', if_false] at hk
              refine h1.wf2 j k ?_
              simp only [LS.fs, h', if_false]; exact hk
        · simp only [LS.fs]
          rw [hg]
          have := h1.pl k
          simp only [LS.fs] at this
          by_cases h' : k = s.bk.length
          · simp only [h', if_true] at this ⊢; exact this
          · simp only [h', if_false] at this ⊢
            by_cases h'' : k = k0
            · simp only [h'', if_true]; trivial
            · simp only [h'', if_false]; exact this
      · cases h
    · cases h
  | sym k0 b0 =>
    simp only [adj1] at h
    split at h
    · rename_i own sym cells hb
      split at h
      case isFalse => cases h
      rename_i hpb
      simp only [Option.some.injEq] at h; subst h
      have hlt := (List.getElem?_eq_some_iff.1 hb).1
      have hk0 : s.bk.getD k0 .un = .live own sym cells := by simp [List.getD_eq_getElem?_getD, hb]
      have hun : ∀ k, s.bk.getD k .un ≠ .un → (if k = k0 then BK.live own b0 cells else s.bk.getD k .un) ≠ .un := fun k hk => by
        split
        · simp
        · exact hk
      refine ⟨ρ, hr.sub _ (fun u y hy => hy) (fun k hk => ?_) (fun k hk => ?_) (fun k hk => ?_) (fun u k hk => ?_) (fun j k hk => ?_) (fun k => ?_), rfl⟩
      · simp only [LS.fs] at hk ⊢
        rw [getD_set_un hlt]
        by_cases h'' : k = k0
        · subst h''; rw [hk0] at hk; simp only [if_true]; cases own <;> exact hk
        · simp only [h'', if_false]; exact hk
      · simp only [LS.fs] at hk ⊢
        rw [getD_set_un hlt] at hk
        by_cases h'' : k = k0
        · subst h''; simp only [if_true] at hk; rw [hk0]; cases own <;> exact hk
        · simp only [h'', if_false] at hk; exact hk
      · simp only [LS.fs] at hk ⊢
        rw [getD_set_un hlt]; exact hun k hk
      · simp only [LS.fs] at hk ⊢
        rw [getD_set_un hlt]; exact hun k (hr.wf1 u k hk)
      · simp only [LS.fs] at hk ⊢
        rw [getD_set_un hlt] at hk ⊢
        refine hun k (hr.wf2 j k ?_)
        simp only [LS.fs]
        by_cases h'' : j = k0
        · subst h''; simp only [if_true] at hk; rw [hk0]; exact hk
        · simp only [h'', if_false] at hk; exact hk
      · simp only [LS.fs]
        rw [getD_set_un hlt]
        split
        · cases b0 with
          | false => trivial
          | true => exact plain_all (by simpa using hpb)
        · exact hr.pl k
    · cases h
  | kill k0 =>
    simp only [adj1] at h
    split at h
    · rename_i own sym cells hb
      simp only [Option.some.injEq] at h; subst h
      have hlt := (List.getElem?_eq_some_iff.1 hb).1
      have hk0 : s.fs.bk k0 ≠ .un := by simp [LS.fs, List.getD_eq_getElem?_getD, hb]
      have h1 := hr.kill k0 hk0
      refine ⟨ρ, ?_, rfl⟩
      have e : s.fs.app none { val := .u, ups := [(k0, .dead)] } = (⟨s.sl, s.bk.set k0 .dead⟩ : LS).fs := by
        simp only [FS.app, LS.fs, upds]
        congr 1
        funext k
        rw [getD_set_un hlt]
      rw [← e]; exact h1
    · cases h

theorem adjs_ok : ∀ (l : List Adj) {s s' : LS} {ρ : Env}, adjs l s = some s' → Rep cx N D ρ s.fs a W → ∃ ρ', Rep cx N D ρ' s'.fs a W ∧ s'.sl.length = s.sl.length
  | [], s, s', ρ, h, hr => by simp only [adjs, Option.some.injEq] at h; subst h; exact ⟨ρ, hr, rfl⟩
  | x :: l, s, s', ρ, h, hr => by
    simp only [adjs] at h
    split at h
    · rename_i s1 h1
      obtain ⟨ρ1, r1, e1⟩ := adj1_ok h1 hr
      obtain ⟨ρ2, r2, e2⟩ := adjs_ok l h r1
      exact ⟨ρ2, r2, e2.trans e1⟩
    · cases h

def adjO (l : List Adj) : Option (Out × List Ob × List Or) → Option (Out × List Ob × List Or)
  | some (.ret s, obs, orc) => match adjs l s with
    | some s => some (.ret s, obs, orc)
    | none => none
  | some (.norm s, obs, orc) => match adjs l s with
    | some s => some (.norm s, obs, orc)
    | none => none
  | some (.enter body k s, obs, orc) => match adjs l s with
    | some s => some (.enter body k s, obs, orc)
    | none => none
  | some (.back body m k s, obs, orc) => match adjs l s with
    | some s => some (.back body m k s, obs, orc)
    | none => none
  | some (.at x k s, obs, orc) => match adjs l s with
    | some s => some (.at x k s, obs, orc)
    | none => none
  | none => none

end

section
variable {P : Program} {T : Nat → Option TI} {cx : Cx} {D : List Deferred} {r : Option Nat} {n : Nat} {Q : Exit → Act → World → Prop}

theorem goodAt_adj {e : Exit} {l : List Adj} {s s' : LS} (h : adjs l s = some s') (hg : GoodAt Q e cx D s') : GoodAt Q e cx D s := fun ρ a W hr => by
  obtain ⟨ρ', r', e'⟩ := adjs_ok l h hr
  exact hg ρ' a W (by rw [e']; exact r')

theorem good_adj {k : List K} {l : List Adj} {s s' : LS} (h : adjs l s = some s') (hg : Good P r n Q cx D k s') : Good P r n Q cx D k s := fun ρ a W hr => by
  obtain ⟨ρ', r', e'⟩ := adjs_ok l h hr
  exact hg ρ' a W (by rw [e']; exact r')

theorem adjO_ok {l : List Adj} {x : Option (Out × List Ob × List Or)} {o : Out} {obs : List Ob} {orc : List Or} (h : adjO l x = some (o, obs, orc)) : ∃ o', x = some (o', obs, orc) ∧ (OutGood P r n Q cx D o → OutGood P r n Q cx D o') := by
  unfold adjO at h
  split at h
  all_goals first | (cases h; done) | skip
  all_goals
    split at h
    · rename_i s2 hs
      simp only [Option.some.injEq, Prod.mk.injEq] at h
      obtain ⟨rfl, rfl, rfl⟩ := h
      refine ⟨_, rfl, fun hg => ?_⟩
      first
        | exact goodAt_adj hs hg
        | exact good_adj hs hg
        | exact ⟨hg.choose, good_adj hs hg.choose_spec⟩
    · cases h

theorem ret_of (hT : TOk P T) (hm : P.follows .mixedOrders = true) {fn : Func} {f : Nat} {k : List K} {s : LS} {orc : List Or} (ads : List Adj) (ms ks : List Nat) {base : Nat} (hb : cx.base = base) {res : SV} {nb mb : List BK} {obs : List Ob}
    (h : retOf T fn.results.toList base ms ks (adjO ads (run T f k s orc)) = some (res, nb, mb, obs)) (hob : Obs P obs) : Good P none n (bodyPost P fn (RR cx res nb mb)) cx [] k s := by
  subst hb
  unfold retOf at h
  split at h
  · rename_i s' obs' hrun
    split at h
    · rename_i res' nb' mb' hf
      simp only [Option.some.injEq, Prod.mk.injEq] at h
      obtain ⟨rfl, rfl, rfl, rfl⟩ := h
      obtain ⟨o', hr, hg⟩ := adjO_ok (P := P) (r := none) (n := n) (Q := bodyPost P fn (RR cx res' nb' mb')) (cx := cx) (D := []) hrun
      exact run_ok hT hm f k s orc _ _ _ hr hob (hg (fin_ok hT hf))
    · cases h
  · cases h

theorem enter_of (hT : TOk P T) (hm : P.follows .mixedOrders = true) {f : Nat} {k k' : List K} {s s' : LS} {orc : List Or} (ads : List Adj) (ts ks : List Nat) {base : Nat} (hb : cx.base = base) {body : Code} {obs : List Ob}
    (h : enterOf base ts ks (adjO ads (run T f k s orc)) = some (body, k', s', obs)) (hob : Obs P obs) (hg : ∃ m, Good P r n Q cx D (.l body m :: k') s') : Good P r n Q cx D k s := by
  unfold enterOf at h
  split at h
  · rename_i body' k1 s1 obs' hrun
    split at h
    · rename_i s2 hs
      simp only [Option.some.injEq, Prod.mk.injEq] at h
      obtain ⟨rfl, rfl, rfl, rfl⟩ := h
      obtain ⟨m, hg⟩ := hg
      obtain ⟨o', hr, hg'⟩ := adjO_ok (P := P) (r := r) (n := n) (Q := Q) (cx := cx) (D := D) hrun
      exact run_ok hT hm f k s orc _ _ _ hr hob (hg' ⟨m, good_shrink hb hs hg⟩)
    · cases h
  · cases h

theorem back_of (hT : TOk P T) (hm : P.follows .mixedOrders = true) {f m : Nat} {k k' : List K} {s s' : LS} {orc : List Or} (ads : List Adj) (ts ks : List Nat) {base : Nat} (hb : cx.base = base) {body : Code} {obs : List Ob}
    (h : backOf base ts ks (adjO ads (run T f k s orc)) = some (body, m, k', s', obs)) (hob : Obs P obs) (hg : Good P r n Q cx D (.l body m :: k') s') : Good P r n Q cx D k s := by
  unfold backOf at h
  split at h
  · rename_i body' m' k1 s1 obs' hrun
    split at h
    · rename_i s2 hs
      simp only [Option.some.injEq, Prod.mk.injEq] at h
      obtain ⟨rfl, rfl, rfl, rfl, rfl⟩ := h
      obtain ⟨o', hr, hg'⟩ := adjO_ok (P := P) (r := r) (n := n) (Q := Q) (cx := cx) (D := D) hrun
      exact run_ok hT hm f k s orc _ _ _ hr hob (hg' (good_shrink hb hs hg))
    · cases h
  · cases h

end

/-! ### Loops that count -/
instance sumInh {α β : Type} [Inhabited β] : Inhabited (α ⊕ β) := ⟨.inr default⟩
theorem len_app {α : Type} (l m : List α) {n : Nat} (h : m.length = n) : l.length + n = (l ++ m).length := by rw [List.length_append, h]

/-- A loop: from state to state, until there is a result; at most n rounds. -/
def loopF {S R : Type} [Inhabited R] (step : S → S ⊕ R) : Nat → S → R
  | 0, _ => default
  | n + 1, v => match step v with
    | .inl v' => loopF step n v'
    | .inr x => x

theorem loopF_inl {S R : Type} [Inhabited R] {step : S → S ⊕ R} {n : Nat} {v v' : S} (h : step v = .inl v') : loopF step (n + 1) v = loopF step n v' := by simp only [loopF, h]
theorem loopF_inr {S R : Type} [Inhabited R] {step : S → S ⊕ R} {n : Nat} {v : S} {x : R} (h : step v = .inr x) : loopF step (n + 1) v = x := by simp only [loopF, h]

/-- Behind a round. -/
def thenF {S R : Type} [Inhabited R] (step : S → S ⊕ R) (n : Nat) : S ⊕ R → R
  | .inl v => loopF step n v
  | .inr x => x

def loopAtD (p ms : List Nat) (c : Code) (k : List K) : Code × List K := (loopAt p ms c k).getD (.skip, [])

/-! ### Lists of elements that take some cells each -/
def flat {α : Type} (c : α → List SV) (l : List α) : List SV := l.flatMap c

theorem flat_snoc {α : Type} {c : α → List SV} {l : List α} {x : α} : flat c (l ++ [x]) = flat c l ++ c x := by simp [flat]
theorem flat_append {α : Type} {c : α → List SV} {l m : List α} : flat c (l ++ m) = flat c l ++ flat c m := by simp [flat]
theorem flat_nil {α : Type} {c : α → List SV} : flat c [] = [] := rfl
theorem flat_cons {α : Type} {c : α → List SV} {l : List α} {x : α} : flat c (x :: l) = c x ++ flat c l := by simp [flat]

theorem flat_length {α : Type} {c : α → List SV} {es : Nat} (hc : ∀ x, (c x).length = es) (l : List α) : (flat c l).length = l.length * es := by
  induction l with
  | nil => simp [flat]
  | cons x l ih => rw [flat_cons, List.length_append, ih, hc, List.length_cons, Nat.add_mul]; omega

theorem flat_get {α : Type} {c : α → List SV} {es : Nat} (hc : ∀ x, (c x).length = es) (d : α) : ∀ (l : List α) (i : Nat), i < l.length → ((flat c l).drop (i * es)).take es = c (l.getD i d)
  | [], i, h => by simp at h
  | x :: l, 0, _ => by
    rw [flat_cons]
    simp only [Nat.zero_mul, List.drop_zero, List.getD_cons_zero]
    rw [← hc x, List.take_left]
  | x :: l, i + 1, h => by
    rw [flat_cons, List.getD_cons_succ, Nat.add_mul, Nat.one_mul, Nat.add_comm]
    rw [← hc x, ← List.drop_drop, List.drop_left, hc x]
    exact flat_get hc d l i (by simpa using h)

/-- The cells of part of an element. -/
theorem flat_part {α : Type} {c : α → List SV} {es : Nat} (hc : ∀ x, (c x).length = es) (d : α) (l : List α) (i o n : Nat) (h : i < l.length) (ho : o + n ≤ es) : ((flat c l).drop (i * es + o)).take n = ((c (l.getD i d)).drop o).take n := by
  rw [← flat_get hc d l i h]
  rw [← List.drop_drop, List.drop_take, List.take_take, Nat.min_eq_left (by omega)]

/-- A part of an element, loaded. -/
theorem ld_part {α : Type} {c : α → List SV} {es : Nat} (hc : ∀ x, (c x).length = es) (d : α) (l : List α) (i : Int) (o n : Nat) (h : 0 ≤ i ∧ i < (l.length : Int)) (ho : o + n ≤ es) {off : Nat} (he : off = i.toNat * es + o) {r : List SV}
    (hr : ((c (l.getD i.toNat d)).drop o).take n = r) : ((flat c l).drop off).take n = r := by
  subst he
  rw [flat_part hc d l i.toNat o n (by omega) ho]; exact hr

theorem app_ok {α : Type} {c : α → List SV} {es : Nat} (hc : ∀ x, (c x).length = es) {l : List α} {n by' : Nat} (h1 : l.length + n ≤ 2 ^ 40) (h2 : (l.length + n) * by' ≤ 2 ^ 47) : (flat c l).length = l.length * es ∧ l.length + n ≤ 2 ^ 40 ∧ (l.length + n) * by' ≤ 2 ^ 47 :=
  ⟨flat_length hc l, h1, h2⟩

theorem belowL_append {b : Nat} : ∀ {l m : List SV}, belowL b l = true → belowL b m = true → belowL b (l ++ m) = true
  | [], _, _, h => h
  | x :: l, m, h, h' => by
    simp only [belowL, Bool.and_eq_true] at h
    simp only [List.cons_append, belowL, Bool.and_eq_true]
    exact ⟨h.1, belowL_append h.2 h'⟩

theorem belowL_flat {α : Type} {c : α → List SV} {b : Nat} (hc : ∀ x, belowL b (c x) = true) {l : List α} : belowL b (flat c l) = true := by
  induction l with
  | nil => rfl
  | cons x l ih => rw [flat_cons]; exact belowL_append (hc x) ih

def belowBs (n : Nat) : List BK → Prop
  | [] => True
  | x :: l => belowB n x = true ∧ belowBs n l

theorem belowBs_all {n : Nat} : ∀ {l : List BK}, belowBs n l → l.all (belowB n) = true
  | [], _ => rfl
  | x :: l, h => by simp only [List.all_cons, Bool.and_eq_true]; exact ⟨h.1, belowBs_all h.2⟩

theorem con_of {P : Program} {n : Nat} {f : Nat} {fn : Func} {c : Code} {args : List SV} {bs : List BK} {res : SV} {nb mb : List BK} (hf : P.funcs[f]? = some fn) (hb : fn.body = some c) (hent : Enters P f)
    (hlen : args.length ≤ fn.ntmps) (hlive : (bs.all isLive && belowL bs.length args) = true) (hbs : belowBs bs.length bs)
    (h : ∀ cx : Cx, cx.base = bs.length → Good P none n (bodyPost P fn (RR cx res nb mb)) cx [] [.c c] (start fn.ntmps args bs)) : Con P f args bs res nb mb :=
  con_of_good hf hb hent hlen (by rw [hlive, belowBs_all hbs]; rfl) h

/-! ### A contract does not depend on how its blocks' cells are written -/
def BK.fl : BK → BK
  | .live o _ c => .live o true c
  | x => x

theorem BRep.fl {ρ : Env} {M : Nat → Prop} {W : World} {k : Nat} {x y : BK} (e : x.fl = y.fl) (h : BRep ρ M W k x) : BRep ρ M W k y := by
  cases x <;> cases y <;> simp [BK.fl] at e <;> try trivial
  rename_i o1 s1 c1 o2 s2 c2
  obtain ⟨rfl, rfl⟩ := e
  cases o1 <;> exact h

theorem own_fl {x y : BK} (e : x.fl = y.fl) (h : x.own) : y.own := by
  cases x <;> cases y <;> simp [BK.fl] at e <;> try exact h
  rename_i o1 s1 c1 o2 s2 c2
  obtain ⟨rfl, rfl⟩ := e
  cases o1 <;> exact h

def plBs : List BK → Prop
  | [] => True
  | x :: l => x.pl ∧ plBs l

theorem plBs_get : ∀ {l : List BK}, plBs l → ∀ i, (l.getD i .un).pl
  | [], _, i => by simp [BK.pl]
  | x :: l, h, 0 => by simpa using h.1
  | x :: l, h, i + 1 => by simpa using plBs_get h.2 i

theorem flat_plain {α : Type} {c : α → List SV} (hc : ∀ x, (c x).all SV.plain = true) {l : List α} : Plain (flat c l) := by
  refine plain_all ?_
  induction l with
  | nil => rfl
  | cons x l ih => rw [flat_cons, List.all_append, hc x, ih]; rfl

theorem Con.flags {P : Program} {f : Nat} {args : List SV} {bs bs' : List BK} {res : SV} {nb mb : List BK} (h : Con P f args bs res nb mb) (e : bs'.map BK.fl = bs.map BK.fl) (hpl0 : plBs bs) : Con P f args bs' res nb mb := by
  have hp := plBs_get hpl0
  have hl : bs'.length = bs.length := by have := congrArg List.length e; simpa using this
  have hg : ∀ i, (bs'.getD i .un).fl = (bs.getD i .un).fl := fun i => by
    have := congrArg (fun l => l[i]?) e
    simp only [List.getElem?_map] at this
    simp only [List.getD_eq_getElem?_getD]
    cases h1 : bs'[i]? <;> cases h2 : bs[i]? <;> simp [h1, h2] at this ⊢
    exact this
  have ho : ∀ (ρ : Env), ownOf ρ bs = ownOf ρ bs' := fun ρ => by
    funext b
    refine propext ⟨fun ⟨i, n, h1, h2⟩ => ⟨i, n, own_fl (hg i).symm h1, h2⟩, fun ⟨i, n, h1, h2⟩ => ⟨i, n, own_fl (hg i) h1, h2⟩⟩
  refine ⟨h.1, fun ρ W vs hr hb hpl ha => ?_⟩
  have hcx : callCx ρ W bs' = callCx ρ W bs := by simp only [callCx, hl, ho]
  rw [hcx] at hb ⊢
  exact h.2 ρ W vs hr (fun i => BRep.fl (hg i) (hb i)) hp (fun i j b n b' n' hij h1 h2 => ha i j b n b' n' hij (own_fl (hg i).symm h1) (own_fl (hg j).symm h2))

end Go.Aw
