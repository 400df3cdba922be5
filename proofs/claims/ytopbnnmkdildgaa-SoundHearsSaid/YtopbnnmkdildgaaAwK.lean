/-
  A symbolic executor for the model's code, part K: whole regions, with calls, reckoned by a program over lists; and that what it reckons is right, in whatever order. Generic in the program. No premise.
-/
import Derived.Test.YtopbnnmkdildgaaAwJ
namespace Go.Aw
open Go.RowKit
set_option linter.unusedVariables false
set_option linter.unusedSimpArgs false

structure LS where
  sl : List SV
  bk : List BK

def LS.fs (s : LS) : FS := ⟨fun t => s.sl.getD t .u, fun k => s.bk.getD k .un⟩

def updL (l : List BK) : List (Nat × BK) → Option (List BK)
  | [] => some l
  | (k, x) :: us => if k < l.length then updL (l.set k x) us else if k = l.length then updL (l ++ [x]) us else none

def LS.app (s : LS) (dst : Option Nat) (e : Eff) : Option LS :=
  match updL s.bk e.ups with
  | none => none
  | some bk =>
    match dst with
    | none => some { s with bk := bk }
    | some d => if d < s.sl.length then some { sl := s.sl.set d e.val, bk := bk } else none

theorem updL_fs : ∀ (us : List (Nat × BK)) (l l' : List BK), updL l us = some l' → (fun k => l'.getD k .un) = upds (fun k => l.getD k .un) us
  | [], l, l', h => by simp only [updL, Option.some.injEq] at h; subst h; rfl
  | (k, x) :: us, l, l', h => by
    simp only [updL] at h
    simp only [upds]
    split at h
    · rename_i hk
      rw [updL_fs us _ l' h]
      congr 1
      funext j
      simp only [List.getD_eq_getElem?_getD, List.getElem?_set]
      by_cases hj : j = k
      · subst hj; simp [hk]
      · rw [if_neg (fun e => hj e.symm), if_neg hj]
    · split at h
      · rename_i hk
        rw [updL_fs us _ l' h]
        congr 1
        funext j
        simp only [List.getD_eq_getElem?_getD]
        by_cases hj : j = k
        · subst hj; simp [hk]
        · rw [if_neg hj]
          by_cases hlt : j < l.length
          · rw [List.getElem?_append_left hlt]
          · rw [List.getElem?_eq_none (by simp; omega), List.getElem?_eq_none (by omega)]
      · cases h

theorem app_fs {s s' : LS} {dst : Option Nat} {e : Eff} (h : s.app dst e = some s') : s'.fs = s.fs.app dst e ∧ (∀ d, dst = some d → d < s.sl.length) ∧ s'.sl.length = s.sl.length := by
  unfold LS.app at h
  split at h
  · cases h
  · rename_i bk hbk
    have hb := updL_fs _ _ _ hbk
    cases dst with
    | none =>
      simp only [Option.some.injEq] at h
      subst h
      refine ⟨?_, by simp, rfl⟩
      simp only [LS.fs, FS.app, hb]
    | some d =>
      simp only at h
      split at h
      · rename_i hd
        simp only [Option.some.injEq] at h
        subst h
        refine ⟨?_, fun d' hd' => by cases hd'; exact hd, by simp⟩
        simp only [LS.fs, FS.app, hb]
        congr 1
        funext t
        simp only [List.getD_eq_getElem?_getD, List.getElem?_set]
        by_cases ht : t = d
        · subst ht; simp [hd]
        · rw [if_neg (fun e => ht e.symm), if_neg ht]
      · cases h

/-! ### Calls -/
def idxOf (k : Nat) : List Nat → Option Nat
  | [] => none
  | j :: l => if j = k then some 0 else match idxOf k l with
    | some i => some (i + 1)
    | none => none

mutual
/-- The blocks' numbers, as places in the list ks. -/
def ren (ks : List Nat) : SV → Option SV
  | .u => some .u
  | .b x => some (.v (.bool x))
  | .v x => some (.v x)
  | .p k off => match idxOf k ks with
    | some i => some (.p i off)
    | none => none
  | .s k off len es => match idxOf k ks with
    | some i => some (.s i off len es)
    | none => none
  | .f g caps => match renL ks caps with
    | some l => some (.f g l)
    | none => none
  | .a l => match renL ks l with
    | some l => some (.a l)
    | none => none
  | .t l => match renL ks l with
    | some l => some (.t l)
    | none => none
def renL (ks : List Nat) : List SV → Option (List SV)
  | [] => some []
  | x :: l => match ren ks x, renL ks l with
    | some y, some m => some (y :: m)
    | _, _ => none
end

mutual
/-- And back: a place in ks, or the i-th new block. -/
def back (ks : List Nat) (nn fr : Nat) : SV → Option SV
  | .u => some .u
  | .b x => some (.b x)
  | .v x => some (.v x)
  | .p k off => match ks[k]? with
    | some j => some (.p j off)
    | none => if k - ks.length < nn then some (.p (fr + (k - ks.length)) off) else none
  | .s k off len es => match ks[k]? with
    | some j => some (.s j off len es)
    | none => if k - ks.length < nn then some (.s (fr + (k - ks.length)) off len es) else none
  | .f g caps => match backL ks nn fr caps with
    | some l => some (.f g l)
    | none => none
  | .a l => match backL ks nn fr l with
    | some l => some (.a l)
    | none => none
  | .t l => match backL ks nn fr l with
    | some l => some (.t l)
    | none => none
def backL (ks : List Nat) (nn fr : Nat) : List SV → Option (List SV)
  | [] => some []
  | x :: l => match back ks nn fr x, backL ks nn fr l with
    | some y, some m => some (y :: m)
    | _, _ => none
end

theorem idxOf_spec {k : Nat} : ∀ {ks : List Nat} {i : Nat}, idxOf k ks = some i → ks[i]? = some k
  | [], _, h => by simp [idxOf] at h
  | j :: l, i, h => by
    simp only [idxOf] at h
    split at h
    · rename_i hj; simp only [Option.some.injEq] at h; subst h; simp [hj]
    · split at h
      · rename_i i' hi'; simp only [Option.some.injEq] at h; subst h
        simpa using idxOf_spec hi'
      · cases h

/-- The callee's environment. -/
def envOf (ρ : Env) (ks : List Nat) : Env := fun i => match ks[i]? with
  | some k => ρ k
  | none => none

theorem envOf_idx {ρ : Env} {ks : List Nat} {k i : Nat} (h : idxOf k ks = some i) : envOf ρ ks i = ρ k := by
  unfold envOf; rw [idxOf_spec h]

mutual
theorem ren_rel {ρ : Env} {ks : List Nat} : ∀ (x y : SV) (v : Value), ren ks x = some y → Rel ρ x v → Rel (envOf ρ ks) y v
  | .u, y, v, h, hr => by simp only [ren, Option.some.injEq] at h; subst h; simp [Rel]
  | .b x, y, v, h, hr => by simp only [ren, Option.some.injEq] at h; subst h; simpa [Rel] using hr
  | .v x, y, v, h, hr => by simp only [ren, Option.some.injEq] at h; subst h; simpa [Rel] using hr
  | .p k off, y, v, h, hr => by
    simp only [ren] at h
    split at h
    · rename_i i hi; simp only [Option.some.injEq] at h; subst h
      simp only [Rel] at hr ⊢; rw [envOf_idx hi]; exact hr
    · cases h
  | .s k off len es, y, v, h, hr => by
    simp only [ren] at h
    split at h
    · rename_i i hi; simp only [Option.some.injEq] at h; subst h
      simp only [Rel] at hr ⊢; rw [envOf_idx hi]; exact hr
    · cases h
  | .f g caps, y, v, h, hr => by
    simp only [ren] at h
    split at h
    · rename_i l hl; simp only [Option.some.injEq] at h; subst h
      simp only [Rel] at hr ⊢
      obtain ⟨vs, hv, hr⟩ := hr
      exact ⟨vs, hv, renL_rel caps l vs hl hr⟩
    · cases h
  | .a l', y, v, h, hr => by
    simp only [ren] at h
    split at h
    · rename_i l hl; simp only [Option.some.injEq] at h; subst h
      simp only [Rel] at hr ⊢
      obtain ⟨vs, hv, hr⟩ := hr
      exact ⟨vs, hv, renL_rel l' l vs hl hr⟩
    · cases h
  | .t l', y, v, h, hr => by
    simp only [ren] at h
    split at h
    · rename_i l hl; simp only [Option.some.injEq] at h; subst h
      simp only [Rel] at hr ⊢
      obtain ⟨vs, hv, hr⟩ := hr
      exact ⟨vs, hv, renL_rel l' l vs hl hr⟩
    · cases h
theorem renL_rel {ρ : Env} {ks : List Nat} : ∀ (l m : List SV) (vs : List Value), renL ks l = some m → Rels ρ l vs → Rels (envOf ρ ks) m vs
  | [], m, vs, h, hr => by simp only [renL, Option.some.injEq] at h; subst h; cases vs <;> simp [Rels] at hr ⊢
  | x :: l, m, vs, h, hr => by
    simp only [renL] at h
    split at h
    · rename_i y m' hy hm
      simp only [Option.some.injEq] at h; subst h
      cases vs with
      | nil => simp [Rels] at hr
      | cons v vs =>
        simp only [Rels] at hr ⊢
        exact ⟨ren_rel x y v hy hr.1, renL_rel l m' vs hm hr.2⟩
    · cases h
end

mutual
theorem back_rel {ρc ρ' : Env} {ks : List Nat} {nn fr : Nat} (h1 : ∀ i k, ks[i]? = some k → ρ' k = ρc i) (h2 : ∀ j, j < nn → ρ' (fr + j) = ρc (ks.length + j)) :
    ∀ (x y : SV) (v : Value), back ks nn fr x = some y → Rel ρc x v → Rel ρ' y v
  | .u, y, v, h, hr => by simp only [back, Option.some.injEq] at h; subst h; simp [Rel]
  | .b x, y, v, h, hr => by simp only [back, Option.some.injEq] at h; subst h; simpa [Rel] using hr
  | .v x, y, v, h, hr => by simp only [back, Option.some.injEq] at h; subst h; simpa [Rel] using hr
  | .p k off, y, v, h, hr => by
    simp only [back] at h
    split at h
    · rename_i j hj; simp only [Option.some.injEq] at h; subst h
      simp only [Rel] at hr ⊢; rw [h1 k j hj]; exact hr
    · rename_i hn
      split at h
      · rename_i hlt; simp only [Option.some.injEq] at h; subst h
        have hle : ks.length ≤ k := by simpa using hn
        simp only [Rel] at hr ⊢; rw [h2 _ hlt, Nat.add_sub_cancel' hle]; exact hr
      · cases h
  | .s k off len es, y, v, h, hr => by
    simp only [back] at h
    split at h
    · rename_i j hj; simp only [Option.some.injEq] at h; subst h
      simp only [Rel] at hr ⊢; rw [h1 k j hj]; exact hr
    · rename_i hn
      split at h
      · rename_i hlt; simp only [Option.some.injEq] at h; subst h
        have hle : ks.length ≤ k := by simpa using hn
        simp only [Rel] at hr ⊢; rw [h2 _ hlt, Nat.add_sub_cancel' hle]; exact hr
      · cases h
  | .f g caps, y, v, h, hr => by
    simp only [back] at h
    split at h
    · rename_i l hl; simp only [Option.some.injEq] at h; subst h
      simp only [Rel] at hr ⊢
      obtain ⟨vs, hv, hr⟩ := hr
      exact ⟨vs, hv, backL_rel h1 h2 caps l vs hl hr⟩
    · cases h
  | .a l', y, v, h, hr => by
    simp only [back] at h
    split at h
    · rename_i l hl; simp only [Option.some.injEq] at h; subst h
      simp only [Rel] at hr ⊢
      obtain ⟨vs, hv, hr⟩ := hr
      exact ⟨vs, hv, backL_rel h1 h2 l' l vs hl hr⟩
    · cases h
  | .t l', y, v, h, hr => by
    simp only [back] at h
    split at h
    · rename_i l hl; simp only [Option.some.injEq] at h; subst h
      simp only [Rel] at hr ⊢
      obtain ⟨vs, hv, hr⟩ := hr
      exact ⟨vs, hv, backL_rel h1 h2 l' l vs hl hr⟩
    · cases h
theorem backL_rel {ρc ρ' : Env} {ks : List Nat} {nn fr : Nat} (h1 : ∀ i k, ks[i]? = some k → ρ' k = ρc i) (h2 : ∀ j, j < nn → ρ' (fr + j) = ρc (ks.length + j)) :
    ∀ (l m : List SV) (vs : List Value), backL ks nn fr l = some m → Rels ρc l vs → Rels ρ' m vs
  | [], m, vs, h, hr => by simp only [backL, Option.some.injEq] at h; subst h; cases vs <;> simp [Rels] at hr ⊢
  | x :: l, m, vs, h, hr => by
    simp only [backL] at h
    split at h
    · rename_i y m' hy hm
      simp only [Option.some.injEq] at h; subst h
      cases vs with
      | nil => simp [Rels] at hr
      | cons v vs =>
        simp only [Rels] at hr ⊢
        exact ⟨back_rel h1 h2 x y v hy hr.1, backL_rel h1 h2 l m' vs hm hr.2⟩
    · cases h
end

mutual
theorem back_has {ks : List Nat} {nn fr k : Nat} : ∀ (x y : SV), back ks nn fr x = some y → y.has k → k ∈ ks ∨ (fr ≤ k ∧ k < fr + nn)
  | .u, y, h, hk => by simp only [back, Option.some.injEq] at h; subst h; simp [SV.has] at hk
  | .b x, y, h, hk => by simp only [back, Option.some.injEq] at h; subst h; simp [SV.has] at hk
  | .v x, y, h, hk => by simp only [back, Option.some.injEq] at h; subst h; simp [SV.has] at hk
  | .p j off, y, h, hk => by
    simp only [back] at h
    split at h
    · rename_i j' hj; simp only [Option.some.injEq] at h; subst h
      simp only [SV.has] at hk; subst hk; exact .inl (List.mem_of_getElem? hj)
    · split at h
      · rename_i hlt; simp only [Option.some.injEq] at h; subst h
        simp only [SV.has] at hk; exact .inr ⟨by omega, by omega⟩
      · cases h
  | .s j off len es, y, h, hk => by
    simp only [back] at h
    split at h
    · rename_i j' hj; simp only [Option.some.injEq] at h; subst h
      simp only [SV.has] at hk; subst hk; exact .inl (List.mem_of_getElem? hj)
    · split at h
      · rename_i hlt; simp only [Option.some.injEq] at h; subst h
        simp only [SV.has] at hk; exact .inr ⟨by omega, by omega⟩
      · cases h
  | .f g caps, y, h, hk => by
    simp only [back] at h
    split at h
    · rename_i l hl; simp only [Option.some.injEq] at h; subst h
      exact backL_has caps l hl (by simpa [SV.has] using hk)
    · cases h
  | .a l', y, h, hk => by
    simp only [back] at h
    split at h
    · rename_i l hl; simp only [Option.some.injEq] at h; subst h
      exact backL_has l' l hl (by simpa [SV.has] using hk)
    · cases h
  | .t l', y, h, hk => by
    simp only [back] at h
    split at h
    · rename_i l hl; simp only [Option.some.injEq] at h; subst h
      exact backL_has l' l hl (by simpa [SV.has] using hk)
    · cases h
theorem backL_has {ks : List Nat} {nn fr k : Nat} : ∀ (l m : List SV), backL ks nn fr l = some m → SV.hasl k m → k ∈ ks ∨ (fr ≤ k ∧ k < fr + nn)
  | [], m, h, hk => by simp only [backL, Option.some.injEq] at h; subst h; simp [SV.hasl] at hk
  | x :: l, m, h, hk => by
    simp only [backL] at h
    split at h
    · rename_i y m' hy hm
      simp only [Option.some.injEq] at h; subst h
      simp only [SV.hasl] at hk
      rcases hk with hk | hk
      · exact back_has x y hy hk
      · exact backL_has l m' hm hk
    · cases h
end

def isUn : BK → Bool
  | .un => true
  | _ => false

def nodupB : List Nat → Bool
  | [] => true
  | x :: l => !l.contains x && nodupB l

/-- The blocks that are handed over, renumbered; m: to be written. -/
def renB (ks : List Nat) (m : Bool) : BK → Option BK
  | .live own true cells => if m = true ∧ own = false then none else some (.live m true cells)
  | .live own false cells => if m = true ∧ own = false then none else match renL ks cells with
    | some l => some (.live m false l)
    | none => none
  | _ => none

def renBs (ks : List Nat) (bk : Nat → BK) : List Nat → List BK → Option (List BK)
  | [], _ => some []
  | k :: l, mb => match renB ks (!isUn (mb.headD .un)) (bk k), renBs ks bk l mb.tail with
    | some x, some m => some (x :: m)
    | _, _ => none

def backK (ks : List Nat) (nn fr : Nat) : BK → Option BK
  | .dead => some .dead
  | .live true true cells => some (.live true true cells)
  | .live true false cells => match backL ks nn fr cells with
    | some cells => some (.live true false cells)
    | none => none
  | _ => none

/-- The blocks that were handed over and have changed. -/
def backMs (ks : List Nat) (nn fr : Nat) : List Nat → List BK → Option (List (Nat × BK))
  | _, [] => some []
  | [], _ :: _ => none
  | k :: l, x :: m => match backMs ks nn fr l m with
    | none => none
    | some us => match isUn x with
      | true => some us
      | false => match backK ks nn fr x with
        | some y => some ((k, y) :: us)
        | none => none

def backBs (ks : List Nat) (nn fr : Nat) : Nat → List BK → Option (List (Nat × BK))
  | _, [] => some []
  | j, x :: l => match backK ks nn fr x, backBs ks nn fr (j + 1) l with
    | some y, some m => some ((j, y) :: m)
    | _, _ => none

/-- The function that is called, and what is captured. -/
def callee : SV → Option (Nat × List SV)
  | .v (.func (.func g) first caps) => match first.toList, caps.toList with
    | [], [] => some (g, [])
    | _, _ => none
  | .f g caps => some (g, caps)
  | _ => none

def symCall (xs : List SV) (bk : Nat → BK) (fr : Nat) (orc : List Or) : Option (Eff × List Ob × List Or × List Nat) :=
  match xs, orc with
  | fv :: args, .call ks res nb mb :: orc =>
    match callee fv with
    | some (g, caps) =>
      match renL ks (args ++ caps), renBs ks bk ks mb, back ks nb.length fr res, backMs ks nb.length fr ks mb, backBs ks nb.length fr fr nb with
      | some args', some bs, some res', some upm, some upn => if nodupB ks then some ({ val := res', ups := upm ++ upn }, [.call g args' bs res nb mb], orc, ks) else none
      | _, _, _, _, _ => none
    | none => none
  | _, _ => none

end Go.Aw
