/-
  A symbolic executor for the model's code, part L: calls and whole regions. Generic in the program. No premise.
-/
import Derived.Test.YtopbnnmkdildgaaAwK
namespace Go.Aw
open Go.RowKit
set_option linter.unusedVariables false
set_option linter.unusedSimpArgs false

section
variable {P : Program} {T : Nat → Option TI} {w0 : Cx} {N : Nat} {D : List Deferred} {ρ : Env} {s : FS} {a : Act} {W : World}

theorem nodupB_spec : ∀ {l : List Nat}, nodupB l = true → ∀ (i j k : Nat), l[i]? = some k → l[j]? = some k → i = j
  | [], _, i, j, k, h, _ => by simp at h
  | x :: l, h, i, j, k, hi, hj => by
    simp only [nodupB, Bool.and_eq_true, Bool.not_eq_true', List.contains_eq_mem, decide_eq_false_iff_not] at h
    cases i with
    | zero => cases j with
      | zero => rfl
      | succ j => simp at hi hj; subst hi; exact (h.1 (List.mem_of_getElem? hj)).elim
    | succ i => cases j with
      | zero => simp at hi hj; subst hj; exact (h.1 (List.mem_of_getElem? hi)).elim
      | succ j => simp at hi hj; rw [nodupB_spec h.2 i j k hi hj]

theorem isUn_iff {x : BK} : isUn x = true ↔ x = .un := by cases x <;> simp [isUn]

theorem renBs_spec {ks : List Nat} {bk : Nat → BK} : ∀ (l : List Nat) (mb : List BK) (m : List BK), renBs ks bk l mb = some m → m.length = l.length ∧ ∀ (i k : Nat), l[i]? = some k → ∃ y, m[i]? = some y ∧ renB ks (!isUn (mb.getD i .un)) (bk k) = some y
  | [], mb, m, h => by simp only [renBs, Option.some.injEq] at h; subst h; simp
  | k :: l, mb, m, h => by
    simp only [renBs] at h
    split at h
    · rename_i x m' hx hm
      simp only [Option.some.injEq] at h; subst h
      obtain ⟨h1, h2⟩ := renBs_spec l _ m' hm
      refine ⟨by simp [h1], fun i k' hi => ?_⟩
      cases i with
      | zero =>
        simp at hi; subst hi
        refine ⟨x, by simp, ?_⟩
        cases mb <;> simpa using hx
      | succ i =>
        simp at hi ⊢
        obtain ⟨y, e1, e2⟩ := h2 i k' hi
        refine ⟨y, e1, ?_⟩
        cases mb <;> simpa using e2
    · cases h

theorem backMs_spec {ks : List Nat} {nn fr : Nat} : ∀ (l : List Nat) (mb : List BK) (us : List (Nat × BK)), backMs ks nn fr l mb = some us →
    (∀ k y, (k, y) ∈ us → ∃ i, l[i]? = some k ∧ mb.getD i .un ≠ .un ∧ backK ks nn fr (mb.getD i .un) = some y) ∧ (∀ i k, l[i]? = some k → mb.getD i .un ≠ .un → ∃ y, (k, y) ∈ us)
  | l, [], us, h => by
    have : us = [] := by cases l <;> (simp only [backMs, Option.some.injEq] at h; exact h.symm)
    subst this
    exact ⟨fun k y hm => by simp at hm, fun i k _ hne => by simp at hne⟩
  | [], x :: m, us, h => by simp [backMs] at h
  | k :: l, x :: m, us, h => by
    simp only [backMs] at h
    split at h
    · cases h
    · rename_i us' hus
      obtain ⟨h1, h2⟩ := backMs_spec l m us' hus
      split at h
      · rename_i hun
        rw [isUn_iff] at hun
        simp only [Option.some.injEq] at h; subst h
        refine ⟨fun k' y hm => ?_, fun i k' hi hne => ?_⟩
        · obtain ⟨i, e1, e2, e3⟩ := h1 k' y hm
          exact ⟨i + 1, by simpa using e1, by simpa using e2, by simpa using e3⟩
        · cases i with
          | zero => simp [hun] at hne
          | succ i => exact h2 i k' (by simpa using hi) (by simpa using hne)
      · rename_i hun
        split at h
        · rename_i y hy
          simp only [Option.some.injEq] at h; subst h
          refine ⟨fun k' y' hm => ?_, fun i k' hi hne => ?_⟩
          · rcases List.mem_cons.1 hm with e | hm
            · cases e
              exact ⟨0, by simp, by simp; intro e; rw [e] at hun; simp [isUn] at hun, by simpa using hy⟩
            · obtain ⟨i, e1, e2, e3⟩ := h1 k' y' hm
              exact ⟨i + 1, by simpa using e1, by simpa using e2, by simpa using e3⟩
          · cases i with
            | zero => simp at hi; subst hi; exact ⟨y, by simp⟩
            | succ i =>
              obtain ⟨y', hm⟩ := h2 i k' (by simpa using hi) (by simpa using hne)
              exact ⟨y', by simp [hm]⟩
        · cases h

theorem backBs_spec {ks : List Nat} {nn fr : Nat} : ∀ (l : List BK) (j : Nat) (m : List (Nat × BK)), backBs ks nn fr j l = some m →
    m.length = l.length ∧ ∀ i x, l[i]? = some x → ∃ y, backK ks nn fr x = some y ∧ m[i]? = some (j + i, y)
  | [], j, m, h => by simp only [backBs, Option.some.injEq] at h; subst h; simp
  | x :: l, j, m, h => by
    simp only [backBs] at h
    split at h
    · rename_i y m' hc hm
      simp only [Option.some.injEq] at h; subst h
      obtain ⟨h1, h2⟩ := backBs_spec l _ m' hm
      refine ⟨by simp [h1], fun i x hi => ?_⟩
      cases i with
      | zero => simp at hi; subst hi; exact ⟨y, hc, by simp⟩
      | succ i =>
        simp at hi
        obtain ⟨y', e1, e2⟩ := h2 i x hi
        exact ⟨y', e1, by simp; rw [e2]; simp; omega⟩
    · cases h

theorem upds_other : ∀ (us : List (Nat × BK)) (f : Nat → BK) (k : Nat), (∀ u ∈ us, u.1 ≠ k) → upds f us k = f k
  | [], f, k, _ => rfl
  | (j, x) :: us, f, k, h => by
    simp only [upds]
    rw [upds_other us _ k (fun u hu => h u (by simp [hu]))]
    have := h (j, x) (by simp)
    simp only at this
    rw [if_neg (fun e => this e.symm)]

theorem upds_seq : ∀ (us : List (Nat × BK)) (f : Nat → BK) (fr : Nat), (∀ i u, us[i]? = some u → u.1 = fr + i) → ∀ k, upds f us k = if fr ≤ k ∧ k < fr + us.length then (us[k - fr]?.map (·.2)).getD .un else f k
  | [], f, fr, _, k => by simp only [upds, List.length_nil, Nat.add_zero]; rw [if_neg (by omega)]
  | (j, x) :: us, f, fr, h, k => by
    obtain rfl : fr = j := by have := h 0 (j, x) (by simp); simpa using this.symm
    simp only [upds]
    rw [upds_seq us _ (fr + 1) (fun i u hu => by have := h (i + 1) u (by simpa using hu); omega) k]
    by_cases hk : k = fr
    · subst hk
      rw [if_neg (by omega), if_pos rfl, if_pos (by simp)]
      simp
    · by_cases hin : fr + 1 ≤ k ∧ k < fr + 1 + us.length
      · rw [if_pos hin, if_pos (by simp; omega)]
        obtain ⟨m, hm⟩ : ∃ m, k - fr = m + 1 := ⟨k - fr - 1, by omega⟩
        rw [hm, show k - (fr + 1) = m by omega]
        simp
      · rw [if_neg hin, if_neg hk, if_neg (by simp; omega)]

theorem upds_cases : ∀ (us : List (Nat × BK)) (f : Nat → BK) (k : Nat), (upds f us k = f k ∧ ∀ u ∈ us, u.1 ≠ k) ∨ (k, upds f us k) ∈ us
  | [], f, k => .inl ⟨rfl, fun u hu => by simp at hu⟩
  | (j, x) :: us, f, k => by
    simp only [upds]
    rcases upds_cases us (fun i => if i = j then x else f i) k with ⟨h1, h2⟩ | h
    · by_cases hk : k = j
      · subst hk
        exact .inr (by rw [h1]; simp)
      · refine .inl ⟨by rw [h1, if_neg hk], fun u hu => ?_⟩
        rcases List.mem_cons.1 hu with rfl | hu
        · exact fun e => hk e.symm
        · exact h2 u hu
    · exact .inr (List.mem_cons_of_mem _ h)

theorem backK_ne {ks : List Nat} {nn fr : Nat} {x y : BK} (h : backK ks nn fr x = some y) (hp : x.pl) : y ≠ .un ∧ (y.own → x.own) ∧ (∀ k, y.has k → k ∈ ks ∨ (fr ≤ k ∧ k < fr + nn)) ∧ y.pl := by
  unfold backK at h
  split at h
  · simp only [Option.some.injEq] at h; subst h; exact ⟨by simp, fun h => h.elim, fun k hk => hk.elim, trivial⟩
  · simp only [Option.some.injEq] at h; subst h
    exact ⟨by simp, fun _ => trivial, fun k hk => (hp k hk).elim, hp⟩
  · split at h
    · rename_i cells c' hc
      simp only [Option.some.injEq] at h; subst h
      exact ⟨by simp, fun _ => trivial, fun k hk => backL_has _ _ hc hk, trivial⟩
    · cases h
  · cases h

theorem backK_rep {ρc ρ' : Env} {ks : List Nat} {nn fr : Nat} {M M' : Nat → Prop} {j k : Nat} {x y : BK} (h1 : ∀ i k, ks[i]? = some k → ρ' k = ρc i) (h2 : ∀ j, j < nn → ρ' (fr + j) = ρc (ks.length + j)) (hk : ρ' k = ρc j) (hM : ∀ b, M' b → M b)
    (h : backK ks nn fr x = some y) (hp : x.pl) (hb : BRep ρc M' W j x) : BRep ρ' M W k y := by
  unfold backK at h
  split at h
  · simp only [Option.some.injEq] at h; subst h; trivial
  · simp only [Option.some.injEq] at h; subst h
    rcases hb with ⟨q1, q2⟩ | ⟨b, vs, rest, ty, q1, q2, q3, q4⟩
    · exact .inl ⟨hk.trans q1, q2⟩
    · exact .inr ⟨b, vs, rest, ty, hk.trans q1, hM b q2, Plain.congr hp q3, q4⟩
  · split at h
    · rename_i cells c' hc
      simp only [Option.some.injEq] at h; subst h
      rcases hb with ⟨q1, q2⟩ | ⟨b, vs, rest, ty, q1, q2, q3, q4⟩
      · subst q2
        simp only [backL, Option.some.injEq] at hc; subst hc
        exact .inl ⟨hk.trans q1, rfl⟩
      · exact .inr ⟨b, vs, rest, ty, hk.trans q1, hM b q2, backL_rel h1 h2 _ _ vs hc q3, q4⟩
    · cases h
  · cases h

/-- A call has come back: new blocks, those handed over have turned, and the world has grown. -/
theorem Rep.called (h : Rep w0 N D ρ s a W) {W' : World} {own' : Nat → Prop} (hb : Kept W own' W') {ks : List Nat} (hnd : nodupB ks = true) {mb nb : List BK} {fr : Nat} (hfr : ∀ k, fr ≤ k → k < fr + nb.length → s.bk k = .un) (hks : ∀ k ∈ ks, s.bk k ≠ .un)
    {upm upn : List (Nat × BK)} (hm : backMs ks nb.length fr ks mb = some upm) (hu : backBs ks nb.length fr fr nb = some upn)
    (hown : ∀ b, own' b → ∃ i k n, ks[i]? = some k ∧ mb.getD i .un ≠ .un ∧ (s.bk k).own ∧ ρ k = some (b, 0, n)) {ρ' : Env} (hold : ∀ i k, ks[i]? = some k → ρ' i = ρ k)
    (hnew : ∀ j, BRep ρ' (fun b => W.heap.size ≤ b ∨ own' b) W' j (postB ks.length mb nb j)) (hplp : ∀ j, (postB ks.length mb nb j).pl)
    (hap : ∀ i j b n b' n', i ≠ j → (postB ks.length mb nb i).own → (postB ks.length mb nb j).own → ρ' i = some (b, 0, n) → ρ' j = some (b', 0, n') → b ≠ b') :
    Rep w0 N D (fun k => if fr ≤ k ∧ k < fr + nb.length then ρ' (ks.length + (k - fr)) else ρ k) (s.app none { val := .u, ups := upm ++ upn }) a W' ∧
    (∀ k, k ∈ ks ∨ (fr ≤ k ∧ k < fr + nb.length) → (s.app none { val := .u, ups := upm ++ upn }).bk k ≠ .un) := by
  obtain ⟨hm1, hm2⟩ := backMs_spec ks mb upm hm
  obtain ⟨hul, hus⟩ := backBs_spec nb fr upn hu
  have hnewk : ∀ k y, (k, y) ∈ upn → (fr ≤ k ∧ k < fr + nb.length) ∧ backK ks nb.length fr (nb.getD (k - fr) .un) = some y := fun k y hm => by
    obtain ⟨i, hi⟩ := List.getElem?_of_mem hm
    have hlt : i < nb.length := by rw [← hul]; exact (List.getElem?_eq_some_iff.1 hi).1
    obtain ⟨y', e2, e3⟩ := hus i nb[i] (by simp)
    rw [hi] at e3; cases e3
    refine ⟨by omega, ?_⟩
    rw [Nat.add_sub_cancel_left, show nb.getD i .un = nb[i] by simp [List.getD_eq_getElem?_getD, hlt]]
    exact e2
  have hnewm : ∀ k, fr ≤ k → k < fr + nb.length → ∃ y, (k, y) ∈ upn := fun k h1 h2 => by
    obtain ⟨y', _, e3⟩ := hus (k - fr) (nb[k - fr]'(by omega)) (by simp)
    rw [Nat.add_sub_cancel' h1] at e3
    exact ⟨_, List.mem_of_getElem? e3⟩
  -- what each block has come to
  have cls : ∀ k, ((s.app none { val := .u, ups := upm ++ upn }).bk k = s.bk k ∧ ¬ (fr ≤ k ∧ k < fr + nb.length) ∧ ∀ i, ks[i]? = some k → mb.getD i .un = .un) ∨
      ∃ j, backK ks nb.length fr (postB ks.length mb nb j) = some ((s.app none { val := .u, ups := upm ++ upn }).bk k) ∧
        ((fr ≤ k ∧ k < fr + nb.length ∧ j = ks.length + (k - fr)) ∨ (¬ (fr ≤ k ∧ k < fr + nb.length) ∧ ks[j]? = some k ∧ j < ks.length)) := fun k => by
    simp only [FS.app]
    rcases upds_cases (upm ++ upn) s.bk k with ⟨h1, h2⟩ | h1
    · refine .inl ⟨h1, fun hn => ?_, fun i hi => ?_⟩
      · obtain ⟨y, hy⟩ := hnewm k hn.1 hn.2
        exact h2 _ (List.mem_append_right _ hy) rfl
      · refine Classical.byContradiction fun hne => ?_
        obtain ⟨y, hy⟩ := hm2 i k hi hne
        exact h2 _ (List.mem_append_left _ hy) rfl
    · rcases List.mem_append.1 h1 with h1 | h1
      · obtain ⟨i, e1, e2, e3⟩ := hm1 _ _ h1
        have hlt := (List.getElem?_eq_some_iff.1 e1).1
        refine .inr ⟨i, by rw [postB, if_pos hlt]; exact e3, .inr ⟨fun hn => hks k (List.mem_of_getElem? e1) (hfr k hn.1 hn.2), e1, hlt⟩⟩
      · obtain ⟨e1, e2⟩ := hnewk _ _ h1
        refine .inr ⟨ks.length + (k - fr), ?_, .inl ⟨e1.1, e1.2, rfl⟩⟩
        rw [postB, if_neg (by omega), Nat.add_sub_cancel_left]; exact e2
  have hne : ∀ k, s.bk k ≠ .un → ¬ (fr ≤ k ∧ k < fr + nb.length) := fun k hk h' => hk (hfr k h'.1 h'.2)
  have hρ : ∀ k, s.bk k ≠ .un → (if fr ≤ k ∧ k < fr + nb.length then ρ' (ks.length + (k - fr)) else ρ k) = ρ k := fun k hk => if_neg (hne k hk)
  have hr1 : ∀ i k, ks[i]? = some k → (if fr ≤ k ∧ k < fr + nb.length then ρ' (ks.length + (k - fr)) else ρ k) = ρ' i := fun i k hi => by
    rw [hρ k (hks k (List.mem_of_getElem? hi))]; exact (hold i k hi).symm
  have hr2 : ∀ j, j < nb.length → (if fr ≤ fr + j ∧ fr + j < fr + nb.length then ρ' (ks.length + (fr + j - fr)) else ρ (fr + j)) = ρ' (ks.length + j) := fun j hj => by
    rw [if_pos (by omega), Nat.add_sub_cancel_left]
  have hkeep : ∀ k, s.bk k ≠ .un → (s.app none { val := .u, ups := upm ++ upn }).bk k ≠ .un := fun k hk => by
    rcases cls k with ⟨e, _, _⟩ | ⟨j, e, _⟩
    · rw [e]; exact hk
    · exact (backK_ne e (hplp j)).1
  have hmem : ∀ k, k ∈ ks ∨ (fr ≤ k ∧ k < fr + nb.length) → (s.app none { val := .u, ups := upm ++ upn }).bk k ≠ .un := fun k hk => by
    rcases cls k with ⟨e, hn, _⟩ | ⟨j, e, _⟩
    · rw [e]; exact hks k (hk.resolve_right hn)
    · exact (backK_ne e (hplp j)).1
  have hpl2 : ∀ k, ((s.app none { val := .u, ups := upm ++ upn }).bk k).pl := fun k => by
    rcases cls k with ⟨e, _, _⟩ | ⟨j, e, _⟩
    · rw [e]; exact h.pl k
    · exact (backK_ne e (hplp j)).2.2.2
  -- blocks that may be written
  have ownM : ∀ b, own' b → w0.mine b := fun b hb => by
    obtain ⟨i, k, n, _, _, e3, e4⟩ := hown b hb
    have := h.bk k
    cases hx : s.bk k with
    | un => rw [hx] at e3; exact e3.elim
    | dead => rw [hx] at e3; exact e3.elim
    | live own sy cs =>
      rw [hx] at this e3
      cases own with
      | false => exact e3.elim
      | true =>
        rcases this with ⟨q, _⟩ | ⟨b₁, vs, rest, ty, q1, q2, _, _⟩
        · rw [e4] at q; cases q
        · rw [e4] at q1; cases q1; exact q2
  have oldown : ∀ k b n, (s.bk k).own → ρ k = some (b, 0, n) → (∀ i, ks[i]? = some k → mb.getD i .un = .un) → b < W.heap.size ∧ ¬ own' b := fun k b n hk e1 hno => by
    constructor
    · have := h.bk k
      cases hx : s.bk k with
      | un => rw [hx] at hk; exact hk.elim
      | dead => rw [hx] at hk; exact hk.elim
      | live own sy cs =>
        rw [hx] at this hk
        cases own with
        | false => exact hk.elim
        | true =>
          rcases this with ⟨q, _⟩ | ⟨b₁, vs, rest, ty, q1, _, _, q4⟩
          · rw [e1] at q; cases q
          · rw [e1] at q1; cases q1; exact heap_lt q4
    · intro hb'
      obtain ⟨i, k', n', g1, g2, g3, g4⟩ := hown b hb'
      by_cases hkk : k = k'
      · subst hkk; exact g2 (hno i g1)
      · exact h.apart k k' b n b n' hkk hk g3 e1 g4 rfl
  refine ⟨{ defs := h.defs, size := h.size, sl := fun t => Rel.congr _ _ (fun k hk => hρ k (h.wf1 t k hk)) (h.sl t), bk := fun k => ?_, apart := fun i j b n b' n' hij hi hj e1 e2 => ?_, wf1 := fun t k hk => hkeep k (h.wf1 t k hk), wf2 := fun i k hk => ?_, kept := ?_, pl := hpl2, old := fun i hi => ⟨(hρ i (h.old i hi).2).trans (h.old i hi).1, hkeep i (h.old i hi).2⟩ }, hmem⟩
  · rcases cls k with ⟨e, hn, hno⟩ | ⟨j, e, hj⟩
    · rw [e]
      by_cases hun : s.bk k = .un
      · rw [hun]; trivial
      · refine BRep.congr (hρ k hun) (fun j hj => hρ j (h.wf2 k j hj)) ?_
        have hb0 := h.bk k
        cases hx : s.bk k with
        | un => trivial
        | dead => trivial
        | live own sy cs =>
          rw [hx] at hb0
          cases own with
          | true =>
            rcases hb0 with hb0 | ⟨b, vs, rest, ty, q1, q2, q3, q4⟩
            · exact .inl hb0
            · obtain ⟨g1, g2⟩ := oldown k b _ (by rw [hx]; trivial) q1 hno
              exact .inr ⟨b, vs, rest, ty, q1, q2, q3, by rw [hb.block b g1 g2]; exact q4⟩
          | false =>
            rcases hb0 with hb0 | ⟨b, o, n, vs, q1, q2, q3, q4⟩
            · exact .inl hb0
            · refine .inr ⟨b, o, n, vs, q1, q2, q3, fun i x hx' => ?_⟩
              have hne : vs ≠ [] := by rintro rfl; simp at hx'
              have hc := q4 i x hx'
              have hlt := cell_lt hc
              simp only [World.cell?] at hc ⊢
              rw [hb.block b hlt (fun ho => q2.2 hne (ownM b ho))]; exact hc
    · have hb0 := hnew j
      have hkj : (if fr ≤ k ∧ k < fr + nb.length then ρ' (ks.length + (k - fr)) else ρ k) = ρ' j := by
        rcases hj with ⟨g1, g2, g3⟩ | ⟨g1, g2, g3⟩
        · rw [if_pos ⟨g1, g2⟩, g3]
        · rw [if_neg g1]; exact (hold j k g2).symm
      exact backK_rep hr1 hr2 hkj (fun b hb' => hb'.elim (fun h' => .inl (Nat.le_trans h.size_le h')) (ownM b)) e (hplp j) hb0
  · have new : ∀ k j b n, backK ks nb.length fr (postB ks.length mb nb j) = some ((s.app none { val := .u, ups := upm ++ upn }).bk k) → ((s.app none { val := .u, ups := upm ++ upn }).bk k).own → ρ' j = some (b, 0, n) → W.heap.size ≤ b ∨ own' b := fun k j b n e ho hr => by
      have ho' := (backK_ne e (hplp j)).2.1 ho
      have hb0 := hnew j
      cases hx : postB ks.length mb nb j with
      | un => rw [hx] at ho'; exact ho'.elim
      | dead => rw [hx] at ho'; exact ho'.elim
      | live own sy cs =>
        rw [hx] at hb0 ho'
        cases own with
        | false => exact ho'.elim
        | true =>
          rcases hb0 with ⟨q, _⟩ | ⟨b₁, vs, rest, ty, q1, q2, _, _⟩
          · rw [hr] at q; cases q
          · rw [hr] at q1; cases q1; exact q2
    have rhoj : ∀ k j, ((fr ≤ k ∧ k < fr + nb.length ∧ j = ks.length + (k - fr)) ∨ (¬ (fr ≤ k ∧ k < fr + nb.length) ∧ ks[j]? = some k ∧ j < ks.length)) → (if fr ≤ k ∧ k < fr + nb.length then ρ' (ks.length + (k - fr)) else ρ k) = ρ' j := fun k j hj => by
      rcases hj with ⟨g1, g2, g3⟩ | ⟨g1, g2, g3⟩
      · rw [if_pos ⟨g1, g2⟩, g3]
      · rw [if_neg g1]; exact (hold j k g2).symm
    rcases cls i with ⟨ei, ni, noi⟩ | ⟨ji, ei, hji⟩
    · rw [ei] at hi
      rw [if_neg ni] at e1
      rcases cls j with ⟨ej, nj, noj⟩ | ⟨jj, ej, hjj⟩
      · rw [ej] at hj
        rw [if_neg nj] at e2
        exact h.apart i j b n b' n' hij hi hj e1 e2
      · rw [rhoj j jj hjj] at e2
        obtain ⟨g1, g2⟩ := oldown i b n hi e1 noi
        rcases new j jj b' n' ej hj e2 with g | g
        · omega
        · intro eb; rw [eb] at g2; exact g2 g
    · rw [rhoj i ji hji] at e1
      rcases cls j with ⟨ej, nj, noj⟩ | ⟨jj, ej, hjj⟩
      · rw [ej] at hj
        rw [if_neg nj] at e2
        obtain ⟨g1, g2⟩ := oldown j b' n' hj e2 noj
        rcases new i ji b n ei hi e1 with g | g
        · omega
        · intro eb; rw [← eb] at g2; exact g2 g
      · rw [rhoj j jj hjj] at e2
        refine hap ji jj b n b' n' (fun e => hij ?_) ((backK_ne ei (hplp ji)).2.1 hi) ((backK_ne ej (hplp jj)).2.1 hj) e1 e2
        subst e
        rcases hji with ⟨g1, g2, g3⟩ | ⟨g1, g2, g3⟩ <;> rcases hjj with ⟨f1, f2, f3⟩ | ⟨f1, f2, f3⟩
        · omega
        · omega
        · omega
        · rw [g2] at f2; cases f2; rfl
  · rcases cls i with ⟨e, hn, hno⟩ | ⟨j, e, hj⟩
    · rw [e] at hk
      exact hkeep k (h.wf2 i k hk)
    · exact hmem k ((backK_ne e (hplp j)).2.2.1 k hk)
  · exact ⟨hb.os.trans h.kept.os, hb.tape.trans h.kept.tape, hb.output.trans h.kept.output, Nat.le_trans h.kept.size hb.size, fun k hk ho => (hb.block k (Nat.lt_of_lt_of_le hk h.kept.size) (fun h' => by
      rcases ownM k h' with g | g
      · omega
      · exact ho g)).trans (h.kept.block k hk ho)⟩

theorem renB_rep {ks : List Nat} {k i : Nat} {m : Bool} {x y : BK} {M M' : Nat → Prop} (hk : ks[i]? = some k) (hx : renB ks m x = some y) (hp : x.pl) (h : BRep ρ M W k x)
    (hM : x.own → m = true → ∀ b n, ρ k = some (b, 0, n) → M' b) (hM' : m = false → ∀ b, b < W.heap.size → (M b → ∃ n, ρ k = some (b, 0, n) ∧ x.own) → ¬ M' b) : BRep (envOf ρ ks) M' W i y ∧ y.pl := by
  have he : envOf ρ ks i = ρ k := by unfold envOf; rw [hk]
  have key : ∀ (own sym : Bool) (cells l : List SV), x = .live own sym cells → ¬ (m = true ∧ own = false) → (∀ vs, Rels ρ cells vs → Rels (envOf ρ ks) l vs) → (cells = [] → l = []) → BRep (envOf ρ ks) M' W i (.live m sym l) := fun own sym cells l hxe hmo hrl hnil => by
    subst hxe
    cases own with
    | true =>
      rcases h with ⟨h1, h2⟩ | ⟨b, vs, rest, ty, h1, h2, h3, h4⟩
      · cases m <;> exact .inl ⟨he.trans h1, hnil h2⟩
      · cases m with
        | true => exact .inr ⟨b, vs, rest, ty, he.trans h1, hM trivial rfl b _ h1, hrl vs h3, h4⟩
        | false =>
          refine .inr ⟨b, 0, _, vs, he.trans h1, ⟨by simp, fun _ => hM' rfl b (heap_lt h4) (fun _ => ⟨_, h1, trivial⟩)⟩, hrl vs h3, fun j x hj => ?_⟩
          have hi : j < vs.length := (List.getElem?_eq_some_iff.1 hj).1
          simp [World.cell?, h4, List.getElem?_append_left hi, hj]
    | false =>
      have hmf : m = false := by cases m <;> simp at hmo ⊢
      subst hmf
      rcases h with ⟨h1, h2⟩ | ⟨b, o, n, vs, h1, h2, h3, h4⟩
      · exact .inl ⟨he.trans h1, hnil h2⟩
      · refine .inr ⟨b, o, n, vs, he.trans h1, ⟨h2.1, fun hne => ?_⟩, hrl vs h3, h4⟩
        obtain ⟨x, hx⟩ : ∃ x, vs[0]? = some x := by cases vs with
          | nil => exact (hne rfl).elim
          | cons x _ => exact ⟨x, rfl⟩
        exact hM' rfl b (cell_lt (h4 0 x hx)) (fun hm => (h2.2 hne hm).elim)
  cases x with
  | un => simp [renB] at hx
  | dead => simp [renB] at hx
  | live own sym cells =>
    cases sym with
    | true =>
      simp only [renB] at hx
      split at hx
      · cases hx
      rename_i hmo
      simp only [Option.some.injEq] at hx
      subst hx
      exact ⟨key own true cells cells rfl hmo (fun vs hv => Plain.congr hp hv) id, hp⟩
    | false =>
      simp only [renB] at hx
      split at hx
      · cases hx
      rename_i hmo
      split at hx
      · rename_i l hl
        simp only [Option.some.injEq] at hx
        subst hx
        exact ⟨key own false cells l rfl hmo (fun vs hv => renL_rel cells l vs hl hv) (fun e => by subst e; simp only [renL, Option.some.injEq] at hl; exact hl.symm), trivial⟩
      · cases hx

theorem renB_pl {ks : List Nat} {m : Bool} {x y : BK} (hx : renB ks m x = some y) (hp : x.pl) : y.pl := by
  cases x with
  | un => simp [renB] at hx
  | dead => simp [renB] at hx
  | live own sym cells =>
    cases sym <;> simp only [renB] at hx <;> split at hx <;> try (cases hx; done)
    · split at hx
      · simp only [Option.some.injEq] at hx; subst hx; trivial
      · cases hx
    · simp only [Option.some.injEq] at hx; subst hx; exact hp

theorem renB_own {ks : List Nat} {m : Bool} {x y : BK} (hx : renB ks m x = some y) : (y.own ↔ m = true) ∧ (m = true → x.own) := by
  cases x with
  | un => simp [renB] at hx
  | dead => simp [renB] at hx
  | live own sym cells =>
    cases sym <;> simp only [renB] at hx <;> split at hx <;> try (cases hx; done)
    all_goals rename_i hmo
    · split at hx
      · simp only [Option.some.injEq] at hx
        subst hx
        cases m <;> cases own <;> simp_all [BK.own]
      · cases hx
    · simp only [Option.some.injEq] at hx
      subst hx
      cases m <;> cases own <;> simp_all [BK.own]

theorem callee_spec {fv : SV} {g : Nat} {caps : List SV} (h : callee fv = some (g, caps)) {v : Value} (hr : Rel ρ fv v) : ∃ vs : List Value, v = .func (.func g) #[] vs.toArray ∧ Rels ρ caps vs ∧ ∀ k, SV.hasl k caps → fv.has k := by
  unfold callee at h
  split at h
  · rename_i g' first caps'
    split at h
    · rename_i h1 h2
      simp only [Option.some.injEq, Prod.mk.injEq] at h
      obtain ⟨rfl, rfl⟩ := h
      simp only [Rel] at hr
      have e1 : first = #[] := by apply Array.ext'; simp [h1]
      have e2 : caps' = #[] := by apply Array.ext'; simp [h2]
      exact ⟨[], by rw [hr, e1, e2], by simp [Rels], by simp [SV.hasl]⟩
    · cases h
  · rename_i g' caps'
    simp only [Option.some.injEq, Prod.mk.injEq] at h
    obtain ⟨rfl, rfl⟩ := h
    simp only [Rel] at hr
    obtain ⟨vs, hv, hr⟩ := hr
    exact ⟨vs, hv, hr, fun k hk => by simpa [SV.has] using hk⟩
  · cases h

/-- A call, from every state that agrees with this one on what is handed over. -/
theorem call_ok {r : Option Nat} {n : Nat} {o : Oper} {f : Operand} {args : Array Operand} {ts : Array TypeId} (hop : o.op = .call { callee := .value f, args := args, argTypes := ts })
    {fr : Nat} {orc orc' : List Or} {e : Eff} {obs : List Ob} {ks : List Nat} (h : symCall (o.op.operands.toList.map (ev s.sl)) s.bk fr orc = some (e, obs, orc', ks)) (hob : Obs P obs)
    (hrep : Rep w0 N D ρ s a W) (hfr : ∀ u ∈ e.ups, fr ≤ u.1 → s.bk u.1 = .un) (hd : ∀ d, o.dst = some d → d < N) {Q : Exit → Act → World → Prop} {K : Act → World → Prop}
    (hK : ∀ ρ' a' W', Rep w0 N D ρ' (s.app o.dst e) a' W' → K a' W') : o.wpIn (Fw r) n P a W K Q := by
  have hops : o.op.operands.toList = f :: args.toList := by rw [hop]; simp [Op.operands, Call.operands]
  rw [hops, List.map_cons] at h
  unfold symCall at h
  split at h
  · rename_i fv as ks' res nb mb orc2 hcons
    simp only [List.cons.injEq] at hcons
    obtain ⟨hfv, has⟩ := hcons
    split at h
    · rename_i g caps hg
      split at h
      · rename_i args' bs res' upm upn h1 h2 h3 h4m h4
        split at h
        case isFalse => cases h
        rename_i hnd
        simp only [Option.some.injEq, Prod.mk.injEq] at h
        obtain ⟨rfl, rfl, rfl, rfl⟩ := h
        simp only [Obs, Ob.Holds, and_true] at hob
        have hfr' := ev_rel hrep f
        rw [hfv] at hfr'
        obtain ⟨vs, hfval, hcaps, hcw⟩ := callee_spec hg hfr'
        have hargs := evs_rel hrep args.toList
        rw [has] at hargs
        have hall : Rels ρ (as ++ caps) (args.toList.map a.eval ++ vs) := Rels.append hargs hcaps
        have hren := renL_rel (ks := ks') _ _ _ h1 hall
        obtain ⟨hbl, hbs⟩ := renBs_spec ks' mb bs h2
        have hks : ∀ k ∈ ks', s.bk k ≠ .un := fun k hk hun => by
          obtain ⟨i, hi⟩ := List.getElem?_of_mem hk
          obtain ⟨y, _, hy⟩ := hbs i k hi
          rw [hun] at hy; simp [renB] at hy
        -- which of the blocks handed over may be written
        have hownb : ∀ i, (bs.getD i .un).own → ∃ k, ks'[i]? = some k ∧ mb.getD i .un ≠ .un ∧ (s.bk k).own := fun i hi => by
          cases hk : ks'[i]? with
          | none =>
            have : bs[i]? = none := by rw [List.getElem?_eq_none_iff] at hk ⊢; omega
            rw [List.getD_eq_getElem?_getD, this] at hi; exact hi.elim
          | some k =>
            obtain ⟨y, hy1, hy2⟩ := hbs i k hk
            rw [show bs.getD i .un = y by simp [hy1]] at hi
            have hm := (renB_own hy2).1.1 hi
            exact ⟨k, rfl, fun e => by rw [e] at hm; simp [isUn] at hm, (renB_own hy2).2 hm⟩
        have hownOf : ∀ b, ownOf (envOf ρ ks') bs b → ∃ i k n, ks'[i]? = some k ∧ mb.getD i .un ≠ .un ∧ (s.bk k).own ∧ ρ k = some (b, 0, n) := fun b ⟨i, n, hi, hr⟩ => by
          obtain ⟨k, e1, e2, e3⟩ := hownb i hi
          refine ⟨i, k, n, e1, e2, e3, ?_⟩
          unfold envOf at hr; rw [e1] at hr; exact hr
        have hMown : ∀ k b n, (s.bk k).own → ρ k = some (b, 0, n) → w0.mine b ∧ b < W.heap.size := fun k b n hk hr => by
          have := hrep.bk k
          cases hx : s.bk k with
          | un => rw [hx] at hk; exact hk.elim
          | dead => rw [hx] at hk; exact hk.elim
          | live own sy cs =>
            rw [hx] at this hk
            cases own with
            | false => exact hk.elim
            | true =>
              rcases this with ⟨q, _⟩ | ⟨b₁, vs, rest, ty, q1, q2, _, q4⟩
              · rw [hr] at q; cases q
              · rw [hr] at q1; cases q1; exact ⟨q2, heap_lt q4⟩
        obtain ⟨hE, hob⟩ := hob
        have hcall := hob (envOf ρ ks') W (args.toList.map a.eval ++ vs) hren (fun i => by
          cases hi : ks'[i]? with
          | none =>
            have : bs[i]? = none := by rw [List.getElem?_eq_none_iff] at hi ⊢; omega
            simp [this, BRep]
          | some k =>
            obtain ⟨y, hy1, hy2⟩ := hbs i k hi
            rw [show bs.getD i .un = y by simp [hy1]]
            refine (renB_rep hi hy2 (hrep.pl k) (hrep.bk k) (fun ho hm b n hr => .inr ⟨i, n, by rw [show bs.getD i .un = y by simp [hy1]]; exact (renB_own hy2).1.2 hm, by unfold envOf; rw [hi]; exact hr⟩) (fun hm b hlt hMb hM' => ?_)).1
            · rcases hM' with hM' | hM'
              · simp only [callCx] at hM'; omega
              · obtain ⟨i', k', n', g1, g2, g3, g4⟩ := hownOf b hM'
                obtain ⟨n2, q1, q2⟩ := hMb (hMown k' b n' g3 g4).1
                by_cases hkk : k = k'
                · subst hkk
                  have := nodupB_spec hnd i i' k hi g1
                  subst this
                  simp only [Bool.not_eq_false'] at hm
                  exact g2 (isUn_iff.1 hm)
                · exact hrep.apart k k' b n2 b n' hkk q2 g3 q1 g4 rfl) (fun i => by
          cases hi : ks'[i]? with
          | none =>
            have : bs[i]? = none := by rw [List.getElem?_eq_none_iff] at hi ⊢; omega
            simp [this, BK.pl]
          | some k =>
            obtain ⟨y, hy1, hy2⟩ := hbs i k hi
            rw [show bs.getD i .un = y by simp [hy1]]
            exact renB_pl hy2 (hrep.pl k)) (fun i j b n b' n' hij hi hj e1 e2 => by
          obtain ⟨k1, q1, _, q3⟩ := hownb i hi
          obtain ⟨k2, p1, _, p3⟩ := hownb j hj
          unfold envOf at e1 e2
          rw [q1] at e1; rw [p1] at e2
          refine hrep.apart k1 k2 b n b' n' (fun e => hij ?_) q3 p3 e1 e2
          subst e
          exact nodupB_spec hnd i j k1 q1 p1)
        have hnd' : ∀ c, o.op ≠ .defer c := fun c hc => by rw [hop] at hc; cases hc
        have hrun : (execOp a.eval o).run P W = .ok (.enter g (args.toList.map a.eval ++ vs).toArray) W := by
          have e1 : (args.map a.eval) ++ vs.toArray = (args.toList.map a.eval ++ vs).toArray := by apply Array.ext'; simp
          simp only [execOp, hop, resolve, hfval, Deferred.ofValue, Sem.run_bind, Sem.run_pure, Result.andThen_ok, invoke]
          simp only [Array.empty_append]
          rw [hE, e1]
        refine ⟨fun _ _ => trivial, ?_⟩
        rw [Oper.semAt_eq _ _ _ hnd', hrun]
        simp only [Oper.uponIn]
        refine ⟨fun h => by simp [Fw] at h, callsIn_Fw.2 (hcall.mono fun e w' hR => ?_)⟩
        obtain ⟨ρ', v, rfl, hold, hres, hkept, hnew, hplp, hap⟩ := hR
        simp only [callCx] at hold hkept hnew hplp hap
        rw [hbl] at hnew hplp hap
        have hold' : ∀ i k, ks'[i]? = some k → ρ' i = ρ k := fun i k hi => by
          have hlt : i < bs.length := by rw [hbl]; exact (List.getElem?_eq_some_iff.1 hi).1
          rw [hold i hlt]; unfold envOf; rw [hi]
        obtain ⟨hul, hus⟩ := backBs_spec nb fr upn h4
        have hfr : ∀ k, fr ≤ k → k < fr + nb.length → s.bk k = .un := fun k h1 h2 => by
          obtain ⟨y', _, e3⟩ := hus (k - fr) (nb[k - fr]'(by omega)) (by simp)
          rw [Nat.add_sub_cancel' h1] at e3
          exact hfr _ (List.mem_append_right _ (List.mem_of_getElem? e3)) h1
        obtain ⟨hrep2, hmem⟩ := hrep.called hkept hnd hfr hks h4m h4 hownOf hold' hnew hplp hap
        refine hK (fun k => if fr ≤ k ∧ k < fr + nb.length then ρ' (ks'.length + (k - fr)) else ρ k) _ _ ?_
        rw [app_split]
        refine hrep2.put o.dst hd (back_rel (fun i k hi => ?_) (fun j hj => ?_) res res' v h3 hres) (fun k hk => hmem k (back_has res res' h3 hk))
        · have hk' : s.bk k ≠ .un := hks k (List.mem_of_getElem? hi)
          rw [if_neg (fun h' => hk' (hfr k h'.1 h'.2))]; exact (hold' i k hi).symm
        · rw [if_pos (by omega), Nat.add_sub_cancel_left]
      · cases h
    · cases h
  · cases h

end
end Go.Aw
