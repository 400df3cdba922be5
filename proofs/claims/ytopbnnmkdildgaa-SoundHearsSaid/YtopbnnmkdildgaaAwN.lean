/-
  A symbolic executor for the model's code, part N: a region, reckoned, is right. Generic in the program. No premise.
-/
import Derived.Test.YtopbnnmkdildgaaAwM
namespace Go.Aw
open Go.RowKit
set_option linter.unusedVariables false
set_option linter.unusedSimpArgs false

section
variable {P : Program} {T : Nat → Option TI} {w0 : Cx} {N : Nat} {D : List Deferred} {ρ : Env} {a : Act} {W : World} {r : Option Nat} {n : Nat} {ops : Array Oper}

theorem evOps_ok (hT : TOk P T) {all : List Ev} {s0 : FS} : ∀ (l : List Oper) (i : Nat) (s : LS) (orc : List Or) (evs : List Ev) (s' : LS) (obs : List Ob) (orc' : List Or), evOps T ops l i s orc = some (evs, s', obs, orc') → Obs P obs →
    (∀ j, l[j]? = ops[i + j]?) → (∀ j, evs[j]? = all[i + j]?) → s.fs = SD (stepA ops all) (fun _ => true) s0 i →
    evs.length = l.length ∧ s'.fs = SD (stepA ops all) (fun _ => true) s0 (i + l.length) ∧ s'.sl.length = s.sl.length ∧
      ∀ j v, evs[j]? = some v → LocalOK P r n w0 s.sl.length D ops (i + j) (SD (stepA ops all) (fun _ => true) s0 (i + j)) v
  | [], i, s, orc, evs, s', obs, orc', h, _, _, _, hs => by
    simp only [evOps, Option.some.injEq, Prod.mk.injEq] at h
    obtain ⟨rfl, rfl, _, _⟩ := h
    exact ⟨rfl, hs, rfl, fun j v hv => by simp at hv⟩
  | o :: l, i, s, orc, evs, s', obs, orc', h, hob, hl, he, hs => by
    simp only [evOps] at h
    split at h
    · cases h
    · rename_i v obs1 orc1 hv
      split at h
      · cases h
      · rename_i s1 happ
        split at h
        · cases h
        · rename_i vs s2 obs2 orc2 hrest
          simp only [Option.some.injEq, Prod.mk.injEq] at h
          obtain ⟨rfl, rfl, rfl, rfl⟩ := h
          obtain ⟨ho1, ho2⟩ := Obs.append hob
          have hi : ops[i]? = some o := by have := hl 0; simpa using this.symm
          have hall : all[i]? = some v := by have := he 0; simpa using this.symm
          obtain ⟨hfs, hd, hlen⟩ := app_fs happ
          have hs1 : s1.fs = SD (stepA ops all) (fun _ => true) s0 (i + 1) := by
            simp only [SD, if_true, stepA, hall, ← hs]
            rw [hfs]; simp [dstOf, hi]
          obtain ⟨h1, h2, h3, h4⟩ := evOps_ok hT l (i + 1) s1 orc1 vs s2 obs2 orc2 hrest ho2 (fun j => by have := hl (j + 1); simpa [Nat.add_assoc, Nat.add_comm 1 j] using this)
            (fun j => by have := he (j + 1); simpa [Nat.add_assoc, Nat.add_comm 1 j] using this) hs1
          refine ⟨by simp [h1], by rw [h2]; congr 1; simp; omega, h3.trans hlen, fun j w hw => ?_⟩
          cases j with
          | zero =>
            simp at hw; subst hw
            have := evOp_ok (r := r) (n := n) (w0 := w0) (D := D) hT hv ho1 hi hd
            rw [Nat.add_zero, ← hs]; exact this
          | succ j =>
            have := h4 j w (by simpa using hw)
            rw [hlen] at this
            rw [show i + (j + 1) = i + 1 + j by omega]; exact this

/-! ### The check that no operation disturbs another -/
theorem clos_get : ∀ (l : List Oper) (acc : List Nat), (∀ j, j < acc.length → (clos l acc)[j]? = acc[j]?) ∧ (clos l acc).length = acc.length + l.length
  | [], acc => ⟨fun _ _ => rfl, by simp [clos]⟩
  | o :: l, acc => by
    simp only [clos]
    obtain ⟨h1, h2⟩ := clos_get l (acc ++ [(anyEdges o).foldl (fun m e => m ||| (2 ^ e ||| acc.getD e 0)) 0])
    refine ⟨fun j hj => ?_, by rw [h2]; simp; omega⟩
    rw [h1 j (by simp; omega), List.getElem?_append_left hj]

theorem foldl_bits (acc : List Nat) : ∀ (es : List Nat) (m k : Nat), (es.foldl (fun m e => m ||| (2 ^ e ||| acc.getD e 0)) m).testBit k = true → m.testBit k = true ∨ ∃ e ∈ es, k = e ∨ (acc.getD e 0).testBit k = true
  | [], m, k, h => .inl h
  | e :: es, m, k, h => by
    simp only [List.foldl_cons] at h
    rcases foldl_bits acc es _ k h with h | ⟨e', he', h⟩
    · simp only [Nat.testBit_or, Bool.or_eq_true, Nat.testBit_two_pow, decide_eq_true_eq] at h
      rcases h with h | h | h
      · exact .inl h
      · exact .inr ⟨e, by simp, .inl h.symm⟩
      · exact .inr ⟨e, by simp, .inr h⟩
    · exact .inr ⟨e', by simp [he'], h⟩

theorem clos_at : ∀ (l : List Oper) (acc : List Nat) (i : Nat) (o : Oper), l[i]? = some o → ∃ acc' : List Nat, (∀ j, j < acc'.length → (clos l acc)[j]? = acc'[j]?) ∧ acc'.length = acc.length + i ∧
    (clos l acc)[acc.length + i]? = some ((anyEdges o).foldl (fun m e => m ||| (2 ^ e ||| acc'.getD e 0)) 0)
  | [], acc, i, o, h => by simp at h
  | o' :: l, acc, i, o, h => by
    simp only [clos]
    cases i with
    | zero =>
      simp at h; subst h
      have := clos_get l (acc ++ [(anyEdges o').foldl (fun m e => m ||| (2 ^ e ||| acc.getD e 0)) 0])
      refine ⟨acc, fun j hj => ?_, by simp, ?_⟩
      · rw [this.1 j (by simp; omega), List.getElem?_append_left hj]
      · rw [this.1 _ (by simp)]; simp
    | succ i =>
      simp at h
      obtain ⟨acc', h1, h2, h3⟩ := clos_at l (acc ++ [(anyEdges o').foldl (fun m e => m ||| (2 ^ e ||| acc.getD e 0)) 0]) i o h
      refine ⟨acc', h1, by rw [h2]; simp; omega, ?_⟩
      rw [← h3]; congr 1; simp; omega

theorem mem_anyEdges {o : Oper} {e : Nat} : e ∈ anyEdges o ↔ ∃ x ∈ o.after, Region.binds .any x = true ∧ x.on = e := by
  simp [anyEdges, List.mem_map, List.mem_filter, and_assoc]

/-- What must come before. -/
def depB (ops : Array Oper) (i j : Nat) : Prop := j < i ∧ ((clos ops.toList []).getD i 0).testBit j = true

theorem dep_closed {D : Nat → Bool} (hcl : ∀ j o, ops[j]? = some o → D j = true → ∀ e ∈ o.after, Region.binds .any e = true → D e.on = true) (hlow : ∀ i o, ops[i]? = some o → ∀ e ∈ o.after, Region.binds .any e = true → e.on < i) :
    ∀ (i : Nat) (o : Oper), ops[i]? = some o → (∀ e ∈ o.after, Region.binds .any e = true → D e.on = true) → ∀ k, ((clos ops.toList []).getD i 0).testBit k = true → D k = true := by
  intro i
  induction i using Nat.strongRecOn with
  | ind i ih =>
    intro o ho hd k hk
    obtain ⟨acc', h1, h2, h3⟩ := clos_at ops.toList [] i o (by simpa using ho)
    simp only [List.length_nil, Nat.zero_add] at h2 h3
    rw [List.getD_eq_getElem?_getD, h3] at hk
    simp only [Option.getD_some] at hk
    rcases foldl_bits _ _ _ _ hk with h | ⟨e, he, h⟩
    · simp at h
    · obtain ⟨x, hx, hb, rfl⟩ := mem_anyEdges.1 he
      have hlt := hlow i o ho x hx hb
      have hDx := hd x hx hb
      rcases h with rfl | h
      · exact hDx
      · have hsz : x.on < ops.size := by have := (Array.getElem?_eq_some_iff.1 ho).1; omega
        have hox : ops[x.on]? = some ops[x.on] := by simp [hsz]
        refine ih x.on hlt _ hox (hcl _ _ hox hDx) k ?_
        rw [List.getD_eq_getElem?_getD, h1 x.on (by omega), ← List.getD_eq_getElem?_getD]; exact h

theorem disj_spec {l m : List Nat} (h : disj l m = true) : ∀ x ∈ l, x ∉ m := by
  intro x hx
  have := List.all_eq_true.1 h x hx
  simpa using this

def codeR : Nat ⊕ Nat → Nat
  | .inl t => 2 * t
  | .inr k => 2 * k + 1

theorem conf_of_race {evs : List Ev} (hlen : evs.length = ops.size) (h : raceOK ops evs = true) :
    Conf ops.size (stepA ops evs) (fun i x => ∃ v, evs[i]? = some v ∧ codeR x ∈ wrC (dstOf ops i) v) (fun i x => ∃ v, evs[i]? = some v ∧ codeR x ∈ rdC v) (depB ops) ∧
    (∀ i o, ops[i]? = some o → ∀ e ∈ o.after, Region.binds .any e = true → e.on < i) := by
  unfold raceOK at h
  simp only [List.all_eq_true, List.mem_range, Bool.and_eq_true] at h
  have hw : ∀ i v, evs[i]? = some v → (((ops.toList.zip evs).map fun (x : Oper × Ev) => wrC x.1.dst x.2).getD i []) = wrC (dstOf ops i) v := fun i v hv => by
    have hi : i < ops.size := by rw [← hlen]; exact (List.getElem?_eq_some_iff.1 hv).1
    have ho : ops.toList[i]? = some ops[i] := by simp [hi]
    have hz : (ops.toList.zip evs)[i]? = some (ops[i], v) := List.getElem?_zip_eq_some.2 ⟨ho, hv⟩
    simp only [List.getD_eq_getElem?_getD, List.getElem?_map, hz, Option.map_some, Option.getD_some]
    simp [dstOf, hi]
  have hr : ∀ i v, evs[i]? = some v → ((evs.map rdC).getD i []) = rdC v := fun i v hv => by
    simp [List.getD_eq_getElem?_getD, hv]
  have pair : ∀ i j vi vj, j < i → evs[i]? = some vi → evs[j]? = some vj → depB ops i j ∨ ((∀ x, codeR x ∈ wrC (dstOf ops j) vj → codeR x ∉ wrC (dstOf ops i) vi ∧ codeR x ∉ rdC vi) ∧ (∀ x, codeR x ∈ wrC (dstOf ops i) vi → codeR x ∉ rdC vj)) := fun i j vi vj hji hi hj => by
    have hil := (List.getElem?_eq_some_iff.1 hi).1
    have := (h i hil).2 j hji
    simp only [Bool.or_eq_true, Bool.and_eq_true] at this
    rcases this with h' | ⟨⟨h1, h2⟩, h3⟩
    · exact .inl ⟨hji, h'⟩
    · rw [show (fun x : Oper × Ev => match x with | (o, v) => wrC o.dst v) = fun x : Oper × Ev => wrC x.1.dst x.2 from rfl] at h1 h2 h3
      rw [hw i vi hi] at h1 h3
      rw [hw j vj hj] at h1 h2
      rw [hr i vi hi] at h2
      rw [hr j vj hj] at h3
      exact .inr ⟨fun x hx => ⟨disj_spec h1 _ hx, disj_spec h2 _ hx⟩, fun x hx => disj_spec h3 _ hx⟩
  refine ⟨{ out := fun i s x hx => ?_, same := fun i s s' x hx => ?_, low := fun i j hd => hd.1, free := fun i j hi hj hij => ?_ }, fun i o ho e he hb => ?_⟩
  · unfold stepA
    cases hv : evs[i]? with
    | none => rfl
    | some v =>
      have hnot : codeR x ∉ wrC (dstOf ops i) v := fun h => hx ⟨v, hv, h⟩
      simp only [wrC, List.mem_append, not_or] at hnot
      cases x with
      | inl t =>
        simp only [FS.at', FS.app]
        cases hd : dstOf ops i with
        | none => rfl
        | some d =>
          have : t ≠ d := fun e => hnot.1 (by rw [hd]; simp [codeR, e])
          simp [this]
      | inr k =>
        simp only [FS.at', FS.app]
        rw [upds_other]
        intro u hu e
        exact hnot.2 (List.mem_map.2 ⟨u, hu, by simp [codeR, e]⟩)
  · obtain ⟨v, hv, hx⟩ := hx
    simp only [stepA, hv]
    simp only [wrC, List.mem_append] at hx
    cases x with
    | inl t =>
      simp only [FS.at', FS.app]
      rcases hx with hx | hx
      · cases hd : dstOf ops i with
        | none => rw [hd] at hx; simp at hx
        | some d =>
          rw [hd] at hx
          simp [codeR] at hx
          have : t = d := by omega
          simp [this]
      · simp [codeR] at hx; omega
    | inr k =>
      simp only [FS.at', FS.app]
      rcases hx with hx | hx
      · cases hd : dstOf ops i with
        | none => rw [hd] at hx; simp at hx
        | some d => rw [hd] at hx; simp [codeR] at hx; omega
      · congr 1
        have hmem : ∃ u ∈ v.eff.ups, u.1 = k := by
          obtain ⟨u, hu, e⟩ := List.mem_map.1 hx
          exact ⟨u, hu, by simp [codeR] at e; omega⟩
        clear hx hv
        generalize v.eff.ups = us at hmem
        generalize s.bk = f
        generalize s'.bk = g
        induction us generalizing f g with
        | nil => obtain ⟨u, hu, _⟩ := hmem; cases hu
        | cons u us ih =>
          obtain ⟨j, y⟩ := u
          simp only [upds]
          by_cases hin : ∃ u ∈ us, u.1 = k
          · exact ih hin _ _
          · rw [upds_other us _ k (fun u hu e => hin ⟨u, hu, e⟩), upds_other us _ k (fun u hu e => hin ⟨u, hu, e⟩)]
            obtain ⟨u, hu, e⟩ := hmem
            rcases List.mem_cons.1 hu with rfl | hu
            · simp only at e; simp [e]
            · exact (hin ⟨u, hu, e⟩).elim
  · have hvi : evs[i]? = some evs[i] := by simp
    have hvj : evs[j]? = some evs[j] := by simp
    rcases Nat.lt_or_ge j i with hlt | hge
    · rcases pair i j _ _ hlt hvi hvj with h' | ⟨h1, h2⟩
      · exact .inl h'
      · refine .inr (.inr ⟨fun x hx => ?_, fun x hx => ?_⟩)
        · obtain ⟨v, hv, hx⟩ := hx
          rw [hvi] at hv; cases hv
          refine ⟨fun ⟨v, hv, hx'⟩ => ?_, fun ⟨v, hv, hx'⟩ => ?_⟩
          · rw [hvj] at hv; cases hv; exact (h1 x hx').1 hx
          · rw [hvj] at hv; cases hv; exact h2 x hx hx'
        · obtain ⟨v, hv, hx⟩ := hx
          rw [hvj] at hv; cases hv
          exact fun ⟨v, hv, hx'⟩ => by rw [hvi] at hv; cases hv; exact (h1 x hx).2 hx'
    · have hlt : i < j := by omega
      rcases pair j i _ _ hlt hvj hvi with h' | ⟨h1, h2⟩
      · exact .inr (.inl h')
      · refine .inr (.inr ⟨fun x hx => ?_, fun x hx => ?_⟩)
        · obtain ⟨v, hv, hx⟩ := hx
          rw [hvi] at hv; cases hv
          exact ⟨fun ⟨v, hv, hx'⟩ => by rw [hvj] at hv; cases hv; exact (h1 x hx).1 hx', fun ⟨v, hv, hx'⟩ => by rw [hvj] at hv; cases hv; exact (h1 x hx).2 hx'⟩
        · obtain ⟨v, hv, hx⟩ := hx
          rw [hvj] at hv; cases hv
          exact fun ⟨v, hv, hx'⟩ => by rw [hvi] at hv; cases hv; exact h2 x hx hx'
  · have hi : i < evs.length := by rw [hlen]; exact (Array.getElem?_eq_some_iff.1 ho).1
    have := (h i hi).1
    have ho' : ops.toList[i]? = some o := by simpa using ho
    rw [ho'] at this
    simp only [Option.map_some, Option.getD_some, List.all_eq_true, decide_eq_true_eq] at this
    exact this e.on (mem_anyEdges.2 ⟨e, he, hb, rfl⟩)

/-- **A region.** -/
theorem region_sound (hT : TOk P T) (hm : P.follows .mixedOrders = true) {s s' : LS} {orc orc' : List Or} {evs : List Ev} {obs : List Ob} {draw : Bool} {id : Nat}
    (h : evOps T ops ops.toList 0 s orc = some (evs, s', obs, orc')) (hob : Obs P obs) (hrace : draw = true → raceOK ops evs = true) (hrep : Rep w0 s.sl.length D ρ s.fs a W) {Q : Exit → Act → World → Prop}
    (hQ : ∀ ρ' a' W', Rep w0 s'.sl.length D ρ' s'.fs a' W' → Q .normal a' W') : (Code.region id ops draw).wpIn (Fw r) n P Q a W := by
  obtain ⟨h1, h2, h3, h4⟩ := evOps_ok (ops := ops) (r := r) (n := n) (w0 := w0) (D := D) (all := evs) (s0 := s.fs) hT ops.toList 0 s orc evs s' obs orc' h hob (fun j => by simp) (fun j => by simp) rfl
  have hlen : evs.length = ops.size := by rw [h1]; simp
  have hfin : s'.fs = SD (stepA ops evs) (fun _ => true) s.fs ops.size := by rw [h2]; simp
  have hloc : ∀ i v, evs[i]? = some v → LocalOK P r n w0 s.sl.length D ops i (SD (stepA ops evs) (fun _ => true) s.fs i) v := fun i v hv => by
    have := h4 i v hv; simpa using this
  have hQ' : ∀ ρ' a' W', Rep w0 s.sl.length D ρ' (SD (stepA ops evs) (fun _ => true) s.fs ops.size) a' W' → Q .normal a' W' := fun ρ' a' W' h' => hQ ρ' a' W' (by rw [h3, hfin]; exact h')
  cases draw with
  | false => exact region_text hlen hloc hrep hQ'
  | true =>
    obtain ⟨c, hlow⟩ := conf_of_race hlen (hrace rfl)
    refine region_any hlen hm c (fun i v t hv ht => ⟨v, hv, ?_⟩) (fun i v k hv hk => ⟨v, hv, ?_⟩) hlow (fun D i o ho hcl hd k hk => ?_) hloc hrep hQ'
    · simp only [rdC, codeR]; exact List.mem_append_left _ (List.mem_map.2 ⟨t, ht, rfl⟩)
    · simp only [rdC, codeR]; exact List.mem_append_right _ (List.mem_map.2 ⟨k, hk, rfl⟩)
    · exact dep_closed hcl hlow i o ho hd k hk.2

end
end Go.Aw
