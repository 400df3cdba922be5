/-
  Parts of the proofs of the laws: the executor, what functions of the program compute, and that it is what the statements ask. No premise.
-/
import Derived.Test.YtnbpiejjeeomkaaGreatVPdn2
import Derived.Test.YtnbpiejjeeomkaaGreatRows
import Derived.Shelf.Abstract
namespace Go.Aw
open Go.RowKit
set_option linter.unusedVariables false
set_option linter.unusedSimpArgs false

def imn (a b : Int) : Int := if b < a then b else a
def imx (a b : Int) : Int := if a < b then b else a

section
variable {α β : Type} [DecidableEq α] {kc : α → SV} {vc : β → SV} {l : List (α × β)} {k : α} {T : Nat → Option TI} {kt : Nat}
/-! ### Steps -/
variable {P : Program}
def St.z (id : Nat) : St P := ⟨[.stop id], [], trivial⟩
end

def St.sub {P : Program} (a b : Int) (n : Nat) (h : 0 ≤ a ∧ a ≤ b ∧ b ≤ (n : Int) := by omega) : St P := ⟨[.mp []], [.pr (0 ≤ a ∧ a ≤ b ∧ b ≤ (n : Int))], h, trivial⟩

/-! ### Numbers as keys -/
/-! ### Lists of lists -/
section
variable {P : Program}
theorem d_plain {α : Type} {c : α → List SV} (hc : ∀ x, (c x).all SV.plain = true) (l : List α) : Plain (flat c l) := flat_plain hc
def St.D {α : Type} {c : α → List SV} {c2 : List α → List SV} (es : Nat) (hc2 : ∀ x, c2 x = [.d (flat c x) x.length es]) (l : List (List α)) (i : Int) (h : 0 ≤ i ∧ i < (l.length : Int) := by omega) (hc : ∀ x, (c x).all SV.plain = true := by exact fun _ => rfl) : St P :=
  ⟨[.ld [.d (flat c (l.getD i.toNat default)) (l.getD i.toNat default).length es]], [.pr (((flat c2 l).drop (0 + i.toNat * 1)).take 1 = [.d (flat c (l.getD i.toNat default)) (l.getD i.toNat default).length es]), .pr (Plain (flat c (l.getD i.toNat default)))],
    by
      have h1 : ∀ x, (c2 x).length = 1 := fun x => by rw [hc2]; rfl
      have := ld_at h1 l i 0 1 h (by decide)
      rw [Nat.add_zero] at this
      show _ = _
      rw [this, hc2]; rfl, d_plain hc _, trivial⟩
theorem rep_flat {α : Type} {c : α → List SV} {z : α} (n : Nat) : flat c (List.replicate n z) = (List.replicate n (c z)).flatten := by
  unfold flat
  rw [List.flatMap_def, List.map_replicate]
def St.Z {α : Type} (c : α → List SV) (z : α) (zs : List SV) (n : Int) (bytes : Nat) (h : 0 ≤ n ∧ n.toNat * bytes ≤ 2 ^ 47 ∧ n ≤ 2 ^ 47 := by omega) (e : c z = zs := by rfl) : St P :=
  ⟨[.ld (flat c (List.replicate n.toNat z))], [.pr (0 ≤ n ∧ n.toNat * bytes ≤ 2 ^ 47 ∧ n ≤ 2 ^ 47), .pr (n = n), .pr (flat c (List.replicate n.toNat z) = (List.replicate n.toNat zs).flatten)], h, rfl, by rw [← e]; exact rep_flat _, trivial⟩
theorem flat_drop {α : Type} {c : α → List SV} {es : Nat} (hc : ∀ x, (c x).length = es) : ∀ (l : List α) (n : Nat), (flat c l).drop (n * es) = flat c (l.drop n)
  | [], n => by simp [flat]
  | x :: l, 0 => by simp
  | x :: l, n + 1 => by
    rw [flat_cons, Nat.add_mul, Nat.one_mul, Nat.add_comm, ← List.drop_drop, List.drop_left' (hc x), flat_drop hc l n]; simp
theorem flat_take {α : Type} {c : α → List SV} {es : Nat} (hc : ∀ x, (c x).length = es) : ∀ (l : List α) (n : Nat), (flat c l).take (n * es) = flat c (l.take n)
  | [], n => by simp [flat]
  | x :: l, 0 => by simp [flat]
  | x :: l, n + 1 => by
    rw [flat_cons, Nat.add_mul, Nat.one_mul, Nat.add_comm, ← hc x, List.take_length_add_append, hc x, flat_take hc l n]; simp [flat_cons]
def part {α : Type} (l : List α) (a b : Int) : List α := (l.drop a.toNat).take (b.toNat - a.toNat)
theorem part_len {α : Type} {l : List α} {a b : Int} (h : 0 ≤ a ∧ a ≤ b ∧ b ≤ l.length) : (part l a b).length = b.toNat - a.toNat := by
  unfold part; rw [List.length_take, List.length_drop]; omega
def St.S {α : Type} {c : α → List SV} {es : Nat} (hc : ∀ x, (c x).length = es) (l : List α) (a b : Int) (n : Nat) (h : 0 ≤ a ∧ a ≤ b ∧ b ≤ (n : Int) := by omega) : St P :=
  ⟨[.ld (flat c (part l a b))], [.pr (0 ≤ a ∧ a ≤ b ∧ b ≤ (n : Int)), .pr (flat c (part l a b) = ((flat c l).drop (0 + a.toNat * es)).take ((b.toNat - a.toNat) * es))], h, by rw [Nat.zero_add, flat_drop hc, flat_take hc]; rfl, trivial⟩
end
end Go.Aw

namespace Go.Aw
open Go.RowKit
set_option linter.unusedVariables false
set_option linter.unusedSimpArgs false

mutual
def SV.hasB (i : Nat) : SV → Bool
  | .p j _ => j == i
  | .s j _ _ _ => j == i
  | .m j => j == i
  | .f _ caps => SV.hasBl i caps
  | .a l => SV.hasBl i l
  | .t l => SV.hasBl i l
  | _ => false
def SV.hasBl (i : Nat) : List SV → Bool
  | [] => false
  | x :: l => SV.hasB i x || SV.hasBl i l
end
mutual
theorem has_B {i : Nat} : ∀ (x : SV), x.has i → x.hasB i = true
  | .u, h => by simp [SV.has] at h
  | .b _, h => by simp [SV.has] at h
  | .v _, h => by simp [SV.has] at h
  | .d _ _ _, h => by simp [SV.has] at h
  | .p j _, h => by simp only [SV.has] at h; simp [SV.hasB, h]
  | .s j _ _ _, h => by simp only [SV.has] at h; simp [SV.hasB, h]
  | .m j, h => by simp only [SV.has] at h; simp [SV.hasB, h]
  | .f _ caps, h => by simp only [SV.has] at h; simp only [SV.hasB]; exact hasl_B caps h
  | .a l, h => by simp only [SV.has] at h; simp only [SV.hasB]; exact hasl_B l h
  | .t l, h => by simp only [SV.has] at h; simp only [SV.hasB]; exact hasl_B l h
theorem hasl_B {i : Nat} : ∀ (l : List SV), SV.hasl i l → SV.hasBl i l = true
  | [], h => by simp [SV.hasl] at h
  | x :: l, h => by
    simp only [SV.hasl] at h
    simp only [SV.hasBl, Bool.or_eq_true]
    exact h.imp (has_B x) (hasl_B l)
end
def BK.hasB (i : Nat) : BK → Bool
  | .live _ false cells => SV.hasBl i cells
  | .map es => SV.hasBl i (flatE es)
  | _ => false
theorem bk_B {i : Nat} {x : BK} (hpl : x.pl) (h : x.has i) : x.hasB i = true := by
  cases x with
  | un => exact h.elim
  | dead => exact h.elim
  | map es => exact hasl_B _ h
  | live own sym cells =>
    cases sym with
    | true => exact (hpl i h).elim
    | false => exact hasl_B _ h

section
variable {P : Program} {ρ : Env} {W : World} {M : Nat → Prop}

theorem part_rep {α : Type} {c : α → List SV} {es : Nat} (hc : ∀ x, (c x).length = es) {l : List α} {a b : Int} (hab : 0 ≤ a ∧ a ≤ b ∧ b ≤ l.length) {i : Nat} {y : Value}
    (hr : Rel ρ (.s i (0 + a.toNat * es) (b.toNat - a.toNat) es) y) (hb : BRep ρ M W i (.live false true (flat c l))) (hpl : Plain (flat c l)) :
    ∃ q, ∀ (k : Nat) (ρ2 : Env), ρ2 k = q → ρ2.fz = ρ.fz → Rel ρ2 (.s k 0 (part l a b).length es) y ∧ BRep ρ2 M W k (.live false true (flat c (part l a b))) := by
  have hl := part_len hab
  have hf : flat c (part l a b) = ((flat c l).drop (a.toNat * es)).take ((b.toNat - a.toNat) * es) := by rw [flat_drop hc, flat_take hc]; rfl
  simp only [Rel] at hr
  rcases hr with ⟨h1, h2, h3⟩ | ⟨b0, o, N, cap, off', h1, h2, h3, h4, h5⟩
  · refine ⟨none, fun k ρ2 hq hfz => ⟨?_, .inl ⟨hq, ?_⟩⟩⟩
    · simp only [Rel]; exact .inl ⟨hq, by omega, h3⟩
    · rw [hf, h2]; simp
  · refine ⟨some (b0, o + off', cap * es), fun k ρ2 hq hfz => ⟨?_, ?_⟩⟩
    · simp only [Rel]
      exact .inr ⟨b0, o + off', cap * es, cap, 0, hq, by rw [hl, Nat.add_zero]; exact h2, by rw [hl]; exact h3, by omega, fun _ => rfl⟩
    · rcases hb with ⟨e1, _⟩ | ⟨b1, o1, n1, vs, e1, ⟨e2, e3⟩, e4, e5⟩
      · rw [h1] at e1; cases e1
      · rw [h1] at e1
        simp only [Option.some.injEq, Prod.mk.injEq] at e1
        obtain ⟨rfl, rfl, rfl⟩ := e1
        have hle : (b.toNat - a.toNat) * es ≤ cap * es := Nat.mul_le_mul_right _ h3
        refine .inr ⟨b0, o + off', cap * es, (vs.drop (a.toNat * es)).take ((b.toNat - a.toNat) * es), hq, ⟨by rw [List.length_take]; omega, fun hne hM => ?_⟩, ?_, fun t x hx => ?_⟩
        · rw [hfz]
          exact e3 (fun e => hne (by rw [e]; simp)) hM
        · rw [hf]
          have hp2 : Plain (((flat c l).drop (a.toNat * es)).take ((b.toNat - a.toNat) * es)) := fun j hj => hpl j (hasl_drop (hasl_take hj))
          exact Plain.congr (fun b o ho => by rw [hfz]; exact ho) hp2 (Rels.take _ (Rels.drop _ e4))
        · have ht := (List.getElem?_eq_some_iff.1 hx).1
          rw [List.length_take] at ht
          rw [List.getElem?_take_of_lt (by omega), List.getElem?_drop] at hx
          have hcap : cap ≠ 0 := by
            intro e
            rw [e] at hle
            omega
          rw [h5 hcap, show o + (0 + a.toNat * es) + t = o + (a.toNat * es + t) by omega]
          exact e5 _ x hx

theorem rels_mid' {ρ ρ2 : Env} {x y : SV} : ∀ {pre post : List SV} {vs : List Value}, Rels ρ (pre ++ x :: post) vs → ρ.le ρ2 → (∀ j, SV.hasl j pre ∨ SV.hasl j post → ρ2 j = ρ j) → (∃ v, vs[pre.length]? = some v ∧ Rel ρ2 y v) → Rels ρ2 (pre ++ y :: post) vs
  | [], post, [], h, _, _, _ => by simp [Rels] at h
  | [], post, v :: vs, h, hf, hj, hx => by
    simp only [List.nil_append, Rels] at h ⊢
    obtain ⟨v', e, hx⟩ := hx
    simp only [List.length_nil, List.getElem?_cons_zero, Option.some.injEq] at e
    subst e
    exact ⟨hx, Rels.congr hf _ _ (fun j hk => hj j (.inr hk)) h.2⟩
  | z :: pre, post, [], h, _, _, _ => by simp [Rels] at h
  | z :: pre, post, v :: vs, h, hf, hj, hx => by
    simp only [List.cons_append, Rels] at h ⊢
    refine ⟨Rel.congr hf _ _ (fun j hk => hj j (.inl (by simp only [SV.hasl]; exact .inl hk))) h.1, rels_mid' h.2 hf (fun j hk => hj j ?_) ?_⟩
    · rcases hk with hk | hk
      · exact .inl (by simp only [SV.hasl]; exact .inr hk)
      · exact .inr hk
    · obtain ⟨v', e, hx⟩ := hx
      exact ⟨v', by simpa using e, hx⟩
theorem rels_at {x : SV} : ∀ {pre post : List SV} {vs : List Value}, Rels ρ (pre ++ x :: post) vs → ∃ v, vs[pre.length]? = some v ∧ Rel ρ x v
  | [], _, [], h => by simp [Rels] at h
  | [], _, v :: _, h => by simp only [List.nil_append, Rels] at h; exact ⟨v, rfl, h.1⟩
  | _ :: _, _, [], h => by simp [Rels] at h
  | _ :: pre, _, _ :: _, h => by
    simp only [List.cons_append, Rels] at h
    obtain ⟨v, e, hx⟩ := rels_at h.2
    exact ⟨v, by simpa using e, hx⟩

theorem getD_mid {x : BK} {bs1 bs2 : List BK} (j : Nat) : (bs1 ++ x :: bs2).getD j .un = if j = bs1.length then x else if j < bs1.length then bs1.getD j .un else bs2.getD (j - bs1.length - 1) .un := by
  simp only [List.getD_eq_getElem?_getD]
  by_cases h : j = bs1.length
  · subst h; simp
  · rw [if_neg h]
    by_cases h2 : j < bs1.length
    · rw [if_pos h2, List.getElem?_append_left h2]
    · rw [if_neg h2, List.getElem?_append_right (by omega)]
      obtain ⟨k, hk⟩ : ∃ k, j - bs1.length = k + 1 := ⟨j - bs1.length - 1, by omega⟩
      rw [hk]; simp

theorem Con.part {f : Nat} {pre post : List SV} {bs1 bs2 nb : List BK} {res : SV} {α : Type} {c : α → List SV} {es : Nat} {l : List α} {a b : Int} (i : Nat) (hc : ∀ x, (c x).length = es) (hab : 0 ≤ a ∧ a ≤ b ∧ b ≤ l.length) (hi : bs1.length = i)
    (hno : (!SV.hasBl i pre && !SV.hasBl i post && bs1.all (fun x => !x.hasB i) && bs2.all (fun x => !x.hasB i) && nb.all (fun x => !x.hasB i) && !res.hasB i) = true)
    (h : Con P f (pre ++ .s i 0 (Aw.part l a b).length es :: post) (bs1 ++ .live false true (flat c (Aw.part l a b)) :: bs2) res nb) :
    Con P f (pre ++ .s i (0 + a.toNat * es) (b.toNat - a.toNat) es :: post) (bs1 ++ .live false true (flat c l) :: bs2) res nb := by
  subst hi
  simp only [Bool.and_eq_true, Bool.not_eq_true', List.all_eq_true] at hno
  obtain ⟨⟨⟨⟨⟨n1, n2⟩, n3⟩, n4⟩, n5⟩, n6⟩ := hno
  refine ⟨h.1, fun ρ W vs hr hb hpl hap hfz => ?_⟩
  obtain ⟨y, hy, hry⟩ := rels_at hr
  have hbi := hb bs1.length
  have hpi := hpl bs1.length
  rw [getD_mid, if_pos rfl] at hbi hpi
  obtain ⟨q, hq⟩ := part_rep hc hab hry hbi hpi
  have hne : ∀ j, j ≠ bs1.length → (ρ.set bs1.length q) j = ρ j := fun j hj => by rw [Env.set_loc, if_neg hj]
  have hat : (ρ.set bs1.length q) bs1.length = q := by rw [Env.set_loc, if_pos rfl]
  have hown : ownOf (ρ.set bs1.length q) (bs1 ++ .live false true (flat c (Aw.part l a b)) :: bs2) = ownOf ρ (bs1 ++ .live false true (flat c l) :: bs2) := by
    funext b0
    apply propext
    unfold ownOf
    constructor
    · rintro ⟨j, n, h1, h2⟩
      rw [getD_mid] at h1
      by_cases hj : j = bs1.length
      · rw [if_pos hj] at h1; exact h1.elim
      · refine ⟨j, n, ?_, by rw [← hne j hj]; exact h2⟩
        rw [getD_mid, if_neg hj]; rw [if_neg hj] at h1; exact h1
    · rintro ⟨j, n, h1, h2⟩
      rw [getD_mid] at h1
      by_cases hj : j = bs1.length
      · rw [if_pos hj] at h1; exact h1.elim
      · refine ⟨j, n, ?_, by rw [hne j hj]; exact h2⟩
        rw [getD_mid, if_neg hj]; rw [if_neg hj] at h1; exact h1
  have hmine : (callCx (ρ.set bs1.length q) W (bs1 ++ .live false true (flat c (Aw.part l a b)) :: bs2)).mine = (callCx ρ W (bs1 ++ .live false true (flat c l) :: bs2)).mine := by
    funext b0
    unfold Cx.mine callCx
    simp only [hown]
  obtain ⟨g1, g2⟩ := hq bs1.length (ρ.set bs1.length q) hat rfl
  have blk : ∀ j, j ≠ bs1.length → (bs1 ++ BK.live false true (flat c (Aw.part l a b)) :: bs2).getD j .un = (bs1 ++ BK.live false true (flat c l) :: bs2).getD j .un := fun j hj => by rw [getD_mid, getD_mid, if_neg hj, if_neg hj]
  have nohas : ∀ j, j ≠ bs1.length → ¬ ((bs1 ++ BK.live false true (flat c l) :: bs2).getD j .un).has bs1.length := fun j hj hk => by
    have hB := bk_B (hpl j) hk
    rw [getD_mid, if_neg hj] at hB
    split at hB
    · rename_i hlt
      rw [List.getD_eq_getElem?_getD, List.getElem?_eq_getElem hlt, Option.getD_some] at hB
      rw [n3 _ (List.getElem_mem hlt)] at hB; cases hB
    · by_cases hlt : j - bs1.length - 1 < bs2.length
      · rw [List.getD_eq_getElem?_getD, List.getElem?_eq_getElem hlt, Option.getD_some] at hB
        rw [n4 _ (List.getElem_mem hlt)] at hB; cases hB
      · rw [List.getD_eq_getElem?_getD, List.getElem?_eq_none (by omega), Option.getD_none] at hB; cases hB
  have nol : ∀ {m : List SV}, SV.hasBl bs1.length m = false → ∀ j, SV.hasl j m → j ≠ bs1.length := fun hm j hj e => by
    subst e; rw [hasl_B _ hj] at hm; cases hm
  have hcall := h.2 (ρ.set bs1.length q) W vs ?_ ?_ ?_ ?_ ?_
  · refine hcall.mono fun e W' hR => ?_
    obtain ⟨ρ', v, r1, r2, r3, r4, r5, r6, r7, r8, r9⟩ := hR
    have hbase : (callCx (ρ.set bs1.length q) W (bs1 ++ .live false true (flat c (Aw.part l a b)) :: bs2)).base = (callCx ρ W (bs1 ++ .live false true (flat c l) :: bs2)).base := by simp [callCx]
    have hlt : bs1.length < (callCx ρ W (bs1 ++ .live false true (flat c l) :: bs2)).base := by simp [callCx]
    rw [hbase] at r2 r5 r6 r7 r9
    rw [hmine] at r5 r9
    have hnb : ∀ j, ¬ (postB (callCx ρ W (bs1 ++ .live false true (flat c l) :: bs2)).base [] nb j).has bs1.length := fun j hk => by
      have hB := bk_B (r6 j) hk
      unfold postB at hB
      split at hB
      · simp [BK.hasB] at hB
      · rename_i hge
        by_cases hl2 : j - (callCx ρ W (bs1 ++ .live false true (flat c l) :: bs2)).base < nb.length
        · rw [List.getD_eq_getElem?_getD, List.getElem?_eq_getElem hl2, Option.getD_some] at hB
          rw [n5 _ (List.getElem_mem hl2)] at hB; cases hB
        · rw [List.getD_eq_getElem?_getD, List.getElem?_eq_none (by omega), Option.getD_none] at hB; cases hB
    have ho : ∀ j, (postB (callCx ρ W (bs1 ++ .live false true (flat c l) :: bs2)).base [] nb j).own → j ≠ bs1.length := fun j hj e => by
      subst e
      unfold postB at hj
      rw [if_pos hlt] at hj
      exact hj
    have hs : ∀ j, j ≠ bs1.length → (ρ'.set bs1.length (ρ bs1.length)) j = ρ' j := fun j hj => by rw [Env.set_loc, if_neg hj]
    refine ⟨ρ'.set bs1.length (ρ bs1.length), v, r1, fun j hj => ?_, ?_, ?_, fun j => ?_, r6, fun j k b1 m1 b2 m2 hjk o1 o2 e1 e2 => ?_, ?_, fun b0 o0 hf0 => ?_⟩
    · by_cases hji : j = bs1.length
      · subst hji; rw [Env.set_loc, if_pos rfl]; rfl
      · rw [hs j hji, r2 j hj]; exact hne j hji
    · exact Rel.congr (ρ'.le_set _ _) _ _ (fun j hk => hs j (fun e => by subst e; rw [has_B _ hk] at n6; cases n6)) r3
    · have : (callCx (ρ.set bs1.length q) W (bs1 ++ .live false true (flat c (Aw.part l a b)) :: bs2)).own = (callCx ρ W (bs1 ++ .live false true (flat c l) :: bs2)).own := hown
      rw [this] at r4; exact r4
    · by_cases hji : j = bs1.length
      · subst hji
        unfold postB
        rw [if_pos hlt]; trivial
      · exact BRep.congr (ρ'.le_set _ _) (hs j hji) (fun k hk => hs k (fun e => by subst e; exact hnb j hk)) (r5 j)
    · rw [hs j (ho j o1)] at e1
      rw [hs k (ho k o2)] at e2
      exact r7 j k b1 m1 b2 m2 hjk o1 o2 e1 e2
    · exact r8
    · obtain ⟨t1, t2, t3⟩ := r9 b0 o0 hf0
      exact ⟨t1, fun j n hj => by rw [hs j (ho j hj)]; exact t2 j n hj, t3⟩
  · refine rels_mid' hr (ρ.le_set _ _) (fun j hj => hne j ?_) ⟨y, hy, g1⟩
    rcases hj with hj | hj
    · exact nol n1 j hj
    · exact nol n2 j hj
  · intro j
    rw [hmine]
    by_cases hj : j = bs1.length
    · rw [hj, getD_mid, if_pos rfl]; exact g2
    · rw [blk j hj]
      exact BRep.congr (ρ.le_set _ _) (hne j hj) (fun k hk => hne k (fun e => by subst e; exact nohas j hj hk)) (hb j)
  · intro j
    by_cases hj : j = bs1.length
    · rw [hj, getD_mid, if_pos rfl]
      show Plain _
      have hf : flat c (Aw.part l a b) = ((flat c l).drop (a.toNat * es)).take ((b.toNat - a.toNat) * es) := by rw [flat_drop hc, flat_take hc]; rfl
      rw [hf]
      exact fun k hk => hpi k (hasl_drop (hasl_take hk))
    · rw [blk j hj]; exact hpl j
  · intro j k b1 m1 b2 m2 hjk o1 o2 e1 e2
    have hj : j ≠ bs1.length := fun e => by rw [e, getD_mid, if_pos rfl] at o1; exact o1
    have hk : k ≠ bs1.length := fun e => by rw [e, getD_mid, if_pos rfl] at o2; exact o2
    rw [blk j hj] at o1
    rw [blk k hk] at o2
    rw [hne j hj] at e1
    rw [hne k hk] at e2
    exact hap j k b1 m1 b2 m2 hjk o1 o2 e1 e2
  · intro b0 o0 hf0
    obtain ⟨t1, t2⟩ := hfz b0 o0 hf0
    refine ⟨t1, fun j n hj => ?_⟩
    have hji : j ≠ bs1.length := fun e => by rw [e, getD_mid, if_pos rfl] at hj; exact hj
    rw [blk j hji] at hj
    rw [hne j hji]
    exact t2 j n hj
theorem getD_last {x : BK} {bs : List BK} (j : Nat) : (bs ++ [x]).getD j .un = if j = bs.length then x else bs.getD j .un := by
  rw [getD_mid (bs2 := [])]
  by_cases h : j = bs.length
  · rw [if_pos h, if_pos h]
  · rw [if_neg h, if_neg h]
    by_cases h2 : j < bs.length
    · rw [if_pos h2]
    · rw [if_neg h2]
      simp only [List.getD_eq_getElem?_getD]
      rw [List.getElem?_eq_none (by omega : bs.length ≤ j)]; simp

theorem Con.alias {f : Nat} {pre post : List SV} {bs : List BK} {res : SV} {α : Type} {c : α → List SV} {es : Nat} {l : List α} {a b : Int} (i : Nat) (hc : ∀ x, (c x).length = es) (hab : 0 ≤ a ∧ a ≤ b ∧ b ≤ l.length)
    (hi : bs[i]? = some (.live false true (flat c l)))
    (hno : (!SV.hasBl bs.length pre && !SV.hasBl bs.length post && bs.all (fun x => !x.hasB bs.length) && !res.hasB bs.length) = true)
    (h : Con P f (pre ++ .s bs.length 0 (Aw.part l a b).length es :: post) (bs ++ [.live false true (flat c (Aw.part l a b))]) res []) :
    Con P f (pre ++ .s i (0 + a.toNat * es) (b.toNat - a.toNat) es :: post) bs res [] := by
  simp only [Bool.and_eq_true, Bool.not_eq_true', List.all_eq_true] at hno
  obtain ⟨⟨⟨n1, n2⟩, n3⟩, n6⟩ := hno
  refine ⟨h.1, fun ρ W vs hr hb hpl hap hfz => ?_⟩
  have hilt := (List.getElem?_eq_some_iff.1 hi).1
  have hgi : bs.getD i .un = .live false true (flat c l) := by rw [List.getD_eq_getElem?_getD, hi]; rfl
  obtain ⟨y, hy, hry⟩ := rels_at hr
  have hbi := hb i
  have hpi := hpl i
  rw [hgi] at hbi hpi
  obtain ⟨q, hq⟩ := part_rep hc hab hry hbi hpi
  have hne : ∀ j, j ≠ bs.length → (ρ.set bs.length q) j = ρ j := fun j hj => by rw [Env.set_loc, if_neg hj]
  have hat : (ρ.set bs.length q) bs.length = q := by rw [Env.set_loc, if_pos rfl]
  have hend : bs.getD bs.length .un = .un := by rw [List.getD_eq_getElem?_getD, List.getElem?_eq_none (Nat.le_refl _)]; rfl
  have hown : ownOf (ρ.set bs.length q) (bs ++ [.live false true (flat c (Aw.part l a b))]) = ownOf ρ bs := by
    funext b0
    apply propext
    unfold ownOf
    constructor
    · rintro ⟨j, n, h1, h2⟩
      rw [getD_last] at h1
      by_cases hj : j = bs.length
      · rw [if_pos hj] at h1; exact h1.elim
      · rw [if_neg hj] at h1
        exact ⟨j, n, h1, by rw [← hne j hj]; exact h2⟩
    · rintro ⟨j, n, h1, h2⟩
      have hj : j ≠ bs.length := fun e => by rw [e, hend] at h1; exact h1
      exact ⟨j, n, by rw [getD_last, if_neg hj]; exact h1, by rw [hne j hj]; exact h2⟩
  have hmine : (callCx (ρ.set bs.length q) W (bs ++ [.live false true (flat c (Aw.part l a b))])).mine = (callCx ρ W bs).mine := by
    funext b0
    unfold Cx.mine callCx
    simp only [hown]
  obtain ⟨g1, g2⟩ := hq bs.length (ρ.set bs.length q) hat rfl
  have nohas : ∀ j, ¬ (bs.getD j .un).has bs.length := fun j hk => by
    have hB := bk_B (hpl j) hk
    by_cases hlt : j < bs.length
    · rw [List.getD_eq_getElem?_getD, List.getElem?_eq_getElem hlt, Option.getD_some] at hB
      rw [n3 _ (List.getElem_mem hlt)] at hB; cases hB
    · rw [List.getD_eq_getElem?_getD, List.getElem?_eq_none (by omega), Option.getD_none] at hB; cases hB
  have nol : ∀ {m : List SV}, SV.hasBl bs.length m = false → ∀ j, SV.hasl j m → j ≠ bs.length := fun hm j hj e => by
    subst e; rw [hasl_B _ hj] at hm; cases hm
  have hcall := h.2 (ρ.set bs.length q) W vs ?_ ?_ ?_ ?_ ?_
  · refine hcall.mono fun e W' hR => ?_
    obtain ⟨ρ', v, r1, r2, r3, r4, r5, r6, r7, r8, r9⟩ := hR
    have un1 : ∀ j, postB (callCx ρ W bs).base [] [] j = .un := fun j => by unfold postB; simp
    have un2 : ∀ j, postB (callCx (ρ.set bs.length q) W (bs ++ [.live false true (flat c (Aw.part l a b))])).base [] [] j = .un := fun j => by unfold postB; simp
    refine ⟨ρ', v, r1, fun j hj => ?_, r3, ?_, fun j => ?_, fun j => ?_, fun j k b1 m1 b2 m2 hjk o1 o2 e1 e2 => ?_, r8, fun b0 o0 hf0 => ?_⟩
    · have hj' : j < bs.length := hj
      rw [r2 j (by simp [callCx]; omega)]; exact hne j (by omega)
    · have : (callCx (ρ.set bs.length q) W (bs ++ [.live false true (flat c (Aw.part l a b))])).own = (callCx ρ W bs).own := hown
      rw [this] at r4; exact r4
    · rw [un1]; trivial
    · rw [un1]; trivial
    · rw [un1] at o1; exact o1.elim
    · obtain ⟨t1, t2, t3⟩ := r9 b0 o0 hf0
      rw [hmine] at t3
      exact ⟨t1, fun j n hj => by rw [un1] at hj; exact hj.elim, t3⟩
  · refine rels_mid' hr (ρ.le_set _ _) (fun j hj => hne j ?_) ⟨y, hy, g1⟩
    rcases hj with hj | hj
    · exact nol n1 j hj
    · exact nol n2 j hj
  · intro j
    rw [hmine, getD_last]
    by_cases hj : j = bs.length
    · rw [if_pos hj, hj]; exact g2
    · rw [if_neg hj]
      exact BRep.congr (ρ.le_set _ _) (hne j hj) (fun k hk => hne k (fun e => by subst e; exact nohas j hk)) (hb j)
  · intro j
    rw [getD_last]
    by_cases hj : j = bs.length
    · rw [if_pos hj]
      show Plain _
      have hf : flat c (Aw.part l a b) = ((flat c l).drop (a.toNat * es)).take ((b.toNat - a.toNat) * es) := by rw [flat_drop hc, flat_take hc]; rfl
      rw [hf]
      exact fun k hk => hpi k (hasl_drop (hasl_take hk))
    · rw [if_neg hj]; exact hpl j
  · intro j k b1 m1 b2 m2 hjk o1 o2 e1 e2
    rw [getD_last] at o1 o2
    have hj : j ≠ bs.length := fun e => by rw [if_pos e] at o1; exact o1
    have hk : k ≠ bs.length := fun e => by rw [if_pos e] at o2; exact o2
    rw [if_neg hj] at o1
    rw [if_neg hk] at o2
    rw [hne j hj] at e1
    rw [hne k hk] at e2
    exact hap j k b1 m1 b2 m2 hjk o1 o2 e1 e2
  · intro b0 o0 hf0
    obtain ⟨t1, t2⟩ := hfz b0 o0 hf0
    refine ⟨t1, fun j n hj => ?_⟩
    rw [getD_last] at hj
    have hji : j ≠ bs.length := fun e => by rw [if_pos e] at hj; exact hj
    rw [if_neg hji] at hj
    rw [hne j hji]
    exact t2 j n hj
end

/-! ### A body that comes to its end without a word -/
def retNOf (T : Nat → Option TI) (rv : List ResultVar) (base : Nat) (ms ks : List Nat) : Option (Out × List Ob × List Or) → Option (SV × List BK × List BK × List Ob)
  | some (.norm s, obs, []) => match fin T rv base ms ks s with
    | some (res, nb, mb) => some (res, nb, mb, obs)
    | none => none
  | _ => none
theorem retN_of {P : Program} {T : Nat → Option TI} {cx : Cx} {n : Nat} (hT : TOk P T) (hm : P.follows .mixedOrders = true) {fn : Func} {f : Nat} {k : List K} {s : LS} {orc : List Or} (ads : List Adj) (ms ks : List Nat) {base : Nat} (hb : cx.base = base) {res : SV} {nb mb : List BK} {obs : List Ob}
    (h : retNOf T fn.results.toList base ms ks (adjO ads (run T f k s orc)) = some (res, nb, mb, obs)) (hob : Obs P obs) : Good P none n (bodyPost P fn (RR cx res nb mb)) cx [] k s := by
  subst hb
  unfold retNOf at h
  split at h
  · rename_i s' obs' hrun
    split at h
    · rename_i res' nb' mb' hf
      simp only [Option.some.injEq, Prod.mk.injEq] at h
      obtain ⟨rfl, rfl, rfl, rfl⟩ := h
      obtain ⟨o', hr, hg⟩ := adjO_ok (P := P) (r := none) (n := n) (Q := bodyPost P fn (RR cx res' nb' mb')) (cx := cx) (D := []) hrun
      exact run_ok hT hm f k s orc _ _ _ hr hob (hg (fun ρ a W hrep => fin_ok hT hf ρ a W hrep))
    · cases h
  · cases h
end Go.Aw

namespace Go.Proofs.YtnbpiejjeeomkaaGreat
open Go.Proofs Go.Aw Go.RowKit
set_option maxRecDepth 100000
set_option linter.unusedVariables false
set_option linter.unusedSimpArgs false

noncomputable def T0 := conv Tryz.prog
theorem hT : TOk Tryz.prog T0 := fun _ _ h => h
theorem hm : Tryz.prog.follows .mixedOrders = true := by kernel_rfl
def W (n : Int) : Int := IntKind.wrap .i64 n
theorem W_def (n : Int) : W n = if n % 18446744073709551616 ≥ 9223372036854775808 then n % 18446744073709551616 - 18446744073709551616 else n % 18446744073709551616 := by
  unfold W IntKind.wrap
  simp [IntKind.bits, IntKind.signed]
theorem W_eq {n : Int} (h1 : -9223372036854775808 ≤ n) (h2 : n < 9223372036854775808) : W n = n := by
  rw [W_def]; split <;> omega
theorem shr_eq (x : Int) (k : Nat) {m : Nat} (hm : (2 : Int) ^ (min (Int.toNat k) 64) = m) : Int.fdiv x (2 ^ (min (Int.toNat k) 64)) = x / m := by
  rw [hm]; exact Int.fdiv_eq_ediv_of_nonneg _ (by omega)
theorem mid1_eq {a b : Int} (h : 0 ≤ a ∧ a ≤ b ∧ b ≤ 2147483648) : W (Int.tdiv (W ((W (a + b)) + 1)) 2) = (a + b + 1) / 2 := by
  rw [W_eq (n := a + b) (by omega) (by omega), W_eq (n := a + b + 1) (by omega) (by omega), Int.tdiv_eq_ediv_of_nonneg (by omega), W_eq (by omega) (by omega)]
theorem mid0_eq {a b : Int} (h : 0 ≤ a ∧ a ≤ b ∧ b ≤ 2147483648) : W (Int.tdiv (W (a + b)) 2) = (a + b) / 2 := by
  rw [W_eq (n := a + b) (by omega) (by omega), Int.tdiv_eq_ediv_of_nonneg (by omega), W_eq (by omega) (by omega)]
theorem mid2_eq {a b : Int} (h : 0 ≤ a ∧ a ≤ b ∧ b ≤ 2147483648) : W ((W (Int.tdiv (W ((W (a + b)) + 1)) 2)) - 1) = (a + b + 1) / 2 - 1 := by
  rw [mid1_eq h, W_eq (by omega) (by omega)]
theorem mid3_eq {a b : Int} (h : 0 ≤ a ∧ a ≤ b ∧ b ≤ 2147483648) : W ((W (Int.tdiv (W (a + b)) 2)) + 1) = (a + b) / 2 + 1 := by
  rw [mid0_eq h, W_eq (by omega) (by omega)]
theorem u64_nn (n : Int) : 0 ≤ IntKind.wrap .u64 n := by
  simp only [IntKind.wrap, IntKind.bits, IntKind.signed]
  simp
  omega
def k9 (x : (Int × Int × Int) × (Int × Int × Int) × Int × Int × Int) : List SV := [(iv x.1.1), (iv x.1.2.1), (iv x.1.2.2), (iv x.2.1.1), (iv x.2.1.2.1), (iv x.2.1.2.2), (iv x.2.2.1), (iv x.2.2.2.1), (iv x.2.2.2.2)]
def k3 (x : Int × Int × Int) : List SV := [(iv x.1), (iv x.2.1), (iv x.2.2)]
def k2 (x : Int × Int) : List SV := [(iv x.1), (iv x.2)]
section
variable {cx : Cx} {k : List K} {s : LS} {base : Nat} {Q : Exit → Act → World → Prop}
theorem rt {fn : Func} (sts : List (St Tryz.prog)) (ads : List Adj) (ks : List Nat) (hb : cx.base = base) {res : SV} {nb : List BK}
    (h : retOf T0 fn.results.toList base [] ks (adjO ads (run T0 5000 k s (stO sts))) = some (res, nb, [], stB sts)) : Aw.Good Tryz.prog none 9 (bodyPost Tryz.prog fn (RR cx res nb [])) cx [] k s := ret_s hT hm sts ads ks hb h
theorem rtm {fn : Func} (sts : List (St Tryz.prog)) (ads : List Adj) (ms ks : List Nat) (hb : cx.base = base) {res : SV} {nb mb : List BK}
    (h : retOf T0 fn.results.toList base ms ks (adjO ads (run T0 5000 k s (stO sts))) = some (res, nb, mb, stB sts)) : Aw.Good Tryz.prog none 9 (bodyPost Tryz.prog fn (RR cx res nb mb)) cx [] k s := ret_of hT hm ads ms ks hb h (stOk sts)
theorem rtn {fn : Func} (sts : List (St Tryz.prog)) (ads : List Adj) (ms ks : List Nat) (hb : cx.base = base) {res : SV} {nb mb : List BK}
    (h : retNOf T0 fn.results.toList base ms ks (adjO ads (run T0 5000 k s (stO sts))) = some (res, nb, mb, stB sts)) : Aw.Good Tryz.prog none 9 (bodyPost Tryz.prog fn (RR cx res nb mb)) cx [] k s := retN_of hT hm ads ms ks hb h (stOk sts)
theorem en (sts : List (St Tryz.prog)) (ads : List Adj) (ts ks : List Nat) (hb : cx.base = base) (body : Code) (k' : List K) (s' : LS) (m : Nat)
    (h : enterOf base ts ks (adjO ads (run T0 5000 k s (stO sts))) = some (body, k', s', stB sts)) (hg : Aw.Good Tryz.prog none 9 Q cx [] (.l body m :: k') s') : Aw.Good Tryz.prog none 9 Q cx [] k s := enter_s hT hm sts ads ts ks hb body k' s' m h hg
theorem ba {m : Nat} (sts : List (St Tryz.prog)) (ads : List Adj) (ts ks : List Nat) (hb : cx.base = base) (body : Code) (k' : List K) (s' : LS)
    (h : backOf base ts ks (adjO ads (run T0 5000 k s (stO sts))) = some (body, m, k', s', stB sts)) (hg : Aw.Good Tryz.prog none 9 Q cx [] (.l body m :: k') s') : Aw.Good Tryz.prog none 9 Q cx [] k s := back_s hT hm sts ads ts ks hb body k' s' h hg
theorem ga (sts : List (St Tryz.prog)) (ads : List Adj) (ts ks : List Nat) (hb : cx.base = base) (x : Code) (k' : List K) (s' : LS)
    (h : atOf base ts ks (adjO ads (run T0 5000 k s (stO sts))) = some (x, k', s', stB sts)) (hg : Aw.Good Tryz.prog none 9 Q cx [] (.c x :: k') s') : Aw.Good Tryz.prog none 9 Q cx [] k s := at_s hT hm sts ads ts ks hb x k' s' h hg
end

def F85 (a0 : Int × Int × Int) (a1 : Int) : Int × Int × Int :=
  ((W (a1 * a0.1)), (W (a1 * a0.2.1)), (W (a1 * a0.2.2)))

theorem C85 (a0 : Int × Int × Int) (a1 : Int) : Con Tryz.prog 85 [(.a (k3 a0)), (iv a1)] [] (.a (k3 (F85 a0 a1))) [] := by
  refine con_s Tryz.func85 (by kernel_rfl) fun cx hcx => ?_
  have e := Eq.refl (F85 a0 a1); conv at e => rhs; simp only [F85]
  rw [e]
  exact rt [] [] [] hcx (by kernel_rfl)

def F195 (a0 : Int × Int × Int) (a1 : Int × Int × Int) : Int × Int × Int :=
  ((W (a0.1 + a1.1)), (W (a0.2.1 + a1.2.1)), (W (a0.2.2 + a1.2.2)))

theorem C195 (a0 : Int × Int × Int) (a1 : Int × Int × Int) : Con Tryz.prog 195 [(.a (k3 a0)), (.a (k3 a1))] [] (.a (k3 (F195 a0 a1))) [] := by
  refine con_s Tryz.func195 (by kernel_rfl) fun cx hcx => ?_
  have e := Eq.refl (F195 a0 a1); conv at e => rhs; simp only [F195]
  rw [e]
  exact rt [] [] [] hcx (by kernel_rfl)

def cP (x : (Int × Int × Int) × (Int × Int × Int) × Int × Int × Int) : List SV := [iv x.1.1, iv x.1.2.1, iv x.1.2.2, iv x.2.1.1, iv x.2.1.2.1, iv x.2.1.2.2, iv x.2.2.1, iv x.2.2.2.1, iv x.2.2.2.2]
def encP (x : (Int × Int × Int) × (Int × Int × Int) × Int × Int × Int) : Value := .agg #[.int .i64 x.1.1, .int .i64 x.1.2.1, .int .i64 x.1.2.2, .int .i64 x.2.1.1, .int .i64 x.2.1.2.1, .int .i64 x.2.1.2.2, .int .i64 x.2.2.1, .int .i64 x.2.2.2.1, .int .i64 x.2.2.2.2]
theorem encP_rel (ρ : Env) (x : (Int × Int × Int) × (Int × Int × Int) × Int × Int × Int) : Rel ρ (.a (cP x)) (encP x) := by
  simp only [Rel]; exact ⟨_, rfl, by simp [cP, Rels, Rel, iv]⟩
theorem cP_has (x : (Int × Int × Int) × (Int × Int × Int) × Int × Int × Int) (k : Nat) : ¬ (SV.a (cP x)).has k := by
  simp [cP, SV.has, SV.hasl, iv]
def yv (l : Nat) : Value := .func (.yield l) #[] #[]
def q1 (p : (Int × Int × Int) × (Int × Int × Int) × Int × Int × Int) : (Int × Int × Int) × (Int × Int × Int) × Int × Int × Int := (F85 p.1 2, F195 p.1 p.2.1, F195 p.2.2 p.1)
def q2 (p : (Int × Int × Int) × (Int × Int × Int) × Int × Int × Int) : (Int × Int × Int) × (Int × Int × Int) × Int × Int × Int := (F195 p.1 p.2.1, F85 p.2.1 2, F195 p.2.1 p.2.2)
def q3 (p : (Int × Int × Int) × (Int × Int × Int) × Int × Int × Int) : (Int × Int × Int) × (Int × Int × Int) × Int × Int × Int := (F195 p.2.2 p.1, F195 p.2.1 p.2.2, F85 p.2.2 2)
def q4 (p : (Int × Int × Int) × (Int × Int × Int) × Int × Int × Int) : (Int × Int × Int) × (Int × Int × Int) × Int × Int × Int := (F195 p.1 p.2.1, F195 p.2.1 p.2.2, F195 p.2.2 p.1)
def cutL : Nat → (Int × Int × Int) × (Int × Int × Int) × Int × Int × Int → List ((Int × Int × Int) × (Int × Int × Int) × Int × Int × Int)
  | 0, p => [p]
  | d + 1, p => cutL d (q1 p) ++ (cutL d (q2 p) ++ (cutL d (q3 p) ++ cutL d (q4 p)))
def VisitAt (l : Nat) (J : Nat → (Nat → Prop) → World → Prop) (Jx : (Nat → Prop) → World → Prop) (xs : List ((Int × Int × Int) × (Int × Int × Int) × Int × Int × Int)) (d : Nat) : Prop :=
  ∀ (p : (Int × Int × Int) × (Int × Int × Int) × Int × Int × Int) (i : Nat) (S : Nat → Prop) (W : World) (ρ : Env) (vs : List Value), Rels ρ [.a (cP p), iv d, .p 0 0, .p 1 0] vs →
    BRep ρ (fun b => W.heap.size ≤ b) W 0 (.live false false [.v (yv l)]) → BRep ρ (fun b => W.heap.size ≤ b) W 1 (.live false false [.f 194 [.p 0 0, .p 1 0]]) →
    (∀ k, k < 2 → ∀ b o n, ρ k = some (b, o, n) → ¬ S b) → J i S W → (∀ j x, (cutL d p)[j]? = some x → xs[i + j]? = some x) →
    Calls Tryz.prog 194 vs.toArray W (VR J Jx (i + (cutL d p).length) S W)

noncomputable def OY : Array Oper := match (codeAtD [1, 0, 1, 0, 0] [] (Tryz.f194.body.getD .skip)).1 with
  | .region _ ops _ => ops
  | _ => #[]
noncomputable def KY : List K := (codeAtD [1, 0, 1, 0, 0] [] (Tryz.f194.body.getD .skip)).2
noncomputable def OV : Array Oper := match (codeAtD [1, 1, 1, 1, 0, 1, 0, 0, 1, 1, 0, 0, 1, 0] [0] (Tryz.f194.body.getD .skip)).1 with
  | .region _ ops _ => ops
  | _ => #[]
noncomputable def KV (m : Nat) : List K := (codeAtD [1, 1, 1, 1, 0, 1, 0, 0, 1, 1, 0, 0, 1, 0] [m] (Tryz.f194.body.getD .skip)).2
noncomputable def oY : Oper := OY.toList.getD 2 default
noncomputable def oV : Oper := OV.toList.getD 4 default
noncomputable def callTs (o : Oper) : Array TypeId := match o.op with
  | .call c => c.argTypes
  | _ => #[]
theorem oY_op : oY.op = .call { callee := .value (.tmp 17), args := #[.tmp 18], argTypes := callTs oY } := by kernel_rfl
theorem oV_op : oV.op = .call { callee := .value (.tmp 66), args := #[.tmp 67, .tmp 69], argTypes := callTs oV } := by kernel_rfl
theorem oY_split : OY.toList = OY.toList.take 2 ++ oY :: OY.toList.drop 3 := by kernel_rfl
theorem oV_split : OV.toList = OV.toList.take 4 ++ oV :: OV.toList.drop 5 := by kernel_rfl
theorem ent194 : Enters Tryz.prog 194 := ent Tryz.func194 (by kernel_rfl) rfl
theorem ent193 : Enters Tryz.prog 193 := ent Tryz.func193 (by kernel_rfl) rfl

def zY (l : Nat) (p : (Int × Int × Int) × (Int × Int × Int) × Int × Int × Int) : LS := ⟨[.u, .u, .p 0 0, .u, .p 2 0, .u, .u, .u, .u, .u, .u, .u, .u, .u, .u, .u, .u, .u, .u, .u, .u, .u, .u, .u, .u, .u, .u, .u, .u, .u, .u, .u, .u, .u, .u, .u, .u, .u, .u, .u, .u, .u, .u, .u, .u, .u, .u, .u, .u, .u, .u, .u, .u, .u, .u, .u, .u, .u, .u, .u, .u, .u, .u, .u, .u, .u, .u, .u, .u, .u, .u, .u, .u], [.live false false [.v (yv l)], .live false false [.f 194 [.p 0 0, .p 1 0]], .live true false (cP p)]⟩
def zY1 (l : Nat) (p : (Int × Int × Int) × (Int × Int × Int) × Int × Int × Int) : LS := ⟨[.u, .u, .p 0 0, .u, .p 2 0, .u, .u, .u, .u, .u, .u, .u, .u, .u, .u, .u, .u, .v (yv l), .a (cP p), .u, .u, .u, .u, .u, .u, .u, .u, .u, .u, .u, .u, .u, .u, .u, .u, .u, .u, .u, .u, .u, .u, .u, .u, .u, .u, .u, .u, .u, .u, .u, .u, .u, .u, .u, .u, .u, .u, .u, .u, .u, .u, .u, .u, .u, .u, .u, .u, .u, .u, .u, .u, .u, .u], [.live false false [.v (yv l)], .live false false [.f 194 [.p 0 0, .p 1 0]], .live true false (cP p)]⟩
def zY3 (l : Nat) (p : (Int × Int × Int) × (Int × Int × Int) × Int × Int × Int) (b : Bool) : LS := ⟨[.u, .u, .p 0 0, .u, .p 2 0, .u, .v (.bool b), .u, .u, .u, .u, .u, .u, .u, .u, .u, .u, .v (yv l), .a (cP p), .v (.bool b), .u, .u, .u, .u, .u, .u, .u, .u, .u, .u, .u, .u, .u, .u, .u, .u, .u, .u, .u, .u, .u, .u, .u, .u, .u, .u, .u, .u, .u, .u, .u, .u, .u, .u, .u, .u, .u, .u, .u, .u, .u, .u, .u, .u, .u, .u, .u, .u, .u, .u, .u, .u, .u], [.live false false [.v (yv l)], .live false false [.f 194 [.p 0 0, .p 1 0]], .live false false (cP p)]⟩

def zV1 (l : Nat) (p : (Int × Int × Int) × (Int × Int × Int) × Int × Int × Int) (d : Int) : LS := ⟨[.u, iv d, .u, .p 1 0, .u, .u, .u, .u, .u, .u, .u, .u, .u, .u, .p 3 0, .u, .u, .u, .u, .u, .u, .u, .u, .u, .u, .u, .u, .u, .u, .u, .u, .u, .u, .u, .u, .u, .u, .u, .u, .u, .u, .u, .u, .u, .u, .u, .u, .u, .u, .u, .u, .u, .u, .u, .u, .u, .u, .u, .u, .u, .s 2 0 4 9, iv 4, iv 0, .u, .u, .u, .u, .u, .u, .u, .u, .u, .u], [.live false false [.v (yv l)], .live false false [.f 194 [.p 0 0, .p 1 0]], .live true false (cP (q1 p) ++ (cP (q2 p) ++ (cP (q3 p) ++ cP (q4 p)))), .live true false (cP (q1 p))]⟩
def zV11 (l : Nat) (p : (Int × Int × Int) × (Int × Int × Int) × Int × Int × Int) (d : Int) : LS := ⟨[.u, iv d, .u, .p 1 0, .u, .u, .u, .u, .u, .u, .u, .u, .u, .u, .p 3 0, .u, .u, .u, .u, .u, .u, .u, .u, .u, .u, .u, .u, .u, .u, .u, .u, .u, .u, .u, .u, .u, .u, .u, .u, .u, .u, .u, .u, .u, .u, .u, .u, .u, .u, .u, .u, .u, .u, .u, .u, .u, .u, .u, .u, .u, .s 2 0 4 9, iv 4, iv 0, .u, .u, .u, .f 194 [.p 0 0, .p 1 0], .a (cP (q1 p)), iv d, iv (W (d - 1)), .u, .u, .u], [.live false false [.v (yv l)], .live false false [.f 194 [.p 0 0, .p 1 0]], .live true false (cP (q1 p) ++ (cP (q2 p) ++ (cP (q3 p) ++ cP (q4 p)))), .live true false (cP (q1 p))]⟩
def zV13 (l : Nat) (p : (Int × Int × Int) × (Int × Int × Int) × Int × Int × Int) (d : Int) (b : Bool) : LS := ⟨[.u, iv d, .u, .p 1 0, .u, .u, .u, .u, .u, .u, .u, .u, .u, .u, .p 3 0, .u, .u, .u, .u, .u, .u, .u, .u, .u, .u, .u, .u, .u, .u, .u, .u, .u, .u, .u, .u, .u, .u, .u, .u, .u, .u, .u, .u, .u, .u, .u, .u, .u, .u, .u, .u, .u, .u, .u, .u, .u, .u, .u, .u, .u, .s 2 0 4 9, iv 4, iv 0, .u, .u, .u, .f 194 [.p 0 0, .p 1 0], .a (cP (q1 p)), iv d, iv (W (d - 1)), .v (.bool b), .v (.bool (!b)), .u], [.live false false [.v (yv l)], .live false false [.f 194 [.p 0 0, .p 1 0]], .live false false (cP (q1 p) ++ (cP (q2 p) ++ (cP (q3 p) ++ cP (q4 p)))), .live false false (cP (q1 p))]⟩

def zV2 (l : Nat) (p : (Int × Int × Int) × (Int × Int × Int) × Int × Int × Int) (d : Int) : LS := ⟨[.u, iv d, .u, .p 1 0, .u, .u, .u, .u, .u, .u, .u, .u, .u, .u, .p 4 0, .u, .u, .u, .u, .u, .u, .u, .u, .u, .u, .u, .u, .u, .u, .u, .u, .u, .u, .u, .u, .u, .u, .u, .u, .u, .u, .u, .u, .u, .u, .u, .u, .u, .u, .u, .u, .u, .u, .u, .u, .u, .u, .u, .u, .u, .s 2 0 4 9, iv 4, iv 1, .u, .u, .u, .u, .u, .u, .u, .u, .u, .u], [.live false false [.v (yv l)], .live false false [.f 194 [.p 0 0, .p 1 0]], .live false false (cP (q1 p) ++ (cP (q2 p) ++ (cP (q3 p) ++ cP (q4 p)))), .live false false (cP (q1 p)), .live true false (cP (q2 p))]⟩
def zV21 (l : Nat) (p : (Int × Int × Int) × (Int × Int × Int) × Int × Int × Int) (d : Int) : LS := ⟨[.u, iv d, .u, .p 1 0, .u, .u, .u, .u, .u, .u, .u, .u, .u, .u, .p 4 0, .u, .u, .u, .u, .u, .u, .u, .u, .u, .u, .u, .u, .u, .u, .u, .u, .u, .u, .u, .u, .u, .u, .u, .u, .u, .u, .u, .u, .u, .u, .u, .u, .u, .u, .u, .u, .u, .u, .u, .u, .u, .u, .u, .u, .u, .s 2 0 4 9, iv 4, iv 1, .u, .u, .u, .f 194 [.p 0 0, .p 1 0], .a (cP (q2 p)), iv d, iv (W (d - 1)), .u, .u, .u], [.live false false [.v (yv l)], .live false false [.f 194 [.p 0 0, .p 1 0]], .live false false (cP (q1 p) ++ (cP (q2 p) ++ (cP (q3 p) ++ cP (q4 p)))), .live false false (cP (q1 p)), .live true false (cP (q2 p))]⟩
def zV23 (l : Nat) (p : (Int × Int × Int) × (Int × Int × Int) × Int × Int × Int) (d : Int) (b : Bool) : LS := ⟨[.u, iv d, .u, .p 1 0, .u, .u, .u, .u, .u, .u, .u, .u, .u, .u, .p 4 0, .u, .u, .u, .u, .u, .u, .u, .u, .u, .u, .u, .u, .u, .u, .u, .u, .u, .u, .u, .u, .u, .u, .u, .u, .u, .u, .u, .u, .u, .u, .u, .u, .u, .u, .u, .u, .u, .u, .u, .u, .u, .u, .u, .u, .u, .s 2 0 4 9, iv 4, iv 1, .u, .u, .u, .f 194 [.p 0 0, .p 1 0], .a (cP (q2 p)), iv d, iv (W (d - 1)), .v (.bool b), .v (.bool (!b)), .u], [.live false false [.v (yv l)], .live false false [.f 194 [.p 0 0, .p 1 0]], .live false false (cP (q1 p) ++ (cP (q2 p) ++ (cP (q3 p) ++ cP (q4 p)))), .live false false (cP (q1 p)), .live false false (cP (q2 p))]⟩

def zV3 (l : Nat) (p : (Int × Int × Int) × (Int × Int × Int) × Int × Int × Int) (d : Int) : LS := ⟨[.u, iv d, .u, .p 1 0, .u, .u, .u, .u, .u, .u, .u, .u, .u, .u, .p 5 0, .u, .u, .u, .u, .u, .u, .u, .u, .u, .u, .u, .u, .u, .u, .u, .u, .u, .u, .u, .u, .u, .u, .u, .u, .u, .u, .u, .u, .u, .u, .u, .u, .u, .u, .u, .u, .u, .u, .u, .u, .u, .u, .u, .u, .u, .s 2 0 4 9, iv 4, iv 2, .u, .u, .u, .u, .u, .u, .u, .u, .u, .u], [.live false false [.v (yv l)], .live false false [.f 194 [.p 0 0, .p 1 0]], .live false false (cP (q1 p) ++ (cP (q2 p) ++ (cP (q3 p) ++ cP (q4 p)))), .live false false (cP (q1 p)), .live false false (cP (q2 p)), .live true false (cP (q3 p))]⟩
def zV31 (l : Nat) (p : (Int × Int × Int) × (Int × Int × Int) × Int × Int × Int) (d : Int) : LS := ⟨[.u, iv d, .u, .p 1 0, .u, .u, .u, .u, .u, .u, .u, .u, .u, .u, .p 5 0, .u, .u, .u, .u, .u, .u, .u, .u, .u, .u, .u, .u, .u, .u, .u, .u, .u, .u, .u, .u, .u, .u, .u, .u, .u, .u, .u, .u, .u, .u, .u, .u, .u, .u, .u, .u, .u, .u, .u, .u, .u, .u, .u, .u, .u, .s 2 0 4 9, iv 4, iv 2, .u, .u, .u, .f 194 [.p 0 0, .p 1 0], .a (cP (q3 p)), iv d, iv (W (d - 1)), .u, .u, .u], [.live false false [.v (yv l)], .live false false [.f 194 [.p 0 0, .p 1 0]], .live false false (cP (q1 p) ++ (cP (q2 p) ++ (cP (q3 p) ++ cP (q4 p)))), .live false false (cP (q1 p)), .live false false (cP (q2 p)), .live true false (cP (q3 p))]⟩
def zV33 (l : Nat) (p : (Int × Int × Int) × (Int × Int × Int) × Int × Int × Int) (d : Int) (b : Bool) : LS := ⟨[.u, iv d, .u, .p 1 0, .u, .u, .u, .u, .u, .u, .u, .u, .u, .u, .p 5 0, .u, .u, .u, .u, .u, .u, .u, .u, .u, .u, .u, .u, .u, .u, .u, .u, .u, .u, .u, .u, .u, .u, .u, .u, .u, .u, .u, .u, .u, .u, .u, .u, .u, .u, .u, .u, .u, .u, .u, .u, .u, .u, .u, .u, .u, .s 2 0 4 9, iv 4, iv 2, .u, .u, .u, .f 194 [.p 0 0, .p 1 0], .a (cP (q3 p)), iv d, iv (W (d - 1)), .v (.bool b), .v (.bool (!b)), .u], [.live false false [.v (yv l)], .live false false [.f 194 [.p 0 0, .p 1 0]], .live false false (cP (q1 p) ++ (cP (q2 p) ++ (cP (q3 p) ++ cP (q4 p)))), .live false false (cP (q1 p)), .live false false (cP (q2 p)), .live false false (cP (q3 p))]⟩

def zV4 (l : Nat) (p : (Int × Int × Int) × (Int × Int × Int) × Int × Int × Int) (d : Int) : LS := ⟨[.u, iv d, .u, .p 1 0, .u, .u, .u, .u, .u, .u, .u, .u, .u, .u, .p 6 0, .u, .u, .u, .u, .u, .u, .u, .u, .u, .u, .u, .u, .u, .u, .u, .u, .u, .u, .u, .u, .u, .u, .u, .u, .u, .u, .u, .u, .u, .u, .u, .u, .u, .u, .u, .u, .u, .u, .u, .u, .u, .u, .u, .u, .u, .s 2 0 4 9, iv 4, iv 3, .u, .u, .u, .u, .u, .u, .u, .u, .u, .u], [.live false false [.v (yv l)], .live false false [.f 194 [.p 0 0, .p 1 0]], .live false false (cP (q1 p) ++ (cP (q2 p) ++ (cP (q3 p) ++ cP (q4 p)))), .live false false (cP (q1 p)), .live false false (cP (q2 p)), .live false false (cP (q3 p)), .live true false (cP (q4 p))]⟩
def zV41 (l : Nat) (p : (Int × Int × Int) × (Int × Int × Int) × Int × Int × Int) (d : Int) : LS := ⟨[.u, iv d, .u, .p 1 0, .u, .u, .u, .u, .u, .u, .u, .u, .u, .u, .p 6 0, .u, .u, .u, .u, .u, .u, .u, .u, .u, .u, .u, .u, .u, .u, .u, .u, .u, .u, .u, .u, .u, .u, .u, .u, .u, .u, .u, .u, .u, .u, .u, .u, .u, .u, .u, .u, .u, .u, .u, .u, .u, .u, .u, .u, .u, .s 2 0 4 9, iv 4, iv 3, .u, .u, .u, .f 194 [.p 0 0, .p 1 0], .a (cP (q4 p)), iv d, iv (W (d - 1)), .u, .u, .u], [.live false false [.v (yv l)], .live false false [.f 194 [.p 0 0, .p 1 0]], .live false false (cP (q1 p) ++ (cP (q2 p) ++ (cP (q3 p) ++ cP (q4 p)))), .live false false (cP (q1 p)), .live false false (cP (q2 p)), .live false false (cP (q3 p)), .live true false (cP (q4 p))]⟩
def zV43 (l : Nat) (p : (Int × Int × Int) × (Int × Int × Int) × Int × Int × Int) (d : Int) (b : Bool) : LS := ⟨[.u, iv d, .u, .p 1 0, .u, .u, .u, .u, .u, .u, .u, .u, .u, .u, .p 6 0, .u, .u, .u, .u, .u, .u, .u, .u, .u, .u, .u, .u, .u, .u, .u, .u, .u, .u, .u, .u, .u, .u, .u, .u, .u, .u, .u, .u, .u, .u, .u, .u, .u, .u, .u, .u, .u, .u, .u, .u, .u, .u, .u, .u, .u, .s 2 0 4 9, iv 4, iv 3, .u, .u, .u, .f 194 [.p 0 0, .p 1 0], .a (cP (q4 p)), iv d, iv (W (d - 1)), .v (.bool b), .v (.bool (!b)), .u], [.live false false [.v (yv l)], .live false false [.f 194 [.p 0 0, .p 1 0]], .live false false (cP (q1 p) ++ (cP (q2 p) ++ (cP (q3 p) ++ cP (q4 p)))), .live false false (cP (q1 p)), .live false false (cP (q2 p)), .live false false (cP (q3 p)), .live false false (cP (q4 p))]⟩

def vb : SV → Bool
  | .v _ | .b _ => true
  | _ => false
theorem rels_plain {ρ ρ' : Env} : ∀ {l : List SV} {vs us : List Value}, l.all vb = true → Rels ρ l vs → Rels ρ' l us → vs = us
  | [], [], [], _, _, _ => rfl
  | [], _ :: _, _, _, h, _ => by simp [Rels] at h
  | [], [], _ :: _, _, _, h => by simp [Rels] at h
  | _ :: _, [], _, _, h, _ => by simp [Rels] at h
  | _ :: _, _ :: _, [], _, _, h => by simp [Rels] at h
  | x :: l, y :: vs, z :: us, hp, h1, h2 => by
    simp only [List.all_cons, Bool.and_eq_true] at hp
    simp only [Rels] at h1 h2
    rw [rels_plain hp.2 h1.2 h2.2]
    have : y = z := by
      cases x <;> simp only [vb, Bool.false_eq_true, false_and] at hp
      · have a1 := h1.1; have a2 := h2.1; simp only [Rel] at a1 a2; rw [a1, a2]
      · have a1 := h1.1; have a2 := h2.1; simp only [Rel] at a1 a2; rw [a1, a2]
    rw [this]
theorem rels_cons {ρ : Env} {x : SV} {l : List SV} {y : Value} {m : List Value} (h : Rel ρ x y) (h' : Rels ρ l m) : Rels ρ (x :: l) (y :: m) := by simp only [Rels]; exact ⟨h, h'⟩
theorem sub_app {α : Type} {xs A B : List α} {i : Nat} (h : ∀ j x, (A ++ B)[j]? = some x → xs[i + j]? = some x) : (∀ j x, A[j]? = some x → xs[i + j]? = some x) ∧ (∀ j x, B[j]? = some x → xs[i + A.length + j]? = some x) :=
  ⟨fun j x hj => h j x (by rw [List.getElem?_append_left (List.getElem?_eq_some_iff.1 hj).1]; exact hj), fun j x hj => by
    have := h (A.length + j) x (by rw [List.getElem?_append_right (by omega), Nat.add_sub_cancel_left]; exact hj)
    rwa [← Nat.add_assoc] at this⟩

section
variable {l : Nat} {J : Nat → (Nat → Prop) → World → Prop} {Jx : (Nat → Prop) → World → Prop} {xs : List ((Int × Int × Int) × (Int × Int × Int) × Int × Int × Int)}

theorem visit_end (hJ : GrowsJ J) (hX : GrowsX Jx) {m m' : Nat} {W0 : World} {S : Nat → Prop} {cx : Cx} {b : Bool} (h1 : b = true → ∃ Sc, Seg J W0 S m' cx Sc) (h2 : b = false → SegX Jx W0 S cx) (hm : m' = m) (Wd : World) (hb : Below cx.w.heap.size cx.w Wd) (hd : cx.w.drawn ≤ Wd.drawn) :
    VR J Jx m S W0 (.returned (.bool b)) Wd := by
  subst hm
  cases b with
  | true =>
    obtain ⟨Sc, h⟩ := h1 rfl
    exact .inl ⟨rfl, Sc, hJ _ _ _ _ h.j hb hd, h.kept.grow hb hd, h.sub⟩
  | false =>
    have h := h2 rfl
    obtain ⟨Sc, hj⟩ := h.j
    exact .inr ⟨rfl, Sc, hX _ _ _ hj hb hd, h.kept.grow hb hd⟩

theorem visit0 (hJ : GrowsJ J) (hX : GrowsX Jx) (hB : BoundJ J) (hY : ∀ i x S W1, xs[i]? = some x → J i S W1 → YieldAt (Fw none) 9 Tryz.prog l #[encP x] W1 (YR J Jx i S W1)) : VisitAt l J Jx xs 0 := by
  intro p i S Wd ρ vs hargs hb0 hb1 hS hj hxs
  have hx : xs[i]? = some p := by have := hxs 0 p rfl; simpa using this
  refine calls_of_good (n := 9) (bs := [.live false false [.v (yv l)], .live false false [.f 194 [.p 0 0, .p 1 0]]]) Tryz.func194 rfl (by show 4 ≤ Tryz.f194.ntmps; decide) (by kernel_rfl) ⟨rfl, rfl, trivial⟩ (by kernel_rfl) (fun i => by rcases i with _ | _ | i <;> simp [BK.own]) (by kernel_rfl) hargs (fun i => by rcases i with _ | _ | i <;> first | exact hb0 | exact hb1 | simp [BRep]) (fun i => by rcases i with _ | _ | i <;> simp [BK.pl]) (fun cx hbase hw hρ hfz hown => ?_)
  subst hw
  have hd : ((((0 : Nat) : Int) : Int) == 0) = true := rfl
  refine at_of (T := T0) hT hm (f := 5000) (orc := [.d true, .stop 2]) [] [2, 4] [2] hbase (x := .region 2 OY false) (k' := KY) (s' := zY l p)
    (obs := [.eq ((((0 : Nat) : Int) : Int) == 0) true]) (by kernel_rfl) ⟨hd, trivial⟩ ?_
  have hseg : Seg J cx.w S i cx S := ⟨hj, Kept.refl _ _, fun b h => .inl h, fun k b o n hk h => hS k (by rw [hbase] at hk; exact hk) b o n ((hρ k).symm.trans h), hown, fun b o ho => by rw [hfz b] at ho; cases ho⟩
  refine visit_of (Jx := Jx) hT hJ hB (m := i + 1) hseg (OY.toList.take 2) oY (OY.toList.drop 3) oY_split (s1 := zY1 l p) (by kernel_rfl) (by kernel_rfl) 19 (by kernel_rfl) (of_decide_eq_true (by kernel_rfl)) 2 hbase (by kernel_rfl) (by kernel_rfl)
    (fun ρ a W2 hrep hsafe hj2 K Q' hK => ?_) (zY3 l p) (fun b => by kernel_rfl) (fun b cx' hb' h1 h2 => ?_)
  · have e1 := hrep.sl 17
    have e2 := hrep.sl 18
    refine op_yield oY_op (l := l) (vs := #[encP p]) ?_ ?_ (hY i p S W2 hx hj2) hK
    · exact e1
    · have : a.eval (.tmp 18) = encP p := by
        have e3 : Rel ρ (.a (cP p)) (a.tmps.getD 18 undef) := e2
        simp only [Rel] at e3
        obtain ⟨vs, hv, hr⟩ := e3
        have h' := encP_rel ρ p
        simp only [Rel] at h'
        obtain ⟨us, hu, hr'⟩ := h'
        show a.tmps.getD 18 undef = encP p
        rw [hv, hu]
        have : vs = us := rels_plain (by simp [cP, vb, iv]) hr hr'
        rw [this]
      simp [this]
  · have hown' : ∀ c, ¬ cx'.own c := by
      cases b with
      | true => obtain ⟨Sc, h⟩ := h1 rfl; exact h.own
      | false => exact (h2 rfl).own
    exact retB_of (T := T0) hT hm (f := 5000) (orc := []) (b := b) (obs := []) (by cases b <;> kernel_rfl) trivial hown' (fun Wd hW hWd => visit_end hJ hX h1 h2 rfl Wd hW hWd)

theorem vcall {d : Nat} (ih : VisitAt l J Jx xs d) {cx : Cx} {N : Nat} {D : List Deferred} {ρ : Env} {s : FS} {a : Act} {Wd : World} (hrep : Rep cx N D ρ s a Wd) {p : (Int × Int × Int) × (Int × Int × Int) × Int × Int × Int} {i : Nat} {S : Nat → Prop}
    (hdl : d < 1000) (e1 : s.sl 66 = .f 194 [.p 0 0, .p 1 0]) (e2 : s.sl 67 = .a (cP p)) (e3 : s.sl 69 = iv (W (((d + 1 : Nat) : Int) - 1))) (e4 : s.bk 0 = .live false false [.v (yv l)]) (e5 : s.bk 1 = .live false false [.f 194 [.p 0 0, .p 1 0]])
    (hS : ∀ k, k < 2 → ∀ b o n, ρ k = some (b, o, n) → ¬ S b) (hj : J i S Wd) (hxs : ∀ j x, (cutL d p)[j]? = some x → xs[i + j]? = some x)
    (K : Act → World → Prop) (Q : Exit → Act → World → Prop) (hK : ∀ e Wd', VR J Jx (i + (cutL d p).length) S Wd e Wd' → ∃ v, e = .returned v ∧ K (a.put oV.dst v) Wd') : oV.wpIn (Fw none) 9 Tryz.prog a Wd K Q := by
  have r1 := hrep.sl 66
  have r2 := hrep.sl 67
  have r3 := hrep.sl 69
  rw [e1] at r1; rw [e2] at r2; rw [e3] at r3
  have hw : W (((d + 1 : Nat) : Int) - 1) = (d : Int) := by rw [W_eq] <;> omega
  rw [hw] at r3
  simp only [Rel] at r1
  obtain ⟨vs, hv, hc⟩ := r1
  have b0 := hrep.bk 0
  have b1 := hrep.bk 1
  rw [e4] at b0; rw [e5] at b1
  refine op_call oV_op (g := 194) (caps := vs) hv ent194 (ih p i S Wd ρ _ ?_ b0.ro b1.ro hS hj hxs) hK
  exact rels_cons r2 (rels_cons r3 hc)

theorem visitS (hJ : GrowsJ J) (hX : GrowsX Jx) (hB : BoundJ J) {d : Nat} (hdl : d < 1000) (ih : VisitAt l J Jx xs d) : VisitAt l J Jx xs (d + 1) := by
  intro p i S Wd ρ vs hargs hb0 hb1 hS hj hxs
  obtain ⟨hx1, hr1⟩ := sub_app hxs
  obtain ⟨hx2, hr2⟩ := sub_app hr1
  obtain ⟨hx3, hx4⟩ := sub_app hr2
  refine calls_of_good (n := 9) (bs := [.live false false [.v (yv l)], .live false false [.f 194 [.p 0 0, .p 1 0]]]) Tryz.func194 rfl (by show 4 ≤ Tryz.f194.ntmps; decide) (by kernel_rfl) ⟨rfl, rfl, trivial⟩ (by kernel_rfl) (fun i => by rcases i with _ | _ | i <;> simp [BK.own]) (by kernel_rfl) hargs (fun i => by rcases i with _ | _ | i <;> first | exact hb0 | exact hb1 | simp [BRep]) (fun i => by rcases i with _ | _ | i <;> simp [BK.pl]) (fun cx hbase hw hρ hfz hown => ?_)
  subst hw
  have hd : ((((d + 1 : Nat) : Int) : Int) == 0) = false := by rw [beq_eq_false_iff_ne]; omega
  have hseg : Seg J cx.w S i cx S := ⟨hj, Kept.refl _ _, fun b h => .inl h, fun k b o n hk h => hS k (by rw [hbase] at hk; exact hk) b o n ((hρ k).symm.trans h), hown, fun b o ho => by rw [hfz b] at ho; cases ho⟩
  refine at_of (T := T0) hT hm (f := 5000) (orc := [.d false, .call [] (.a [(iv (F85 p.1 2).1), (iv (F85 p.1 2).2.1), (iv (F85 p.1 2).2.2)]) [], .call [] (.a [(iv (F85 p.2.1 2).1), (iv (F85 p.2.1 2).2.1), (iv (F85 p.2.1 2).2.2)]) [], .call [] (.a [(iv (F85 p.2.2 2).1), (iv (F85 p.2.2 2).2.1), (iv (F85 p.2.2 2).2.2)]) [], .call [] (.a [(iv (F195 p.1 p.2.1).1), (iv (F195 p.1 p.2.1).2.1), (iv (F195 p.1 p.2.1).2.2)]) [], .call [] (.a [(iv (F195 p.2.1 p.2.2).1), (iv (F195 p.2.1 p.2.2).2.1), (iv (F195 p.2.1 p.2.2).2.2)]) [], .call [] (.a [(iv (F195 p.2.2 p.1).1), (iv (F195 p.2.2 p.1).2.1), (iv (F195 p.2.2 p.1).2.2)]) [], .un 4, .d true, .stop 8]) [] [1, 3, 14, 60, 61, 62] [9, 10] hbase (x := .region 8 OV false) (k' := KV 4) (s' := zV1 l p (d + 1 : Nat))
    (obs := [.eq ((((d + 1 : Nat) : Int) : Int) == 0) false, .call 85 [(.a [(iv p.1.1), (iv p.1.2.1), (iv p.1.2.2)]), (iv 2)] [] (.a [(iv (F85 p.1 2).1), (iv (F85 p.1 2).2.1), (iv (F85 p.1 2).2.2)]) [], .call 85 [(.a [(iv p.2.1.1), (iv p.2.1.2.1), (iv p.2.1.2.2)]), (iv 2)] [] (.a [(iv (F85 p.2.1 2).1), (iv (F85 p.2.1 2).2.1), (iv (F85 p.2.1 2).2.2)]) [], .call 85 [(.a [(iv p.2.2.1), (iv p.2.2.2.1), (iv p.2.2.2.2)]), (iv 2)] [] (.a [(iv (F85 p.2.2 2).1), (iv (F85 p.2.2 2).2.1), (iv (F85 p.2.2 2).2.2)]) [], .call 195 [(.a [(iv p.1.1), (iv p.1.2.1), (iv p.1.2.2)]), (.a [(iv p.2.1.1), (iv p.2.1.2.1), (iv p.2.1.2.2)])] [] (.a [(iv (F195 p.1 p.2.1).1), (iv (F195 p.1 p.2.1).2.1), (iv (F195 p.1 p.2.1).2.2)]) [], .call 195 [(.a [(iv p.2.1.1), (iv p.2.1.2.1), (iv p.2.1.2.2)]), (.a [(iv p.2.2.1), (iv p.2.2.2.1), (iv p.2.2.2.2)])] [] (.a [(iv (F195 p.2.1 p.2.2).1), (iv (F195 p.2.1 p.2.2).2.1), (iv (F195 p.2.1 p.2.2).2.2)]) [], .call 195 [(.a [(iv p.2.2.1), (iv p.2.2.2.1), (iv p.2.2.2.2)]), (.a [(iv p.1.1), (iv p.1.2.1), (iv p.1.2.2)])] [] (.a [(iv (F195 p.2.2 p.1).1), (iv (F195 p.2.2 p.1).2.1), (iv (F195 p.2.2 p.1).2.2)]) [], .eq true true, .pr (0 ≤ (0 : Int) ∧ (0 : Int) < ((4 : Nat) : Int))]) (by kernel_rfl) ⟨hd, (C85 p.1 2), (C85 p.2.1 2), (C85 p.2.2 2), (C195 p.1 p.2.1), (C195 p.2.1 p.2.2), (C195 p.2.2 p.1), rfl, (show 0 ≤ (0 : Int) ∧ (0 : Int) < ((4 : Nat) : Int) from by decide), trivial⟩ ?_
  refine visit_of (Jx := Jx) hT hJ hB (m := i + (cutL d (q1 p)).length) hseg (OV.toList.take 4) oV (OV.toList.drop 5) oV_split (s1 := zV11 l p (d + 1 : Nat)) (by kernel_rfl) (by kernel_rfl) 70 (by kernel_rfl) (of_decide_eq_true (by kernel_rfl)) 2 hbase (by kernel_rfl) (by kernel_rfl)
    (fun ρ a W2 hrep hsafe hj2 K Q' hK => vcall ih hrep hdl rfl rfl rfl rfl rfl (fun k hk b o n h => (match k, hk, h with | 0, _, h => hsafe 0 _ _ _ rfl b o n h | 1, _, h => hsafe 1 _ _ _ rfl b o n h)) hj2 (fun j x hj => hx1 j x hj) K Q' hK) (zV13 l p (d + 1 : Nat)) (fun b => by kernel_rfl) (fun b cx hbase h1 h2 => ?_)
  cases b with
  | false =>
    exact retB_of (T := T0) hT hm (f := 5000) (orc := [.d true]) (b := false) (obs := [.eq (!false) true]) (by kernel_rfl) ⟨rfl, trivial⟩ (h2 rfl).own (fun W hW hWd => visit_end (m' := i + (cutL (d + 1) p).length) hJ hX (fun h => by cases h) h2 rfl W hW hWd)
  | true =>
    obtain ⟨Sc, hseg⟩ := h1 rfl
    refine at_of (T := T0) hT hm (f := 5000) (orc := [.d false, .un 0, .d true, .stop 8]) [] [1, 3, 14, 60, 61, 62] [4] hbase (x := .region 8 OV false) (k' := KV 3) (s' := zV2 l p (d + 1 : Nat))
      (obs := [.eq (!true) false, .eq (decide ((1 : Int) < 4)) true, .pr (0 ≤ (1 : Int) ∧ (1 : Int) < ((4 : Nat) : Int))]) (by kernel_rfl) ⟨rfl, rfl, (show 0 ≤ (1 : Int) ∧ (1 : Int) < ((4 : Nat) : Int) from by decide), trivial⟩ ?_
    refine visit_of (Jx := Jx) hT hJ hB (m := i + (cutL d (q1 p)).length + (cutL d (q2 p)).length) hseg (OV.toList.take 4) oV (OV.toList.drop 5) oV_split (s1 := zV21 l p (d + 1 : Nat)) (by kernel_rfl) (by kernel_rfl) 70 (by kernel_rfl) (of_decide_eq_true (by kernel_rfl)) 4 hbase (by kernel_rfl) (by kernel_rfl)
      (fun ρ a W2 hrep hsafe hj2 K Q' hK => vcall ih hrep hdl rfl rfl rfl rfl rfl (fun k hk b o n h => (match k, hk, h with | 0, _, h => hsafe 0 _ _ _ rfl b o n h | 1, _, h => hsafe 1 _ _ _ rfl b o n h)) hj2 (fun j x hj => hx2 j x hj) K Q' hK) (zV23 l p (d + 1 : Nat)) (fun b => by kernel_rfl) (fun b cx hbase h1 h2 => ?_)
    cases b with
    | false =>
      exact retB_of (T := T0) hT hm (f := 5000) (orc := [.d true]) (b := false) (obs := [.eq (!false) true]) (by kernel_rfl) ⟨rfl, trivial⟩ (h2 rfl).own (fun W hW hWd => visit_end (m' := i + (cutL (d + 1) p).length) hJ hX (fun h => by cases h) h2 rfl W hW hWd)
    | true =>
      obtain ⟨Sc, hseg⟩ := h1 rfl
      refine at_of (T := T0) hT hm (f := 5000) (orc := [.d false, .un 0, .d true, .stop 8]) [] [1, 3, 14, 60, 61, 62] [5] hbase (x := .region 8 OV false) (k' := KV 2) (s' := zV3 l p (d + 1 : Nat))
        (obs := [.eq (!true) false, .eq (decide ((2 : Int) < 4)) true, .pr (0 ≤ (2 : Int) ∧ (2 : Int) < ((4 : Nat) : Int))]) (by kernel_rfl) ⟨rfl, rfl, (show 0 ≤ (2 : Int) ∧ (2 : Int) < ((4 : Nat) : Int) from by decide), trivial⟩ ?_
      refine visit_of (Jx := Jx) hT hJ hB (m := i + (cutL d (q1 p)).length + (cutL d (q2 p)).length + (cutL d (q3 p)).length) hseg (OV.toList.take 4) oV (OV.toList.drop 5) oV_split (s1 := zV31 l p (d + 1 : Nat)) (by kernel_rfl) (by kernel_rfl) 70 (by kernel_rfl) (of_decide_eq_true (by kernel_rfl)) 5 hbase (by kernel_rfl) (by kernel_rfl)
        (fun ρ a W2 hrep hsafe hj2 K Q' hK => vcall ih hrep hdl rfl rfl rfl rfl rfl (fun k hk b o n h => (match k, hk, h with | 0, _, h => hsafe 0 _ _ _ rfl b o n h | 1, _, h => hsafe 1 _ _ _ rfl b o n h)) hj2 (fun j x hj => hx3 j x hj) K Q' hK) (zV33 l p (d + 1 : Nat)) (fun b => by kernel_rfl) (fun b cx hbase h1 h2 => ?_)
      cases b with
      | false =>
        exact retB_of (T := T0) hT hm (f := 5000) (orc := [.d true]) (b := false) (obs := [.eq (!false) true]) (by kernel_rfl) ⟨rfl, trivial⟩ (h2 rfl).own (fun W hW hWd => visit_end (m' := i + (cutL (d + 1) p).length) hJ hX (fun h => by cases h) h2 rfl W hW hWd)
      | true =>
        obtain ⟨Sc, hseg⟩ := h1 rfl
        refine at_of (T := T0) hT hm (f := 5000) (orc := [.d false, .un 0, .d true, .stop 8]) [] [1, 3, 14, 60, 61, 62] [6] hbase (x := .region 8 OV false) (k' := KV 1) (s' := zV4 l p (d + 1 : Nat))
          (obs := [.eq (!true) false, .eq (decide ((3 : Int) < 4)) true, .pr (0 ≤ (3 : Int) ∧ (3 : Int) < ((4 : Nat) : Int))]) (by kernel_rfl) ⟨rfl, rfl, (show 0 ≤ (3 : Int) ∧ (3 : Int) < ((4 : Nat) : Int) from by decide), trivial⟩ ?_
        refine visit_of (Jx := Jx) hT hJ hB (m := i + (cutL d (q1 p)).length + (cutL d (q2 p)).length + (cutL d (q3 p)).length + (cutL d (q4 p)).length) hseg (OV.toList.take 4) oV (OV.toList.drop 5) oV_split (s1 := zV41 l p (d + 1 : Nat)) (by kernel_rfl) (by kernel_rfl) 70 (by kernel_rfl) (of_decide_eq_true (by kernel_rfl)) 6 hbase (by kernel_rfl) (by kernel_rfl)
          (fun ρ a W2 hrep hsafe hj2 K Q' hK => vcall ih hrep hdl rfl rfl rfl rfl rfl (fun k hk b o n h => (match k, hk, h with | 0, _, h => hsafe 0 _ _ _ rfl b o n h | 1, _, h => hsafe 1 _ _ _ rfl b o n h)) hj2 (fun j x hj => hx4 j x hj) K Q' hK) (zV43 l p (d + 1 : Nat)) (fun b => by kernel_rfl) (fun b cx hbase h1 h2 => ?_)
        cases b with
        | false =>
          exact retB_of (T := T0) hT hm (f := 5000) (orc := [.d true]) (b := false) (obs := [.eq (!false) true]) (by kernel_rfl) ⟨rfl, trivial⟩ (h2 rfl).own (fun W hW hWd => visit_end (m' := i + (cutL (d + 1) p).length) hJ hX (fun h => by cases h) h2 rfl W hW hWd)
        | true =>
          exact retB_of (T := T0) hT hm (f := 5000) (orc := [.d false, .un 0, .d false]) (b := true) (obs := [.eq (!true) false, .eq (decide ((4 : Int) < 4)) false]) (by kernel_rfl) ⟨rfl, rfl, trivial⟩ (h1 rfl).choose_spec.own (fun W hW hWd => visit_end hJ hX h1 h2 (by simp only [cutL, List.length_append]; omega) W hW hWd)

theorem visit_all (hJ : GrowsJ J) (hX : GrowsX Jx) (hB : BoundJ J) (hY : ∀ i x S W1, xs[i]? = some x → J i S W1 → YieldAt (Fw none) 9 Tryz.prog l #[encP x] W1 (YR J Jx i S W1)) : ∀ d, d < 1000 → VisitAt l J Jx xs d
  | 0, _ => visit0 hJ hX hB hY
  | d + 1, h => visitS hJ hX hB (by omega) (visit_all hJ hX hB hY d (by omega))
end

noncomputable def O2 : Array Oper := match (codeAtD [1, 1, 1] [] (Tryz.f193.body.getD .skip)).1 with
  | .region _ ops _ => ops
  | _ => #[]
noncomputable def o2 : Oper := O2.toList.getD 3 default
theorem o2_op : o2.op = .call { callee := .value (.tmp 6), args := #[.tmp 7, .tmp 8], argTypes := callTs o2 } := by kernel_rfl
theorem o2_split : O2.toList = O2.toList.take 3 ++ [o2] := by kernel_rfl
def z2 (l : Nat) (p : (Int × Int × Int) × (Int × Int × Int) × Int × Int × Int) (d : Int) : LS := ⟨[.u, .p 0 0, .p 1 0, .u, .p 3 0, .u, .u, .u, .u, .u], [.live false false (cP p), .live false false [iv d], .live true false [.v (yv l)], .live true false [.f 194 [.p 2 0, .p 3 0]]]⟩
def z21 (l : Nat) (p : (Int × Int × Int) × (Int × Int × Int) × Int × Int × Int) (d : Int) : LS := ⟨[.u, .p 0 0, .p 1 0, .u, .p 3 0, .u, .f 194 [.p 2 0, .p 3 0], .a (cP p), iv d, .u], [.live false false (cP p), .live false false [iv d], .live true false [.v (yv l)], .live true false [.f 194 [.p 2 0, .p 3 0]]]⟩

theorem iter_cut (p : (Int × Int × Int) × (Int × Int × Int) × Int × Int × Int) (d : Nat) (hd : d < 1000) : Iter Tryz.prog 193 [.p 0 0, .p 1 0] [.live false false (cP p), .live false false [iv (d : Nat)]] encP (cutL d p) := by
  refine ⟨ent193, fun ρ Wd lb hcaps hbs hpl l J Jx S0 hJ hX hB hY h0 => ?_⟩
  have hcon : Calls Tryz.prog 193 ((Value.func (.yield l) #[] #[]) :: lb).toArray Wd fun e Wd' => (∃ v, e = .returned v) ∧ ∃ S', (J (cutL d p).length S' Wd' ∨ Jx S' Wd') ∧ Kept Wd S0 Wd' := by
    refine calls_of_good (n := 9) (args := [.v (yv l), .p 0 0, .p 1 0]) (bs := [.live false false (cP p), .live false false [iv (d : Nat)]]) Tryz.func193 rfl (by show 3 ≤ Tryz.f193.ntmps; decide) (by kernel_rfl) ⟨rfl, rfl, trivial⟩ (by kernel_rfl) (fun i => by rcases i with _ | _ | i <;> simp [BK.own]) (by kernel_rfl) ⟨rfl, hcaps⟩ hbs hpl (fun cx hbase hw hρ hfz hown => ?_)
    subst hw
    refine at_of (T := T0) hT hm (f := 5000) (orc := [.stop 3]) [] [1, 2, 4] [2, 3] hbase (x := .region 3 O2 false) (k' := []) (s' := z2 l p d)
      (obs := []) (by kernel_rfl) trivial ?_
    intro ρ a Wd hrep
    simp only [cont]
    refine wpIn_region ?_
    have hsz : O2.size = (O2.toList.take 3).length + (0 + 1) := by kernel_rfl
    have hget : ∀ j, O2[j]? = (O2.toList.take 3 ++ [o2])[j]? := fun j => by rw [← o2_split, Array.getElem?_toList]
    rw [hsz, range_split]
    refine ops_pre hT (O2.toList.take 3) 0 (z2 l p d) (z21 l p d) [] [] _ [] (evS_spec (T := T0) (obs := []) (by kernel_rfl)).choose_spec trivial (fun j o' hj => ?_) ρ a Wd hrep (fun ρ1 a1 W1 hrep1 hl1 => ?_)
    · rw [hget, Nat.zero_add, List.getElem?_append_left (List.getElem?_eq_some_iff.1 hj).1]; exact hj
    rw [wpOpsIn_cons]
    unfold wpOpIn
    have ho : O2[(O2.toList.take 3).length]? = some o2 := by rw [hget, List.getElem?_append_right (Nat.le_refl _)]; simp
    rw [ho]
    have hw : Region.wanted o2 (yielded O2 a1.tmps) = true := by
      have hg : o2.guard = none := by kernel_rfl
      unfold Region.wanted; rw [hg]
    simp only [hw, if_true]
    have hbel : Below cx.w.heap.size cx.w W1 := by
      have := hrep1.kept
      exact ⟨this.os, this.tape, this.output, this.size, fun k hk => this.block k hk (hown k)⟩
    have r1 := hrep1.sl 6
    have r2 := hrep1.sl 7
    have r3 := hrep1.sl 8
    have r1' : Rel ρ1 (.f 194 [.p 2 0, .p 3 0]) (a1.tmps.getD 6 undef) := r1
    have r2' : Rel ρ1 (.a (cP p)) (a1.tmps.getD 7 undef) := r2
    have r3' : Rel ρ1 (iv (d : Nat)) (a1.tmps.getD 8 undef) := r3
    simp only [Rel] at r1'
    obtain ⟨vs, hv, hc⟩ := r1'
    have own2 : ∀ b, cx.mine b → cx.w.heap.size ≤ b := fun b hb => hb.elim id (fun h => (hown b h).elim)
    have b2 := (renB_rep (ks := [2, 3]) (i := 0) (m := false) (x := .live true false [.v (yv l)]) (y := .live false false [.v (yv l)]) (M' := fun b => W1.heap.size ≤ b) rfl rfl trivial (hrep1.bk 2) (fun _ h => by cases h) (fun _ b hlt _ hM => absurd hM (Nat.not_le_of_lt hlt))).1
    have b3 := (renB_rep (ks := [2, 3]) (i := 1) (m := false) (x := .live true false [.f 194 [.p 2 0, .p 3 0]]) (y := .live false false [.f 194 [.p 0 0, .p 1 0]]) (M' := fun b => W1.heap.size ≤ b) rfl rfl trivial (hrep1.bk 3) (fun _ h => by cases h) (fun _ b hlt _ hM => absurd hM (Nat.not_le_of_lt hlt))).1
    have hS2 : ∀ k, k < 2 → ∀ b o n, envOf ρ1 [2, 3] k = some (b, o, n) → ¬ S0 b := fun k hk b o n h hSb => by
      have hlt := hB _ _ _ h0 b hSb
      have own : ∀ j, (z21 l p d).fs.bk j ≠ .un → ((z21 l p d).fs.bk j).own → ρ1 j = some (b, o, n) → False := fun j _ hj hρ => by
        have hb := hrep1.bk j
        cases hx : (z21 l p d).fs.bk j with
        | un => rw [hx] at hj; exact hj
        | dead => rw [hx] at hj; exact hj
        | map es =>
          rw [hx] at hb
          obtain ⟨b', n', arr, q1, q2, _⟩ := hb
          rw [hρ] at q1; cases q1
          have := own2 b q2; omega
        | live ow sy cs => cases ow with
          | false => rw [hx] at hj; exact hj
          | true =>
            rw [hx] at hb
            rcases hb with ⟨q, _⟩ | ⟨b', vs, rest, ty, q1, q2, _⟩
            · rw [hρ] at q; cases q
            · rw [hρ] at q1; cases q1
              have := own2 b q2; omega
      match k, hk with
      | 0, _ => exact own 2 (by simp [z21, LS.fs]) (by trivial) h
      | 1, _ => exact own 3 (by simp [z21, LS.fs]) (by trivial) h
    refine op_call o2_op (g := 194) (caps := vs) hv ent194 ((visit_all (l := l) hJ hX hB hY d hd) p 0 S0 W1 (envOf ρ1 [2, 3]) (a1.tmps.getD 7 undef :: a1.tmps.getD 8 undef :: vs) ?_ b2 b3 hS2 (hJ _ _ _ _ h0 hbel hrep1.kept.drawn) (fun j x hj => by rw [Nat.zero_add]; exact hj)) (fun e Wd' hR => ?_)
    · exact rels_cons (ren_rel (ks := [2, 3]) (.a (cP p)) (.a (cP p)) _ rfl r2') (rels_cons (ren_rel (ks := [2, 3]) (iv (d : Nat)) (iv (d : Nat)) _ rfl r3') (renL_rel (ks := [2, 3]) [.p 2 0, .p 3 0] [.p 0 0, .p 1 0] vs rfl hc))
    · have fin : ∀ v : Bool, e = .returned (.bool v) → (∃ S', (J (cutL d p).length S' Wd' ∨ Jx S' Wd') ∧ Kept W1 S0 Wd') → ∃ v, e = .returned v ∧ wpOpsIn (Fw none) 9 Tryz.prog O2 (cont none 9 Tryz.prog (bodyPost Tryz.prog Tryz.f193 (fun e Wd' => (∃ v, e = .returned v) ∧ ∃ S', (J (cutL d p).length S' Wd' ∨ Jx S' Wd') ∧ Kept cx.w S0 Wd')) []) (List.range' ((O2.toList.take 3).length + 1) 0) (a1.put o2.dst v) Wd' := fun v he ⟨S', hj', hk'⟩ => by
        refine ⟨_, he, ?_⟩
        simp only [List.range'_zero, wpOpsIn, cont]
        refine ⟨?_, _, results_nil (by kernel_rfl), ⟨_, rfl⟩, S', hj', ?_⟩
        · exact hrep1.defs
        · exact (Kept.of_below S0 hbel hrep1.kept.drawn).trans hk' (fun b hb _ => hb)
      rcases hR with ⟨he, S', hj', hk', _⟩ | ⟨he, S', hj', hk'⟩
      · exact fin true he ⟨S', .inl (by rwa [Nat.zero_add] at hj'), hk'⟩
      · exact fin false he ⟨S', .inr hj', hk'⟩
  have e : ((Value.func (.yield l) #[] #[]) :: lb).toArray = #[.func (.yield l) #[] #[]] ++ lb.toArray := by apply Array.ext'; simp
  rw [← e]; exact hcon

theorem iter_cutI (p : (Int × Int × Int) × (Int × Int × Int) × Int × Int × Int) (d : Int) (h : 0 ≤ d ∧ d ≤ 3) : Iter Tryz.prog 193 [.p 0 0, .p 1 0] [.live false false (cP p), .live false false [iv d]] encP (cutL (Int.toNat d) p) := by
  have := iter_cut p d.toNat (by omega)
  rwa [Int.toNat_of_nonneg h.1] at this
end Go.Proofs.YtnbpiejjeeomkaaGreat

namespace Go.Proofs.YtnbpiejjeeomkaaGreat
open Go.Proofs Go.Aw Go.RowKit
set_option maxRecDepth 100000
set_option linter.unusedVariables false
set_option linter.unusedSimpArgs false

def F186 (a0 : Int) (a1 : Int) (a2 : Int) : Bool :=
  (bif (decide ((a1 : Int) ≤ a0)) then
   (decide ((a0 : Int) ≤ a2))
  else
   false)

theorem C186 (a0 : Int) (a1 : Int) (a2 : Int) : Con Tryz.prog 186 [(iv a0), (iv a1), (iv a2)] [] (.v (.bool (F186 a0 a1 a2))) [] := by
  refine con_s Tryz.func186 (by kernel_rfl) fun cx hcx => ?_
  cases h0 : (decide ((a1 : Int) ≤ a0)) with
  | true =>
   have q0 := of_decide_eq_true h0
   have e := Eq.refl (F186 a0 a1 a2); conv at e => rhs; simp only [F186, h0, cond_true, cond_false]
   rw [e]
   exact rt [.d h0] [] [] hcx (by kernel_rfl)
  | false =>
   have q0 := of_decide_eq_false h0
   have e := Eq.refl (F186 a0 a1 a2); conv at e => rhs; simp only [F186, h0, cond_true, cond_false]
   rw [e]
   exact rt [.d h0] [] [] hcx (by kernel_rfl)

def F132 (a0 : Int × Int × Int) (a1 : Int) : Bool :=
  (bif (F186 a0.1 (W (0 - a1)) a1) then
   (bif (F186 a0.2.1 (W (0 - a1)) a1) then
    (F186 a0.2.2 (W (0 - a1)) a1)
   else
    false)
  else
   false)

theorem C132 (a0 : Int × Int × Int) (a1 : Int) : Con Tryz.prog 132 [(.a (k3 a0)), (iv a1)] [] (.v (.bool (F132 a0 a1))) [] := by
  refine con_s Tryz.func132 (by kernel_rfl) fun cx hcx => ?_
  let t0 : List (St Tryz.prog) := [.c [] (C186 a0.1 (W (0 - a1)) a1)]
  cases h0 : (F186 a0.1 (W (0 - a1)) a1) with
  | true =>
   let t1 : List (St Tryz.prog) := (t0 ++ [.d h0, .c [] (C186 a0.2.1 (W (0 - a1)) a1)])
   cases h1 : (F186 a0.2.1 (W (0 - a1)) a1) with
   | true =>
    have e := Eq.refl (F132 a0 a1); conv at e => rhs; simp only [F132, h0, h1, cond_true, cond_false]
    rw [e]
    exact rt (t1 ++ [.d h1, .c [] (C186 a0.2.2 (W (0 - a1)) a1)]) [] [] hcx (by kernel_rfl)
   | false =>
    have e := Eq.refl (F132 a0 a1); conv at e => rhs; simp only [F132, h0, h1, cond_true, cond_false]
    rw [e]
    exact rt (t1 ++ [.d h1]) [] [] hcx (by kernel_rfl)
  | false =>
   have e := Eq.refl (F132 a0 a1); conv at e => rhs; simp only [F132, h0, cond_true, cond_false]
   rw [e]
   exact rt (t0 ++ [.d h0]) [] [] hcx (by kernel_rfl)

def F227 (a0 : Int × Int × Int) (a1 : Int) (a2 : Int × Int × Int) : Int × Int × Int :=
  ((W (a0.1 + (W (a1 * a2.1)))), (W (a0.2.1 + (W (a1 * a2.2.1)))), (W (a0.2.2 + (W (a1 * a2.2.2)))))

theorem C227 (a0 : Int × Int × Int) (a1 : Int) (a2 : Int × Int × Int) : Con Tryz.prog 227 [(.a (k3 a0)), (iv a1), (.a (k3 a2))] [] (.a (k3 (F227 a0 a1 a2))) [] := by
  refine con_s Tryz.func227 (by kernel_rfl) fun cx hcx => ?_
  have e := Eq.refl (F227 a0 a1 a2); conv at e => rhs; simp only [F227]
  rw [e]
  exact rt [] [] [] hcx (by kernel_rfl)

def F188 (a0 : Int × Int × Int) (a1 : Int × Int × Int) : Int × Int × Int :=
  (F227 a0 (-1) a1)

theorem C188 (a0 : Int × Int × Int) (a1 : Int × Int × Int) : Con Tryz.prog 188 [(.a (k3 a0)), (.a (k3 a1))] [] (.a (k3 (F188 a0 a1))) [] := by
  refine con_s Tryz.func188 (by kernel_rfl) fun cx hcx => ?_
  have e := Eq.refl (F188 a0 a1); conv at e => rhs; simp only [F188]
  rw [e]
  exact rt [.c [] (C227 a0 (-1) a1)] [] [] hcx (by kernel_rfl)

def F187 (a0 : Int × Int × Int) (a1 : Int × Int × Int) : Int × Int × Int :=
  ((W ((W (a0.2.1 * a1.2.2)) - (W (a0.2.2 * a1.2.1)))), (W ((W (a0.2.2 * a1.1)) - (W (a0.1 * a1.2.2)))), (W ((W (a0.1 * a1.2.1)) - (W (a0.2.1 * a1.1)))))

theorem C187 (a0 : Int × Int × Int) (a1 : Int × Int × Int) : Con Tryz.prog 187 [(.a (k3 a0)), (.a (k3 a1))] [] (.a (k3 (F187 a0 a1))) [] := by
  refine con_s Tryz.func187 (by kernel_rfl) fun cx hcx => ?_
  have e := Eq.refl (F187 a0 a1); conv at e => rhs; simp only [F187]
  rw [e]
  exact rt [] [] [] hcx (by kernel_rfl)

def F133 (a0 : (Int × Int × Int) × (Int × Int × Int) × Int × Int × Int) : Int × Int × Int :=
  (F187 (F188 a0.2.1 a0.1) (F188 a0.2.2 a0.1))

theorem C133 (a0 : (Int × Int × Int) × (Int × Int × Int) × Int × Int × Int) : Con Tryz.prog 133 [(.a (k9 a0))] [] (.a (k3 (F133 a0))) [] := by
  refine con_s Tryz.func133 (by kernel_rfl) fun cx hcx => ?_
  have e := Eq.refl (F133 a0); conv at e => rhs; simp only [F133]
  rw [e]
  exact rt [.c [] (C188 a0.2.1 a0.1), .c [] (C188 a0.2.2 a0.1), .c [] (C187 (F188 a0.2.1 a0.1) (F188 a0.2.2 a0.1))] [] [] hcx (by kernel_rfl)

def F81 (a0 : (Int × Int × Int) × (Int × Int × Int) × Int × Int × Int) : Int :=
  (bif (!(F132 a0.1 64)) then
   1
  else
   (bif (!(F132 a0.2.1 64)) then
    1
   else
    (bif (!(F132 a0.2.2 64)) then
     1
    else
     (bif ((((F133 a0).1 : Int) == 0) && ((((F133 a0).2.1 : Int) == 0) && ((((F133 a0).2.2 : Int) == 0) && true))) then
      6
     else
      0))))

theorem C81 (a0 : (Int × Int × Int) × (Int × Int × Int) × Int × Int × Int) : Con Tryz.prog 81 [(.a (k9 a0))] [] (iv (F81 a0)) [] := by
  refine con_s Tryz.func81 (by kernel_rfl) fun cx hcx => ?_
  let t0 : List (St Tryz.prog) := [.c [] (C132 a0.1 64)]
  cases h0 : (!(F132 a0.1 64)) with
  | true =>
   have e := Eq.refl (F81 a0); conv at e => rhs; simp only [F81, h0, cond_true, cond_false]
   rw [e]
   exact rt (t0 ++ [.d h0]) [] [] hcx (by kernel_rfl)
  | false =>
   let t1 : List (St Tryz.prog) := (t0 ++ [.d h0, .c [] (C132 a0.2.1 64)])
   cases h1 : (!(F132 a0.2.1 64)) with
   | true =>
    have e := Eq.refl (F81 a0); conv at e => rhs; simp only [F81, h0, h1, cond_true, cond_false]
    rw [e]
    exact rt (t1 ++ [.d h1]) [] [] hcx (by kernel_rfl)
   | false =>
    let t2 : List (St Tryz.prog) := (t1 ++ [.d h1, .c [] (C132 a0.2.2 64)])
    cases h2 : (!(F132 a0.2.2 64)) with
    | true =>
     have e := Eq.refl (F81 a0); conv at e => rhs; simp only [F81, h0, h1, h2, cond_true, cond_false]
     rw [e]
     exact rt (t2 ++ [.d h2]) [] [] hcx (by kernel_rfl)
    | false =>
     let t3 : List (St Tryz.prog) := (t2 ++ [.d h2, .c [] (C133 a0)])
     cases h3 : ((((F133 a0).1 : Int) == 0) && ((((F133 a0).2.1 : Int) == 0) && ((((F133 a0).2.2 : Int) == 0) && true))) with
     | true =>
      have e := Eq.refl (F81 a0); conv at e => rhs; simp only [F81, h0, h1, h2, h3, cond_true, cond_false]
      rw [e]
      exact rt (t3 ++ [.d h3]) [] [] hcx (by kernel_rfl)
     | false =>
      have e := Eq.refl (F81 a0); conv at e => rhs; simp only [F81, h0, h1, h2, h3, cond_true, cond_false]
      rw [e]
      exact rt (t3 ++ [.d h3]) [] [] hcx (by kernel_rfl)

def F82 (a0 : Int) (a1 : Int) (a2 : Int) : Bool :=
  (bif (decide ((a0 : Int) ≥ a1)) then
   (decide ((a0 : Int) ≤ a2))
  else
   false)

theorem C82 (a0 : Int) (a1 : Int) (a2 : Int) : Con Tryz.prog 82 [(iv a0), (iv a1), (iv a2)] [] (.v (.bool (F82 a0 a1 a2))) [] := by
  refine con_s Tryz.func82 (by kernel_rfl) fun cx hcx => ?_
  cases h0 : (decide ((a0 : Int) ≥ a1)) with
  | true =>
   have q0 := of_decide_eq_true h0
   have e := Eq.refl (F82 a0 a1 a2); conv at e => rhs; simp only [F82, h0, cond_true, cond_false]
   rw [e]
   exact rt [.d h0] [] [] hcx (by kernel_rfl)
  | false =>
   have q0 := of_decide_eq_false h0
   have e := Eq.refl (F82 a0 a1 a2); conv at e => rhs; simp only [F82, h0, cond_true, cond_false]
   rw [e]
   exact rt [.d h0] [] [] hcx (by kernel_rfl)

def F83 (a0 : (Int × Int × Int) × (Int × Int × Int) × Int × Int × Int) (a1 : (Int × Int × Int) × (Int × Int × Int) × Int × Int × Int) (a2 : Int) : Int :=
  (bif (((F81 a0) : Int) != 0) then
   (F81 a0)
  else
   (bif (((F81 a1) : Int) != 0) then
    (F81 a1)
   else
    (bif (!(F82 a2 0 2)) then
     1
    else
     0)))

theorem C83 (a0 : (Int × Int × Int) × (Int × Int × Int) × Int × Int × Int) (a1 : (Int × Int × Int) × (Int × Int × Int) × Int × Int × Int) (a2 : Int) : Con Tryz.prog 83 [(.a (k9 a0)), (.a (k9 a1)), (iv a2)] [] (iv (F83 a0 a1 a2)) [] := by
  refine con_s Tryz.func83 (by kernel_rfl) fun cx hcx => ?_
  let t0 : List (St Tryz.prog) := [.c [] (C81 a0)]
  cases h0 : (((F81 a0) : Int) != 0) with
  | true =>
   have q0 := bne_iff_ne.1 h0
   have e := Eq.refl (F83 a0 a1 a2); conv at e => rhs; simp only [F83, h0, cond_true, cond_false]
   rw [e]
   exact rt (t0 ++ [.d h0]) [] [] hcx (by kernel_rfl)
  | false =>
   have q0 := bne_eq_false_iff_eq.1 h0
   let t1 : List (St Tryz.prog) := (t0 ++ [.d h0, .c [] (C81 a1)])
   cases h1 : (((F81 a1) : Int) != 0) with
   | true =>
    have q1 := bne_iff_ne.1 h1
    have e := Eq.refl (F83 a0 a1 a2); conv at e => rhs; simp only [F83, h0, h1, cond_true, cond_false]
    rw [e]
    exact rt (t1 ++ [.d h1]) [] [] hcx (by kernel_rfl)
   | false =>
    have q1 := bne_eq_false_iff_eq.1 h1
    let t2 : List (St Tryz.prog) := (t1 ++ [.d h1, .c [] (C82 a2 0 2)])
    cases h2 : (!(F82 a2 0 2)) with
    | true =>
     have e := Eq.refl (F83 a0 a1 a2); conv at e => rhs; simp only [F83, h0, h1, h2, cond_true, cond_false]
     rw [e]
     exact rt (t2 ++ [.d h2]) [] [] hcx (by kernel_rfl)
    | false =>
     have e := Eq.refl (F83 a0 a1 a2); conv at e => rhs; simp only [F83, h0, h1, h2, cond_true, cond_false]
     rw [e]
     exact rt (t2 ++ [.d h2]) [] [] hcx (by kernel_rfl)

noncomputable def B191_0 : Code := (loopAtD [1, 1, 0, 1] [] (bodyOf Tryz.f191) []).1
noncomputable def K191_0 : List K := (loopAtD [1, 1, 0, 1] [] (bodyOf Tryz.f191) []).2

def st191_0 (a0 : Int) (v1 : Int) (v2 : Int) : LS := ⟨slN 22 [(0, (iv a0)), (3, (iv v1)), (4, (iv v2))], []⟩

def S191_0 (a0 : Int) : Int × Int → (Int × Int) ⊕ (Int)
  | (v1, v2) =>
   (bif (decide ((v2 : Int) > 0)) then
    (bif (decide (((W ((W (v1 + v2)) * (W (v1 + v2)))) : Int) ≤ a0)) then
     (.inl ((W (v1 + v2)), (v2 / 2)))
    else
     (.inl (v1, (v2 / 2))))
   else
    (.inr v1))

set_option maxHeartbeats 4000000 in
theorem L191_0 (a0 : Int) {cx : Cx} (hcx : cx.base = 0) : ∀ (n : Nat) (v1 : Int) (v2 : Int), True → Int.toNat v2 < n → Aw.Good Tryz.prog none 9 (bodyPost Tryz.prog Tryz.f191 (RR cx (iv (loopF (S191_0 a0) n (v1, v2))) [] [])) cx [] (.l B191_0 n :: K191_0) (st191_0 a0 v1 v2) := by
  intro n
  induction n with
  | zero => intro v1 v2 hi hn; exact absurd hn (Nat.not_lt_zero _)
  | succ n ih =>
    intro v1 v2 hi hn
    refine good_round ?_
    cases h0 : (decide ((v2 : Int) > 0)) with
    | true =>
     have q0 := of_decide_eq_true h0
     let t1 : List (St Tryz.prog) := [.d h0]
     cases h1 : (decide (((W ((W (v1 + v2)) * (W (v1 + v2)))) : Int) ≤ a0)) with
     | true =>
      have q1 := of_decide_eq_true h1
      have e := Eq.refl (S191_0 a0 (v1, v2)); conv at e => rhs; simp only [S191_0, h0, h1, cond_true, cond_false]
      rw [loopF_inl e]
      refine ba (t1 ++ [.d h1, .p (show 0 ≤ (1 : Int) from by decide)]) [] [0, 3, 4] [] hcx (m := n) B191_0 (K191_0) (st191_0 a0 (W (v1 + v2)) (Int.fdiv v2 (2 ^ (min (Int.toNat 1) 64)))) (by kernel_rfl) ?_
      have z0 : (Int.fdiv v2 (2 ^ (min (Int.toNat 1) 64))) = (v2 / 2) := shr_eq _ 1 (by decide)
      rw [z0]
      exact ih (W (v1 + v2)) (v2 / 2) trivial (by (try simp only [List.length_append, List.length_cons, List.length_nil, Int.toNat_zero]); omega)
     | false =>
      have q1 := of_decide_eq_false h1
      have e := Eq.refl (S191_0 a0 (v1, v2)); conv at e => rhs; simp only [S191_0, h0, h1, cond_true, cond_false]
      rw [loopF_inl e]
      refine ba (t1 ++ [.d h1, .p (show 0 ≤ (1 : Int) from by decide)]) [] [0, 3, 4] [] hcx (m := n) B191_0 (K191_0) (st191_0 a0 v1 (Int.fdiv v2 (2 ^ (min (Int.toNat 1) 64)))) (by kernel_rfl) ?_
      have z0 : (Int.fdiv v2 (2 ^ (min (Int.toNat 1) 64))) = (v2 / 2) := shr_eq _ 1 (by decide)
      rw [z0]
      exact ih v1 (v2 / 2) trivial (by (try simp only [List.length_append, List.length_cons, List.length_nil, Int.toNat_zero]); omega)
    | false =>
     have q0 := of_decide_eq_false h0
     have e := Eq.refl (S191_0 a0 (v1, v2)); conv at e => rhs; simp only [S191_0, h0, cond_true, cond_false]
     rw [loopF_s, e]
     exact rt [.d h0] [] [] hcx (by kernel_rfl)

def F191 (a0 : Int) : Int :=
  (loopF (S191_0 a0) (Int.toNat 1073741824 + 1) (0, 1073741824))

theorem C191 (a0 : Int) : Con Tryz.prog 191 [(iv a0)] [] (iv (F191 a0)) [] := by
  refine con_s Tryz.func191 (by kernel_rfl) fun cx hcx => ?_
  have e := Eq.refl (F191 a0); conv at e => rhs; simp only [F191]
  rw [e]
  refine en [] [] [0, 3, 4] [] hcx B191_0 (K191_0) (st191_0 a0 0 1073741824) (Int.toNat 1073741824 + 1) (by kernel_rfl) ?_
  exact L191_0 a0 hcx (Int.toNat 1073741824 + 1) 0 1073741824 trivial (by (try simp only [List.length_append, List.length_cons, List.length_nil, Int.toNat_zero]); omega)

def F228_3 (a0 : (Int) × (Int) × (Int)) : Int :=
  (W ((W ((W (0 + a0.1)) + a0.2.1)) + a0.2.2))

theorem C228_3 (a0 : (Int) × (Int) × (Int)) : Con Tryz.prog 228 [(.s 0 0 3 1)] [(.live false false (k3 a0))] (iv (F228_3 a0)) [] := by
  refine con_s Tryz.func228 (by kernel_rfl) fun cx hcx => ?_
  have e := Eq.refl (F228_3 a0); conv at e => rhs; simp only [F228_3]
  rw [e]
  exact rt [.u 200, .T, .i 0 3 (by decide), .u 0, .T, .i 1 3 (by decide), .u 0, .T, .i 2 3 (by decide), .u 0, .F] [] [] hcx (by kernel_rfl)

def F192 (a0 : Int × Int × Int) (a1 : Int × Int × Int) : Int :=
  (F228_3 ((W (a0.1 * a1.1)), (W (a0.2.1 * a1.2.1)), (W (a0.2.2 * a1.2.2))))

theorem C192 (a0 : Int × Int × Int) (a1 : Int × Int × Int) : Con Tryz.prog 192 [(.a (k3 a0)), (.a (k3 a1))] [] (iv (F192 a0 a1)) [] := by
  refine con_s Tryz.func192 (by kernel_rfl) fun cx hcx => ?_
  have e := Eq.refl (F192 a0 a1); conv at e => rhs; simp only [F192]
  rw [e]
  exact rt [.c [2] (C228_3 ((W (a0.1 * a1.1)), (W (a0.2.1 * a1.2.1)), (W (a0.2.2 * a1.2.2))))] [] [] hcx (by kernel_rfl)

def F190 (a0 : Int × Int × Int) (a1 : Int × Int × Int) : Int × Int × Int :=
  ((W (a0.1 - a1.1)), (W (a0.2.1 - a1.2.1)), (W (a0.2.2 - a1.2.2)))

theorem C190 (a0 : Int × Int × Int) (a1 : Int × Int × Int) : Con Tryz.prog 190 [(.a (k3 a0)), (.a (k3 a1))] [] (.a (k3 (F190 a0 a1))) [] := by
  refine con_s Tryz.func190 (by kernel_rfl) fun cx hcx => ?_
  have e := Eq.refl (F190 a0 a1); conv at e => rhs; simp only [F190]
  rw [e]
  exact rt [] [] [] hcx (by kernel_rfl)

def F189 (a0 : Int × Int × Int) (a1 : Int × Int × Int) : Int × Int × Int :=
  ((W ((W (a0.2.1 * a1.2.2)) - (W (a0.2.2 * a1.2.1)))), (W ((W (a0.2.2 * a1.1)) - (W (a0.1 * a1.2.2)))), (W ((W (a0.1 * a1.2.1)) - (W (a0.2.1 * a1.1)))))

theorem C189 (a0 : Int × Int × Int) (a1 : Int × Int × Int) : Con Tryz.prog 189 [(.a (k3 a0)), (.a (k3 a1))] [] (.a (k3 (F189 a0 a1))) [] := by
  refine con_s Tryz.func189 (by kernel_rfl) fun cx hcx => ?_
  have e := Eq.refl (F189 a0 a1); conv at e => rhs; simp only [F189]
  rw [e]
  exact rt [] [] [] hcx (by kernel_rfl)

def F197_3 (a0 : (Int × Int × Int) × (Int × Int × Int) × (Int × Int × Int)) : (Int × Int × Int) × Int × Int × Int :=
  (((if (a0.2.2.1 : Int) < (if (a0.2.1.1 : Int) < (if (a0.1.1 : Int) < a0.1.1 then a0.1.1 else a0.1.1) then a0.2.1.1 else (if (a0.1.1 : Int) < a0.1.1 then a0.1.1 else a0.1.1)) then a0.2.2.1 else (if (a0.2.1.1 : Int) < (if (a0.1.1 : Int) < a0.1.1 then a0.1.1 else a0.1.1) then a0.2.1.1 else (if (a0.1.1 : Int) < a0.1.1 then a0.1.1 else a0.1.1))), (if (a0.2.2.2.1 : Int) < (if (a0.2.1.2.1 : Int) < (if (a0.1.2.1 : Int) < a0.1.2.1 then a0.1.2.1 else a0.1.2.1) then a0.2.1.2.1 else (if (a0.1.2.1 : Int) < a0.1.2.1 then a0.1.2.1 else a0.1.2.1)) then a0.2.2.2.1 else (if (a0.2.1.2.1 : Int) < (if (a0.1.2.1 : Int) < a0.1.2.1 then a0.1.2.1 else a0.1.2.1) then a0.2.1.2.1 else (if (a0.1.2.1 : Int) < a0.1.2.1 then a0.1.2.1 else a0.1.2.1))), (if (a0.2.2.2.2 : Int) < (if (a0.2.1.2.2 : Int) < (if (a0.1.2.2 : Int) < a0.1.2.2 then a0.1.2.2 else a0.1.2.2) then a0.2.1.2.2 else (if (a0.1.2.2 : Int) < a0.1.2.2 then a0.1.2.2 else a0.1.2.2)) then a0.2.2.2.2 else (if (a0.2.1.2.2 : Int) < (if (a0.1.2.2 : Int) < a0.1.2.2 then a0.1.2.2 else a0.1.2.2) then a0.2.1.2.2 else (if (a0.1.2.2 : Int) < a0.1.2.2 then a0.1.2.2 else a0.1.2.2)))), ((if ((if ((if (a0.1.1 : Int) < a0.1.1 then a0.1.1 else a0.1.1) : Int) < a0.2.1.1 then a0.2.1.1 else (if (a0.1.1 : Int) < a0.1.1 then a0.1.1 else a0.1.1)) : Int) < a0.2.2.1 then a0.2.2.1 else (if ((if (a0.1.1 : Int) < a0.1.1 then a0.1.1 else a0.1.1) : Int) < a0.2.1.1 then a0.2.1.1 else (if (a0.1.1 : Int) < a0.1.1 then a0.1.1 else a0.1.1))), (if ((if ((if (a0.1.2.1 : Int) < a0.1.2.1 then a0.1.2.1 else a0.1.2.1) : Int) < a0.2.1.2.1 then a0.2.1.2.1 else (if (a0.1.2.1 : Int) < a0.1.2.1 then a0.1.2.1 else a0.1.2.1)) : Int) < a0.2.2.2.1 then a0.2.2.2.1 else (if ((if (a0.1.2.1 : Int) < a0.1.2.1 then a0.1.2.1 else a0.1.2.1) : Int) < a0.2.1.2.1 then a0.2.1.2.1 else (if (a0.1.2.1 : Int) < a0.1.2.1 then a0.1.2.1 else a0.1.2.1))), (if ((if ((if (a0.1.2.2 : Int) < a0.1.2.2 then a0.1.2.2 else a0.1.2.2) : Int) < a0.2.1.2.2 then a0.2.1.2.2 else (if (a0.1.2.2 : Int) < a0.1.2.2 then a0.1.2.2 else a0.1.2.2)) : Int) < a0.2.2.2.2 then a0.2.2.2.2 else (if ((if (a0.1.2.2 : Int) < a0.1.2.2 then a0.1.2.2 else a0.1.2.2) : Int) < a0.2.1.2.2 then a0.2.1.2.2 else (if (a0.1.2.2 : Int) < a0.1.2.2 then a0.1.2.2 else a0.1.2.2)))))

theorem C197_3 (a0 : (Int × Int × Int) × (Int × Int × Int) × (Int × Int × Int)) : Con Tryz.prog 197 [(.s 0 0 3 3)] [(.live false false (k9 a0))] (.t [(.a (k3 (F197_3 a0).1)), (.a (k3 (F197_3 a0).2))]) [] := by
  refine con_s Tryz.func197 (by kernel_rfl) fun cx hcx => ?_
  have e := Eq.refl (F197_3 a0); conv at e => rhs; simp only [F197_3]
  rw [e]
  exact rt [.i 0 3 (by decide), .i 0 3 (by decide), .u 200, .T, .i 0 3 (by decide), .u 0, .T, .i 1 3 (by decide), .u 0, .T, .i 2 3 (by decide), .u 0, .F] [] [] hcx (by kernel_rfl)

def F198 (a0 : Int) (a1 : Int) (a2 : Int) (a3 : Int) : Int :=
  (if ((if (0 : Int) < (W (a2 - a1)) then (W (a2 - a1)) else 0) : Int) < (W (a0 - a3)) then (W (a0 - a3)) else (if (0 : Int) < (W (a2 - a1)) then (W (a2 - a1)) else 0))

theorem C198 (a0 : Int) (a1 : Int) (a2 : Int) (a3 : Int) : Con Tryz.prog 198 [(iv a0), (iv a1), (iv a2), (iv a3)] [] (iv (F198 a0 a1 a2 a3)) [] := by
  refine con_s Tryz.func198 (by kernel_rfl) fun cx hcx => ?_
  have e := Eq.refl (F198 a0 a1 a2 a3); conv at e => rhs; simp only [F198]
  rw [e]
  exact rt [] [] [] hcx (by kernel_rfl)

def F139_3_3 (a0 : (Int × Int × Int) × (Int × Int × Int) × (Int × Int × Int)) (a1 : (Int × Int × Int) × (Int × Int × Int) × (Int × Int × Int)) : Int :=
  (F192 ((F198 (F197_3 a0).1.1 (F197_3 a0).2.1 (F197_3 a1).1.1 (F197_3 a1).2.1), (F198 (F197_3 a0).1.2.1 (F197_3 a0).2.2.1 (F197_3 a1).1.2.1 (F197_3 a1).2.2.1), (F198 (F197_3 a0).1.2.2 (F197_3 a0).2.2.2 (F197_3 a1).1.2.2 (F197_3 a1).2.2.2)) ((F198 (F197_3 a0).1.1 (F197_3 a0).2.1 (F197_3 a1).1.1 (F197_3 a1).2.1), (F198 (F197_3 a0).1.2.1 (F197_3 a0).2.2.1 (F197_3 a1).1.2.1 (F197_3 a1).2.2.1), (F198 (F197_3 a0).1.2.2 (F197_3 a0).2.2.2 (F197_3 a1).1.2.2 (F197_3 a1).2.2.2)))

theorem C139_3_3 (a0 : (Int × Int × Int) × (Int × Int × Int) × (Int × Int × Int)) (a1 : (Int × Int × Int) × (Int × Int × Int) × (Int × Int × Int)) : Con Tryz.prog 139 [(.s 0 0 3 3), (.s 1 0 3 3)] [(.live false false (k9 a0)), (.live false false (k9 a1))] (iv (F139_3_3 a0 a1)) [] := by
  refine con_s Tryz.func139 (by kernel_rfl) fun cx hcx => ?_
  have e := Eq.refl (F139_3_3 a0 a1); conv at e => rhs; simp only [F139_3_3]
  rw [e]
  exact rt [.c [0] (C197_3 a0), .c [1] (C197_3 a1), .c [] (C198 (F197_3 a0).1.1 (F197_3 a0).2.1 (F197_3 a1).1.1 (F197_3 a1).2.1), .c [] (C198 (F197_3 a0).1.2.1 (F197_3 a0).2.2.1 (F197_3 a1).1.2.1 (F197_3 a1).2.2.1), .c [] (C198 (F197_3 a0).1.2.2 (F197_3 a0).2.2.2 (F197_3 a1).1.2.2 (F197_3 a1).2.2.2), .c [] (C192 ((F198 (F197_3 a0).1.1 (F197_3 a0).2.1 (F197_3 a1).1.1 (F197_3 a1).2.1), (F198 (F197_3 a0).1.2.1 (F197_3 a0).2.2.1 (F197_3 a1).1.2.1 (F197_3 a1).2.2.1), (F198 (F197_3 a0).1.2.2 (F197_3 a0).2.2.2 (F197_3 a1).1.2.2 (F197_3 a1).2.2.2)) ((F198 (F197_3 a0).1.1 (F197_3 a0).2.1 (F197_3 a1).1.1 (F197_3 a1).2.1), (F198 (F197_3 a0).1.2.1 (F197_3 a0).2.2.1 (F197_3 a1).1.2.1 (F197_3 a1).2.2.1), (F198 (F197_3 a0).1.2.2 (F197_3 a0).2.2.2 (F197_3 a1).1.2.2 (F197_3 a1).2.2.2)))] [] [] hcx (by kernel_rfl)

def c59 (x : Int × Int × Int) : List SV := [(iv x.1), (iv x.2.1), (iv x.2.2)]
theorem c59_len (x : Int × Int × Int) : (c59 x).length = 3 := rfl

noncomputable def B138_L_L_1 : Code := (loopAtD [1, 1, 0, 1, 0, 1, 1, 0, 1, 1] [0] (bodyOf Tryz.f138) []).1
noncomputable def K138_L_L_1 (m0 : Nat) : List K := (loopAtD [1, 1, 0, 1, 0, 1, 1, 0, 1, 1] [m0] (bodyOf Tryz.f138) []).2

def st138_L_L_1 (a0 : List (Int × Int × Int)) (a1 : List (Int × Int × Int)) (v5 : Int) (v6 : Int) (v7 : Int) (v8 : Int) (v9 : Int) (v10 : Int) : LS := ⟨slN 34 [(1, (.s 1 0 a1.length 3)), (5, (iv v5)), (7, (.p 2 0)), (11, (.s 0 0 a0.length 3)), (12, (iv ((a0.length : Nat) : Int))), (13, (iv v6)), (17, (.s 1 0 a1.length 3)), (18, (iv ((a1.length : Nat) : Int))), (19, (iv v7))], [(.live false true (flat c59 a0)), (.live false true (flat c59 a1)), (.live true false [(iv v8), (iv v9), (iv v10)])]⟩

def S138_L_L_1 (a0 : List (Int × Int × Int)) (a1 : List (Int × Int × Int)) : Int × Int × Int × Int × Int × Int → (Int × Int × Int × Int × Int × Int) ⊕ ((Int × Int) ⊕ (Int))
  | (v5, v6, v7, v8, v9, v10) =>
   (bif (decide ((v7 : Int) < ((a1.length : Nat) : Int))) then
    (.inl ((if (v5 : Int) < (F192 (F190 (v8, v9, v10) (a1.getD (Int.toNat v7) default)) (F190 (v8, v9, v10) (a1.getD (Int.toNat v7) default))) then (F192 (F190 (v8, v9, v10) (a1.getD (Int.toNat v7) default)) (F190 (v8, v9, v10) (a1.getD (Int.toNat v7) default))) else v5), v6, (v7 + 1), v8, v9, v10))
   else
    (.inr (.inl (v5, (v6 + 1)))))

noncomputable def B138_L_L_0 : Code := (loopAtD [1, 1, 0, 1] [] (bodyOf Tryz.f138) []).1
noncomputable def K138_L_L_0 : List K := (loopAtD [1, 1, 0, 1] [] (bodyOf Tryz.f138) []).2

def st138_L_L_0 (a0 : List (Int × Int × Int)) (a1 : List (Int × Int × Int)) (v3 : Int) (v4 : Int) : LS := ⟨slN 34 [(1, (.s 1 0 a1.length 3)), (5, (iv v3)), (11, (.s 0 0 a0.length 3)), (12, (iv ((a0.length : Nat) : Int))), (13, (iv v4))], [(.live false true (flat c59 a0)), (.live false true (flat c59 a1))]⟩

def S138_L_L_0 (a0 : List (Int × Int × Int)) (a1 : List (Int × Int × Int)) : Int × Int → (Int × Int) ⊕ (Int)
  | (v3, v4) =>
   (bif (decide ((v4 : Int) < ((a0.length : Nat) : Int))) then
    (loopF (S138_L_L_1 a0 a1) (Int.toNat (((a1.length : Nat) : Int) - 0) + 1) (v3, v4, 0, (a0.getD (Int.toNat v4) default).1, (a0.getD (Int.toNat v4) default).2.1, (a0.getD (Int.toNat v4) default).2.2))
   else
    (.inr v3))

set_option maxHeartbeats 4000000 in
theorem L138_L_L_1 (a0 : List (Int × Int × Int)) (a1 : List (Int × Int × Int)) (l0 : a0.length ≤ 9223372036854775807) (l1 : a1.length ≤ 9223372036854775807) {cx : Cx} (hcx : cx.base = 2)
    (n0 : Nat) (g0 : ∀ (v3 : Int) (v4 : Int), 0 ≤ v4 → Int.toNat (((a0.length : Nat) : Int) - v4) < n0 → Aw.Good Tryz.prog none 9 (bodyPost Tryz.prog Tryz.f138 (RR cx (iv (loopF (S138_L_L_0 a0 a1) n0 (v3, v4))) [] [])) cx [] (.l B138_L_L_0 n0 :: K138_L_L_0) (st138_L_L_0 a0 a1 v3 v4)) : ∀ (n : Nat) (v5 : Int) (v6 : Int) (v7 : Int) (v8 : Int) (v9 : Int) (v10 : Int), (0 ≤ v7) ∧ ((0 ≤ v6)) ∧ (v6 < ((a0.length : Nat) : Int)) ∧ (Int.toNat (((a0.length : Nat) : Int) - v6) < n0 + 1) → Int.toNat (((a1.length : Nat) : Int) - v7) < n → Aw.Good Tryz.prog none 9 (bodyPost Tryz.prog Tryz.f138 (RR cx (iv (thenF (S138_L_L_0 a0 a1) n0 (loopF (S138_L_L_1 a0 a1) n (v5, v6, v7, v8, v9, v10)))) [] [])) cx [] (.l B138_L_L_1 n :: K138_L_L_1 n0) (st138_L_L_1 a0 a1 v5 v6 v7 v8 v9 v10) := by
  intro n
  induction n with
  | zero => intro v5 v6 v7 v8 v9 v10 hi hn; exact absurd hn (Nat.not_lt_zero _)
  | succ n ih =>
    intro v5 v6 v7 v8 v9 v10 hi hn
    refine good_round ?_
    cases h0 : (decide ((v7 : Int) < ((a1.length : Nat) : Int))) with
    | true =>
     have q0 := of_decide_eq_true h0
     have e := Eq.refl (S138_L_L_1 a0 a1 (v5, v6, v7, v8, v9, v10)); conv at e => rhs; simp only [S138_L_L_1, h0, cond_true, cond_false]
     rw [loopF_inl e]
     refine ba [.d h0, .i v7 (a1.length), .L c59_len a1 v7 0 3, .c [] (C190 (v8, v9, v10) (a1.getD (Int.toNat v7) default)), .c [] (C192 (F190 (v8, v9, v10) (a1.getD (Int.toNat v7) default)) (F190 (v8, v9, v10) (a1.getD (Int.toNat v7) default)))] [] [1, 5, 7, 11, 12, 13, 17, 18, 19] [2] hcx (m := n) B138_L_L_1 (K138_L_L_1 n0) (st138_L_L_1 a0 a1 (if (v5 : Int) < (F192 (F190 (v8, v9, v10) (a1.getD (Int.toNat v7) default)) (F190 (v8, v9, v10) (a1.getD (Int.toNat v7) default))) then (F192 (F190 (v8, v9, v10) (a1.getD (Int.toNat v7) default)) (F190 (v8, v9, v10) (a1.getD (Int.toNat v7) default))) else v5) v6 (W (v7 + 1)) v8 v9 v10) (by kernel_rfl) ?_
     have z0 : (W (v7 + 1)) = (v7 + 1) := W_eq (by omega) (by omega)
     rw [z0]
     exact ih (if (v5 : Int) < (F192 (F190 (v8, v9, v10) (a1.getD (Int.toNat v7) default)) (F190 (v8, v9, v10) (a1.getD (Int.toNat v7) default))) then (F192 (F190 (v8, v9, v10) (a1.getD (Int.toNat v7) default)) (F190 (v8, v9, v10) (a1.getD (Int.toNat v7) default))) else v5) v6 (v7 + 1) v8 v9 v10 (by refine ⟨?_, ?_, ?_, ?_⟩ <;> (try simp only [List.length_append, List.length_cons, List.length_nil, Int.toNat_zero]) <;> first | omega | assumption | simp) (by (try simp only [List.length_append, List.length_cons, List.length_nil, Int.toNat_zero]); omega)
    | false =>
     have q0 := of_decide_eq_false h0
     have e := Eq.refl (S138_L_L_1 a0 a1 (v5, v6, v7, v8, v9, v10)); conv at e => rhs; simp only [S138_L_L_1, h0, cond_true, cond_false]
     rw [loopF_s, e]
     refine ba [.d h0] [] [1, 5, 11, 12, 13] [] hcx (m := n0) B138_L_L_0 (K138_L_L_0) (st138_L_L_0 a0 a1 v5 (W (v6 + 1))) (by kernel_rfl) ?_
     have z0 : (W (v6 + 1)) = (v6 + 1) := W_eq (by omega) (by omega)
     rw [z0]
     exact g0 v5 (v6 + 1) (by (try simp only [List.length_append, List.length_cons, List.length_nil, Int.toNat_zero]); omega) (by (try simp only [List.length_append, List.length_cons, List.length_nil, Int.toNat_zero]); omega)

set_option maxHeartbeats 4000000 in
theorem L138_L_L_0 (a0 : List (Int × Int × Int)) (a1 : List (Int × Int × Int)) (l0 : a0.length ≤ 9223372036854775807) (l1 : a1.length ≤ 9223372036854775807) {cx : Cx} (hcx : cx.base = 2) : ∀ (n : Nat) (v3 : Int) (v4 : Int), 0 ≤ v4 → Int.toNat (((a0.length : Nat) : Int) - v4) < n → Aw.Good Tryz.prog none 9 (bodyPost Tryz.prog Tryz.f138 (RR cx (iv (loopF (S138_L_L_0 a0 a1) n (v3, v4))) [] [])) cx [] (.l B138_L_L_0 n :: K138_L_L_0) (st138_L_L_0 a0 a1 v3 v4) := by
  intro n
  induction n with
  | zero => intro v3 v4 hi hn; exact absurd hn (Nat.not_lt_zero _)
  | succ n ih =>
    intro v3 v4 hi hn
    refine good_round ?_
    cases h0 : (decide ((v4 : Int) < ((a0.length : Nat) : Int))) with
    | true =>
     have q0 := of_decide_eq_true h0
     have e := Eq.refl (S138_L_L_0 a0 a1 (v3, v4)); conv at e => rhs; simp only [S138_L_L_0, h0, cond_true, cond_false]
     rw [loopF_s, e]
     refine en [.d h0, .i v4 (a0.length), .L c59_len a0 v4 0 3] [] [1, 5, 7, 11, 12, 13, 17, 18, 19] [2] hcx B138_L_L_1 (K138_L_L_1 n) (st138_L_L_1 a0 a1 v3 v4 0 ((a0.getD (Int.toNat v4) default).1) ((a0.getD (Int.toNat v4) default).2.1) ((a0.getD (Int.toNat v4) default).2.2)) (Int.toNat (((a1.length : Nat) : Int) - 0) + 1) (by kernel_rfl) ?_
     exact L138_L_L_1 a0 a1 l0 l1 hcx n ih (Int.toNat (((a1.length : Nat) : Int) - 0) + 1) v3 v4 0 ((a0.getD (Int.toNat v4) default).1) ((a0.getD (Int.toNat v4) default).2.1) ((a0.getD (Int.toNat v4) default).2.2) (by refine ⟨?_, ?_, ?_, ?_⟩ <;> (try simp only [List.length_append, List.length_cons, List.length_nil, Int.toNat_zero]) <;> first | omega | assumption | simp) (by (try simp only [List.length_append, List.length_cons, List.length_nil, Int.toNat_zero]); omega)
    | false =>
     have q0 := of_decide_eq_false h0
     have e := Eq.refl (S138_L_L_0 a0 a1 (v3, v4)); conv at e => rhs; simp only [S138_L_L_0, h0, cond_true, cond_false]
     rw [loopF_s, e]
     exact rt [.d h0] [] [] hcx (by kernel_rfl)

def F138_L_L (a0 : List (Int × Int × Int)) (a1 : List (Int × Int × Int)) : Int :=
  (loopF (S138_L_L_0 a0 a1) (Int.toNat (((a0.length : Nat) : Int) - 0) + 1) (0, 0))

theorem C138_L_L (a0 : List (Int × Int × Int)) (a1 : List (Int × Int × Int)) (l0 : a0.length ≤ 9223372036854775807) (l1 : a1.length ≤ 9223372036854775807) : Con Tryz.prog 138 [(.s 0 0 a0.length 3), (.s 1 0 a1.length 3)] [(.live false true (flat c59 a0)), (.live false true (flat c59 a1))] (iv (F138_L_L a0 a1)) [] := by
  refine con_s Tryz.func138 (by kernel_rfl) fun cx hcx => ?_
  have e := Eq.refl (F138_L_L a0 a1); conv at e => rhs; simp only [F138_L_L]
  rw [e]
  refine en [] [] [1, 5, 11, 12, 13] [] hcx B138_L_L_0 (K138_L_L_0) (st138_L_L_0 a0 a1 0 0) (Int.toNat (((a0.length : Nat) : Int) - 0) + 1) (by kernel_rfl) ?_
  exact L138_L_L_0 a0 a1 l0 l1 hcx (Int.toNat (((a0.length : Nat) : Int) - 0) + 1) 0 0 (by (try simp only [List.length_append, List.length_cons, List.length_nil, Int.toNat_zero]); omega) (by (try simp only [List.length_append, List.length_cons, List.length_nil, Int.toNat_zero]); omega)

noncomputable def B229_0 : Code := match (codeAtD [1] [] (bodyOf Tryz.f229)).1 with
  | .scope c => c
  | _ => .skip
noncomputable def K229_0 : List K := (codeAtD [1] [] (bodyOf Tryz.f229)).2
noncomputable def R229_0 : Code := (findLabel B229_0 0).getD .skip

def st229_0 (a0 : Int) (v1 : Int) (v2 : Int) : LS := ⟨slN 22 [(0, (iv a0)), (3, (iv v1)), (4, (iv v2))], []⟩

def S229_0 (a0 : Int) : Int × Int → (Int × Int) ⊕ (Int)
  | (v1, v2) =>
   (bif ((v2 : Int) == 0) then
    (.inr v1)
   else
    (bif (decide (((W ((W (v1 + v2)) * (W (v1 + v2)))) : Int) ≤ a0)) then
     (.inl ((W (v1 + v2)), (v2 / 2)))
    else
     (.inl (v1, (v2 / 2)))))

set_option maxHeartbeats 4000000 in
theorem L229_0 (a0 : Int) {cx : Cx} (hcx : cx.base = 0) : ∀ (n : Nat) (v1 : Int) (v2 : Int), 0 ≤ v2 → Int.toNat v2 < n → Aw.Good Tryz.prog none 9 (bodyPost Tryz.prog Tryz.f229 (RR cx (iv (loopF (S229_0 a0) n (v1, v2))) [] [])) cx [] (.c (.goto 0) :: .s B229_0 n :: K229_0) (st229_0 a0 v1 v2) := by
  intro n
  induction n with
  | zero => intro v1 v2 hi hn; exact absurd hn (Nat.not_lt_zero _)
  | succ n ih =>
    intro v1 v2 hi hn
    refine good_jump (rest := R229_0) (by kernel_rfl) ?_
    cases h0 : ((v2 : Int) == 0) with
    | true =>
     have q0 := eq_of_beq h0
     have e := Eq.refl (S229_0 a0 (v1, v2)); conv at e => rhs; simp only [S229_0, h0, cond_true, cond_false]
     rw [loopF_s, e]
     exact rt [.d h0] [] [] hcx (by kernel_rfl)
    | false =>
     have q0 := ne_of_beq_false h0
     let t1 : List (St Tryz.prog) := [.d h0]
     cases h1 : (decide (((W ((W (v1 + v2)) * (W (v1 + v2)))) : Int) ≤ a0)) with
     | true =>
      have q1 := of_decide_eq_true h1
      have e := Eq.refl (S229_0 a0 (v1, v2)); conv at e => rhs; simp only [S229_0, h0, h1, cond_true, cond_false]
      rw [loopF_inl e]
      refine ga (t1 ++ [.d h1, .p (show 0 ≤ (1 : Int) from by decide)]) [] [0, 3, 4] [] hcx (.goto 0) (.s B229_0 n :: K229_0) (st229_0 a0 (W (v1 + v2)) (Int.fdiv v2 (2 ^ (min (Int.toNat 1) 64)))) (by kernel_rfl) ?_
      have z0 : (Int.fdiv v2 (2 ^ (min (Int.toNat 1) 64))) = (v2 / 2) := shr_eq _ 1 (by decide)
      rw [z0]
      exact ih (W (v1 + v2)) (v2 / 2) (by (try simp only [List.length_append, List.length_cons, List.length_nil, Int.toNat_zero]); omega) (by omega)
     | false =>
      have q1 := of_decide_eq_false h1
      have e := Eq.refl (S229_0 a0 (v1, v2)); conv at e => rhs; simp only [S229_0, h0, h1, cond_true, cond_false]
      rw [loopF_inl e]
      refine ga (t1 ++ [.d h1, .p (show 0 ≤ (1 : Int) from by decide)]) [] [0, 3, 4] [] hcx (.goto 0) (.s B229_0 n :: K229_0) (st229_0 a0 v1 (Int.fdiv v2 (2 ^ (min (Int.toNat 1) 64)))) (by kernel_rfl) ?_
      have z0 : (Int.fdiv v2 (2 ^ (min (Int.toNat 1) 64))) = (v2 / 2) := shr_eq _ 1 (by decide)
      rw [z0]
      exact ih v1 (v2 / 2) (by (try simp only [List.length_append, List.length_cons, List.length_nil, Int.toNat_zero]); omega) (by omega)

def F229 (a0 : Int) : Int :=
  (bif (decide ((4611686018427387904 : Int) ≤ a0)) then
   (loopF (S229_0 a0) (Int.toNat 1073741824 + 1) (2147483648, 1073741824))
  else
   (loopF (S229_0 a0) (Int.toNat 1073741824 + 1) (0, 1073741824)))

theorem C229 (a0 : Int) : Con Tryz.prog 229 [(iv a0)] [] (iv (F229 a0)) [] := by
  refine con_s Tryz.func229 (by kernel_rfl) fun cx hcx => ?_
  cases h0 : (decide ((4611686018427387904 : Int) ≤ a0)) with
  | true =>
   have q0 := of_decide_eq_true h0
   have e := Eq.refl (F229 a0); conv at e => rhs; simp only [F229, h0, cond_true, cond_false]
   rw [e]
   refine ga [.u (Int.toNat 1073741824 + 1), .F, .d h0, .p (show 0 ≤ (1 : Int) from by decide)] [] [0, 3, 4] [] hcx (.goto 0) (.s B229_0 (Int.toNat 1073741824 + 1) :: K229_0) (st229_0 a0 2147483648 1073741824) (by kernel_rfl) ?_
   exact L229_0 a0 hcx (Int.toNat 1073741824 + 1) 2147483648 1073741824 (by (try simp only [List.length_append, List.length_cons, List.length_nil, Int.toNat_zero]); omega) (by omega)
  | false =>
   have q0 := of_decide_eq_false h0
   have e := Eq.refl (F229 a0); conv at e => rhs; simp only [F229, h0, cond_true, cond_false]
   rw [e]
   refine ga [.u (Int.toNat 1073741824 + 1), .F, .d h0, .p (show 0 ≤ (1 : Int) from by decide)] [] [0, 3, 4] [] hcx (.goto 0) (.s B229_0 (Int.toNat 1073741824 + 1) :: K229_0) (st229_0 a0 0 1073741824) (by kernel_rfl) ?_
   exact L229_0 a0 hcx (Int.toNat 1073741824 + 1) 0 1073741824 (by (try simp only [List.length_append, List.length_cons, List.length_nil, Int.toNat_zero]); omega) (by omega)

def F76 (a0 : Int × Int) : Bool :=
  (bif (decide ((a0.1 : Int) ≥ (-1099511627776))) then
   (bif (decide ((a0.1 : Int) ≤ a0.2)) then
    (decide ((a0.2 : Int) ≤ 1099511627776))
   else
    false)
  else
   false)

theorem C76 (a0 : Int × Int) : Con Tryz.prog 76 [(.a [(iv a0.1), (iv a0.2)])] [] (.v (.bool (F76 a0))) [] := by
  refine con_s Tryz.func76 (by kernel_rfl) fun cx hcx => ?_
  cases h0 : (decide ((a0.1 : Int) ≥ (-1099511627776))) with
  | true =>
   have q0 := of_decide_eq_true h0
   let t1 : List (St Tryz.prog) := [.d h0]
   cases h1 : (decide ((a0.1 : Int) ≤ a0.2)) with
   | true =>
    have q1 := of_decide_eq_true h1
    have e := Eq.refl (F76 a0); conv at e => rhs; simp only [F76, h0, h1, cond_true, cond_false]
    rw [e]
    exact rt (t1 ++ [.d h1]) [] [] hcx (by kernel_rfl)
   | false =>
    have q1 := of_decide_eq_false h1
    have e := Eq.refl (F76 a0); conv at e => rhs; simp only [F76, h0, h1, cond_true, cond_false]
    rw [e]
    exact rt (t1 ++ [.d h1]) [] [] hcx (by kernel_rfl)
  | false =>
   have q0 := of_decide_eq_false h0
   have e := Eq.refl (F76 a0); conv at e => rhs; simp only [F76, h0, cond_true, cond_false]
   rw [e]
   exact rt [.d h0] [] [] hcx (by kernel_rfl)

def F113 (a0 : Int) (a1 : Int) : (Int × Int) × Int :=
  (bif (!(F76 (a0, a1))) then
   ((0, 0), 4)
  else
   ((a0, a1), 0))

theorem C113 (a0 : Int) (a1 : Int) : Con Tryz.prog 113 [(iv a0), (iv a1)] [] (.t [(.a (k2 (F113 a0 a1).1)), (iv (F113 a0 a1).2)]) [] := by
  refine con_s Tryz.func113 (by kernel_rfl) fun cx hcx => ?_
  let t0 : List (St Tryz.prog) := [.c [] (C76 (a0, a1))]
  cases h0 : (!(F76 (a0, a1))) with
  | true =>
   have e := Eq.refl (F113 a0 a1); conv at e => rhs; simp only [F113, h0, cond_true, cond_false]
   rw [e]
   exact rt (t0 ++ [.d h0]) [] [] hcx (by kernel_rfl)
  | false =>
   have e := Eq.refl (F113 a0 a1); conv at e => rhs; simp only [F113, h0, cond_true, cond_false]
   rw [e]
   exact rt (t0 ++ [.d h0]) [] [] hcx (by kernel_rfl)

def F196 (a0 : Int) (a1 : Int) : (Int × Int) × Int :=
  (bif (((W ((W ((F229 (W (Int.tdiv a0 a1))) * (F229 (W (Int.tdiv a0 a1))))) * a1)) : Int) == a0) then
   ((F113 (F229 (W (Int.tdiv a0 a1))) (F229 (W (Int.tdiv a0 a1)))).1, (F113 (F229 (W (Int.tdiv a0 a1))) (F229 (W (Int.tdiv a0 a1)))).2)
  else
   ((F113 (F229 (W (Int.tdiv a0 a1))) (W ((F229 (W (Int.tdiv a0 a1))) + 1))).1, (F113 (F229 (W (Int.tdiv a0 a1))) (W ((F229 (W (Int.tdiv a0 a1))) + 1))).2))

theorem C196 (a0 : Int) (a1 : Int) (ha : a1 ≠ 0) : Con Tryz.prog 196 [(iv a0), (iv a1)] [] (.t [(.a (k2 (F196 a0 a1).1)), (iv (F196 a0 a1).2)]) [] := by
  refine con_s Tryz.func196 (by kernel_rfl) fun cx hcx => ?_
  let t0 : List (St Tryz.prog) := [.p (show (a1 : Int) ≠ 0 from by first | omega | (rw [W_eq] <;> omega) | exact u64_nn _), .c [] (C229 (W (Int.tdiv a0 a1)))]
  cases h0 : (((W ((W ((F229 (W (Int.tdiv a0 a1))) * (F229 (W (Int.tdiv a0 a1))))) * a1)) : Int) == a0) with
  | true =>
   have q0 := eq_of_beq h0
   have e := Eq.refl (F196 a0 a1); conv at e => rhs; simp only [F196, h0, cond_true, cond_false]
   rw [e]
   exact rt (t0 ++ [.d h0, .c [] (C113 (F229 (W (Int.tdiv a0 a1))) (F229 (W (Int.tdiv a0 a1))))]) [] [] hcx (by kernel_rfl)
  | false =>
   have q0 := ne_of_beq_false h0
   have e := Eq.refl (F196 a0 a1); conv at e => rhs; simp only [F196, h0, cond_true, cond_false]
   rw [e]
   exact rt (t0 ++ [.d h0, .c [] (C113 (F229 (W (Int.tdiv a0 a1))) (W ((F229 (W (Int.tdiv a0 a1))) + 1)))]) [] [] hcx (by kernel_rfl)

def F137 (a0 : Int) (a1 : Int) : (Int × Int) × Int :=
  (bif (decide ((a0 : Int) < 1)) then
   ((0, 0), 1)
  else
   (bif (decide ((a0 : Int) > 1099511627776)) then
    ((0, 0), 1)
   else
    (bif (decide ((a1 : Int) < 1)) then
     ((0, 0), 1)
    else
     (bif (decide ((a1 : Int) > 8)) then
      ((0, 0), 1)
     else
      ((F196 (W ((W (a1 * a1)) * 2 ^ (min (Int.toNat 40) 64))) a0).1, (F196 (W ((W (a1 * a1)) * 2 ^ (min (Int.toNat 40) 64))) a0).2)))))

theorem C137 (a0 : Int) (a1 : Int) : Con Tryz.prog 137 [(iv a0), (iv a1)] [] (.t [(.a (k2 (F137 a0 a1).1)), (iv (F137 a0 a1).2)]) [] := by
  refine con_s Tryz.func137 (by kernel_rfl) fun cx hcx => ?_
  cases h0 : (decide ((a0 : Int) < 1)) with
  | true =>
   have q0 := of_decide_eq_true h0
   have e := Eq.refl (F137 a0 a1); conv at e => rhs; simp only [F137, h0, cond_true, cond_false]
   rw [e]
   exact rt [.d h0] [] [] hcx (by kernel_rfl)
  | false =>
   have q0 := of_decide_eq_false h0
   let t1 : List (St Tryz.prog) := [.d h0]
   cases h1 : (decide ((a0 : Int) > 1099511627776)) with
   | true =>
    have q1 := of_decide_eq_true h1
    have e := Eq.refl (F137 a0 a1); conv at e => rhs; simp only [F137, h0, h1, cond_true, cond_false]
    rw [e]
    exact rt (t1 ++ [.d h1]) [] [] hcx (by kernel_rfl)
   | false =>
    have q1 := of_decide_eq_false h1
    let t2 : List (St Tryz.prog) := (t1 ++ [.d h1])
    cases h2 : (decide ((a1 : Int) < 1)) with
    | true =>
     have q2 := of_decide_eq_true h2
     have e := Eq.refl (F137 a0 a1); conv at e => rhs; simp only [F137, h0, h1, h2, cond_true, cond_false]
     rw [e]
     exact rt (t2 ++ [.d h2]) [] [] hcx (by kernel_rfl)
    | false =>
     have q2 := of_decide_eq_false h2
     let t3 : List (St Tryz.prog) := (t2 ++ [.d h2])
     cases h3 : (decide ((a1 : Int) > 8)) with
     | true =>
      have q3 := of_decide_eq_true h3
      have e := Eq.refl (F137 a0 a1); conv at e => rhs; simp only [F137, h0, h1, h2, h3, cond_true, cond_false]
      rw [e]
      exact rt (t3 ++ [.d h3]) [] [] hcx (by kernel_rfl)
     | false =>
      have q3 := of_decide_eq_false h3
      have e := Eq.refl (F137 a0 a1); conv at e => rhs; simp only [F137, h0, h1, h2, h3, cond_true, cond_false]
      rw [e]
      exact rt (t3 ++ [.d h3, .p (show 0 ≤ (40 : Int) from by decide), .c [] (C196 (W ((W (a1 * a1)) * 2 ^ (min (Int.toNat 40) 64))) a0  (by (try simp only [List.length_append, List.length_cons, List.length_nil, Int.toNat_zero]); omega))]) [] [] hcx (by kernel_rfl)

def F150_1 (a0 : Int × Int) : Int :=
  (bif (!(F76 a0)) then
   1
  else
   0)

theorem C150_1 (a0 : Int × Int) : Con Tryz.prog 150 [(.s 0 0 1 2)] [(.live false false [(iv a0.1), (iv a0.2)])] (iv (F150_1 a0)) [] := by
  refine con_s Tryz.func150 (by kernel_rfl) fun cx hcx => ?_
  let t0 : List (St Tryz.prog) := [.u 200, .T, .i 0 1 (by decide), .c [] (C76 a0)]
  cases h0 : (!(F76 a0)) with
  | true =>
   have e := Eq.refl (F150_1 a0); conv at e => rhs; simp only [F150_1, h0, cond_true, cond_false]
   rw [e]
   exact rt (t0 ++ [.d h0]) [] [] hcx (by kernel_rfl)
  | false =>
   have e := Eq.refl (F150_1 a0); conv at e => rhs; simp only [F150_1, h0, cond_true, cond_false]
   rw [e]
   exact rt (t0 ++ [.d h0, .u 0, .F]) [] [] hcx (by kernel_rfl)

def F230 (a0 : Int) (a1 : Int) : Int :=
  (bif (((Int.tmod a0 a1) : Int) != 0) then
   (bif (!((decide ((a0 : Int) < 0)) == (decide ((a1 : Int) < 0)))) then
    (W ((W (Int.tdiv a0 a1)) - 1))
   else
    (W (Int.tdiv a0 a1)))
  else
   (W (Int.tdiv a0 a1)))

theorem C230 (a0 : Int) (a1 : Int) (ha : a1 ≠ 0) : Con Tryz.prog 230 [(iv a0), (iv a1)] [] (iv (F230 a0 a1)) [] := by
  refine con_s Tryz.func230 (by kernel_rfl) fun cx hcx => ?_
  let t0 : List (St Tryz.prog) := [.p (show (a1 : Int) ≠ 0 from by first | omega | (rw [W_eq] <;> omega) | exact u64_nn _), .p (show (a1 : Int) ≠ 0 from by first | omega | (rw [W_eq] <;> omega) | exact u64_nn _)]
  cases h0 : (((Int.tmod a0 a1) : Int) != 0) with
  | true =>
   have q0 := bne_iff_ne.1 h0
   let t1 : List (St Tryz.prog) := (t0 ++ [.d h0])
   cases h1 : (!((decide ((a0 : Int) < 0)) == (decide ((a1 : Int) < 0)))) with
   | true =>
    have e := Eq.refl (F230 a0 a1); conv at e => rhs; simp only [F230, h0, h1, cond_true, cond_false]
    rw [e]
    exact rt (t1 ++ [.d h1]) [] [] hcx (by kernel_rfl)
   | false =>
    have e := Eq.refl (F230 a0 a1); conv at e => rhs; simp only [F230, h0, h1, cond_true, cond_false]
    rw [e]
    exact rt (t1 ++ [.d h1]) [] [] hcx (by kernel_rfl)
  | false =>
   have q0 := bne_eq_false_iff_eq.1 h0
   have e := Eq.refl (F230 a0 a1); conv at e => rhs; simp only [F230, h0, cond_true, cond_false]
   rw [e]
   exact rt (t0 ++ [.d h0]) [] [] hcx (by kernel_rfl)

def F231 (a0 : Int) (a1 : Int) : Int :=
  (W (0 - (F230 (W (0 - a0)) a1)))

theorem C231 (a0 : Int) (a1 : Int) (ha : a1 ≠ 0) : Con Tryz.prog 231 [(iv a0), (iv a1)] [] (iv (F231 a0 a1)) [] := by
  refine con_s Tryz.func231 (by kernel_rfl) fun cx hcx => ?_
  have e := Eq.refl (F231 a0 a1); conv at e => rhs; simp only [F231]
  rw [e]
  exact rt [.c [] (C230 (W (0 - a0)) a1  (by (try simp only [List.length_append, List.length_cons, List.length_nil, Int.toNat_zero]); omega))] [] [] hcx (by kernel_rfl)

def F199 (a0 : Int × Int) (a1 : Int) : (Int × Int) × Int :=
  (bif (((F150_1 a0) : Int) != 0) then
   ((0, 0), (F150_1 a0))
  else
   (bif (decide ((a1 : Int) < 1)) then
    ((0, 0), 1)
   else
    (bif (decide ((a1 : Int) > 1099511627776)) then
     ((0, 0), 1)
    else
     ((F113 (F230 a0.1 a1) (F231 a0.2 a1)).1, (F113 (F230 a0.1 a1) (F231 a0.2 a1)).2))))

theorem C199 (a0 : Int × Int) (a1 : Int) : Con Tryz.prog 199 [(.a [(iv a0.1), (iv a0.2)]), (iv a1)] [] (.t [(.a (k2 (F199 a0 a1).1)), (iv (F199 a0 a1).2)]) [] := by
  refine con_s Tryz.func199 (by kernel_rfl) fun cx hcx => ?_
  let t0 : List (St Tryz.prog) := [.c [2] (C150_1 a0)]
  cases h0 : (((F150_1 a0) : Int) != 0) with
  | true =>
   have q0 := bne_iff_ne.1 h0
   have e := Eq.refl (F199 a0 a1); conv at e => rhs; simp only [F199, h0, cond_true, cond_false]
   rw [e]
   exact rt (t0 ++ [.d h0]) [] [] hcx (by kernel_rfl)
  | false =>
   have q0 := bne_eq_false_iff_eq.1 h0
   let t1 : List (St Tryz.prog) := (t0 ++ [.d h0])
   cases h1 : (decide ((a1 : Int) < 1)) with
   | true =>
    have q1 := of_decide_eq_true h1
    have e := Eq.refl (F199 a0 a1); conv at e => rhs; simp only [F199, h0, h1, cond_true, cond_false]
    rw [e]
    exact rt (t1 ++ [.d h1]) [] [] hcx (by kernel_rfl)
   | false =>
    have q1 := of_decide_eq_false h1
    let t2 : List (St Tryz.prog) := (t1 ++ [.d h1])
    cases h2 : (decide ((a1 : Int) > 1099511627776)) with
    | true =>
     have q2 := of_decide_eq_true h2
     have e := Eq.refl (F199 a0 a1); conv at e => rhs; simp only [F199, h0, h1, h2, cond_true, cond_false]
     rw [e]
     exact rt (t2 ++ [.d h2]) [] [] hcx (by kernel_rfl)
    | false =>
     have q2 := of_decide_eq_false h2
     have e := Eq.refl (F199 a0 a1); conv at e => rhs; simp only [F199, h0, h1, h2, cond_true, cond_false]
     rw [e]
     exact rt (t2 ++ [.d h2, .c [] (C230 a0.1 a1  (by (try simp only [List.length_append, List.length_cons, List.length_nil, Int.toNat_zero]); omega)), .c [] (C231 a0.2 a1  (by (try simp only [List.length_append, List.length_cons, List.length_nil, Int.toNat_zero]); omega)), .c [] (C113 (F230 a0.1 a1) (F231 a0.2 a1))]) [] [] hcx (by kernel_rfl)

def c36 (x : Int × Int) : List SV := [(iv x.1), (iv x.2)]
theorem c36_len (x : Int × Int) : (c36 x).length = 2 := rfl

def c85 (x : ((Int × Int × Int) × (Int × Int × Int) × Int × Int × Int) × Int) : List SV := [(iv x.1.1.1), (iv x.1.1.2.1), (iv x.1.1.2.2), (iv x.1.2.1.1), (iv x.1.2.1.2.1), (iv x.1.2.1.2.2), (iv x.1.2.2.1), (iv x.1.2.2.2.1), (iv x.1.2.2.2.2), (iv x.2)]
theorem c85_len (x : ((Int × Int × Int) × (Int × Int × Int) × Int × Int × Int) × Int) : (c85 x).length = 10 := rfl

noncomputable def B41_L_0 : Code := (loopAtD [1, 1, 0, 1] [] (bodyOf Tryz.f41) []).1
noncomputable def K41_L_0 : List K := (loopAtD [1, 1, 0, 1] [] (bodyOf Tryz.f41) []).2

def st41_L_0 (a0 : List (((Int × Int × Int) × (Int × Int × Int) × Int × Int × Int) × Int)) (v1 : Int) : LS := ⟨slN 26 [(9, (.s 0 0 a0.length 10)), (10, (iv ((a0.length : Nat) : Int))), (11, (iv v1))], [(.live false true (flat c85 a0))]⟩

def S41_L_0 (a0 : List (((Int × Int × Int) × (Int × Int × Int) × Int × Int × Int) × Int)) : Int → (Int) ⊕ (Int)
  | v1 =>
   (bif (decide ((v1 : Int) < ((a0.length : Nat) : Int))) then
    (bif (((F81 (a0.getD (Int.toNat v1) default).1) : Int) != 0) then
     (.inr (F81 (a0.getD (Int.toNat v1) default).1))
    else
     (bif (!(F82 (a0.getD (Int.toNat v1) default).2 (-100) 100)) then
      (.inr 1)
     else
      (.inl (v1 + 1))))
   else
    (.inr 0))

set_option maxHeartbeats 4000000 in
theorem L41_L_0 (a0 : List (((Int × Int × Int) × (Int × Int × Int) × Int × Int × Int) × Int)) (l0 : a0.length ≤ 9223372036854775807) {cx : Cx} (hcx : cx.base = 1) : ∀ (n : Nat) (v1 : Int), 0 ≤ v1 → Int.toNat (((a0.length : Nat) : Int) - v1) < n → Aw.Good Tryz.prog none 9 (bodyPost Tryz.prog Tryz.f41 (RR cx (iv (loopF (S41_L_0 a0) n v1)) [] [])) cx [] (.l B41_L_0 n :: K41_L_0) (st41_L_0 a0 v1) := by
  intro n
  induction n with
  | zero => intro v1 hi hn; exact absurd hn (Nat.not_lt_zero _)
  | succ n ih =>
    intro v1 hi hn
    refine good_round ?_
    cases h0 : (decide ((v1 : Int) < ((a0.length : Nat) : Int))) with
    | true =>
     have q0 := of_decide_eq_true h0
     let t1 : List (St Tryz.prog) := [.d h0, .i v1 (a0.length), .L c85_len a0 v1 0 10, .c [] (C81 (a0.getD (Int.toNat v1) default).1)]
     cases h1 : (((F81 (a0.getD (Int.toNat v1) default).1) : Int) != 0) with
     | true =>
      have q1 := bne_iff_ne.1 h1
      have e := Eq.refl (S41_L_0 a0 v1); conv at e => rhs; simp only [S41_L_0, h0, h1, cond_true, cond_false]
      rw [loopF_s, e]
      exact rt (t1 ++ [.d h1]) [] [] hcx (by kernel_rfl)
     | false =>
      have q1 := bne_eq_false_iff_eq.1 h1
      let t2 : List (St Tryz.prog) := (t1 ++ [.d h1, .c [] (C82 (a0.getD (Int.toNat v1) default).2 (-100) 100)])
      cases h2 : (!(F82 (a0.getD (Int.toNat v1) default).2 (-100) 100)) with
      | true =>
       have e := Eq.refl (S41_L_0 a0 v1); conv at e => rhs; simp only [S41_L_0, h0, h1, h2, cond_true, cond_false]
       rw [loopF_s, e]
       exact rt (t2 ++ [.d h2]) [] [] hcx (by kernel_rfl)
      | false =>
       have e := Eq.refl (S41_L_0 a0 v1); conv at e => rhs; simp only [S41_L_0, h0, h1, h2, cond_true, cond_false]
       rw [loopF_inl e]
       refine ba (t2 ++ [.d h2]) [] [9, 10, 11] [] hcx (m := n) B41_L_0 (K41_L_0) (st41_L_0 a0 (W (v1 + 1))) (by kernel_rfl) ?_
       have z0 : (W (v1 + 1)) = (v1 + 1) := W_eq (by omega) (by omega)
       rw [z0]
       exact ih (v1 + 1) (by (try simp only [List.length_append, List.length_cons, List.length_nil, Int.toNat_zero]); omega) (by (try simp only [List.length_append, List.length_cons, List.length_nil, Int.toNat_zero]); omega)
    | false =>
     have q0 := of_decide_eq_false h0
     have e := Eq.refl (S41_L_0 a0 v1); conv at e => rhs; simp only [S41_L_0, h0, cond_true, cond_false]
     rw [loopF_s, e]
     exact rt [.d h0] [] [] hcx (by kernel_rfl)

def F41_L (a0 : List (((Int × Int × Int) × (Int × Int × Int) × Int × Int × Int) × Int)) : Int :=
  (bif (decide ((((a0.length : Nat) : Int) : Int) > 96)) then
   4
  else
   (loopF (S41_L_0 a0) (Int.toNat (((a0.length : Nat) : Int) - 0) + 1) 0))

theorem C41_L (a0 : List (((Int × Int × Int) × (Int × Int × Int) × Int × Int × Int) × Int)) (l0 : a0.length ≤ 9223372036854775807) : Con Tryz.prog 41 [(.s 0 0 a0.length 10)] [(.live false true (flat c85 a0))] (iv (F41_L a0)) [] := by
  refine con_s Tryz.func41 (by kernel_rfl) fun cx hcx => ?_
  cases h0 : (decide ((((a0.length : Nat) : Int) : Int) > 96)) with
  | true =>
   have q0 := of_decide_eq_true h0
   have e := Eq.refl (F41_L a0); conv at e => rhs; simp only [F41_L, h0, cond_true, cond_false]
   rw [e]
   exact rt [.d h0] [] [] hcx (by kernel_rfl)
  | false =>
   have q0 := of_decide_eq_false h0
   have e := Eq.refl (F41_L a0); conv at e => rhs; simp only [F41_L, h0, cond_true, cond_false]
   rw [e]
   refine en [.d h0] [] [9, 10, 11] [] hcx B41_L_0 (K41_L_0) (st41_L_0 a0 0) (Int.toNat (((a0.length : Nat) : Int) - 0) + 1) (by kernel_rfl) ?_
   exact L41_L_0 a0 l0 hcx (Int.toNat (((a0.length : Nat) : Int) - 0) + 1) 0 (by (try simp only [List.length_append, List.length_cons, List.length_nil, Int.toNat_zero]); omega) (by (try simp only [List.length_append, List.length_cons, List.length_nil, Int.toNat_zero]); omega)

end Go.Proofs.YtnbpiejjeeomkaaGreat

namespace Go.Proofs.YtnbpiejjeeomkaaGreat
open Go.Proofs Go.Aw Go.RowKit
set_option maxRecDepth 100000
set_option linter.unusedVariables false
set_option linter.unusedSimpArgs false

def F124 (a0 : Int) (a1 : Int) (a2 : Int) : Bool :=
  (bif (decide ((a0 : Int) ≥ a1)) then
   (decide ((a0 : Int) ≤ a2))
  else
   false)

theorem C124 (a0 : Int) (a1 : Int) (a2 : Int) : Con Tryz.prog 124 [(iv a0), (iv a1), (iv a2)] [] (.v (.bool (F124 a0 a1 a2))) [] := by
  refine con_s Tryz.func124 (by kernel_rfl) fun cx hcx => ?_
  cases h0 : (decide ((a0 : Int) ≥ a1)) with
  | true =>
   have q0 := of_decide_eq_true h0
   have e := Eq.refl (F124 a0 a1 a2); conv at e => rhs; simp only [F124, h0, cond_true, cond_false]
   rw [e]
   exact rt [.d h0] [] [] hcx (by kernel_rfl)
  | false =>
   have q0 := of_decide_eq_false h0
   have e := Eq.refl (F124 a0 a1 a2); conv at e => rhs; simp only [F124, h0, cond_true, cond_false]
   rw [e]
   exact rt [.d h0] [] [] hcx (by kernel_rfl)

def F80 (a0 : Int × Int) : Bool :=
  (bif (decide ((a0.1 : Int) ≥ (-1099511627776))) then
   (bif (decide ((a0.1 : Int) ≤ a0.2)) then
    (decide ((a0.2 : Int) ≤ 1099511627776))
   else
    false)
  else
   false)

theorem C80 (a0 : Int × Int) : Con Tryz.prog 80 [(.a [(iv a0.1), (iv a0.2)])] [] (.v (.bool (F80 a0))) [] := by
  refine con_s Tryz.func80 (by kernel_rfl) fun cx hcx => ?_
  cases h0 : (decide ((a0.1 : Int) ≥ (-1099511627776))) with
  | true =>
   have q0 := of_decide_eq_true h0
   let t1 : List (St Tryz.prog) := [.d h0]
   cases h1 : (decide ((a0.1 : Int) ≤ a0.2)) with
   | true =>
    have q1 := of_decide_eq_true h1
    have e := Eq.refl (F80 a0); conv at e => rhs; simp only [F80, h0, h1, cond_true, cond_false]
    rw [e]
    exact rt (t1 ++ [.d h1]) [] [] hcx (by kernel_rfl)
   | false =>
    have q1 := of_decide_eq_false h1
    have e := Eq.refl (F80 a0); conv at e => rhs; simp only [F80, h0, h1, cond_true, cond_false]
    rw [e]
    exact rt (t1 ++ [.d h1]) [] [] hcx (by kernel_rfl)
  | false =>
   have q0 := of_decide_eq_false h0
   have e := Eq.refl (F80 a0); conv at e => rhs; simp only [F80, h0, cond_true, cond_false]
   rw [e]
   exact rt [.d h0] [] [] hcx (by kernel_rfl)

def c3 (x : Int) : List SV := [(iv x)]
theorem c3_len (x : Int) : (c3 x).length = 1 := rfl

def F208_3 (a0 : (Int × Int × Int) × (Int × Int × Int) × (Int × Int × Int)) (a1 : Int) : List (Int) :=
  (bif ((a1 : Int) == 0) then
   ([a0.1.1, a0.2.1.1, a0.2.2.1] : List (Int))
  else
   (bif ((a1 : Int) == 1) then
    ([a0.1.2.1, a0.2.1.2.1, a0.2.2.2.1] : List (Int))
   else
    ([a0.1.2.2, a0.2.1.2.2, a0.2.2.2.2] : List (Int))))

theorem C208_3 (a0 : (Int × Int × Int) × (Int × Int × Int) × (Int × Int × Int)) (a1 : Int) : Con Tryz.prog 208 [(.s 0 0 3 3), (iv a1)] [(.live false false (k9 a0))] (.s 1 0 (F208_3 a0 a1).length 1) [(.live true true (flat c3 (F208_3 a0 a1)))] := by
  refine con_s Tryz.func208 (by kernel_rfl) fun cx hcx => ?_
  let t0 : List (St Tryz.prog) := [.u 200, .T]
  cases h0 : ((a1 : Int) == 0) with
  | true =>
   have q0 := eq_of_beq h0
   have e := Eq.refl (F208_3 a0 a1); conv at e => rhs; simp only [F208_3, h0, cond_true, cond_false]
   rw [e]
   exact rt (t0 ++ [.d h0, .i 0 3 (by decide), .u 0, .T, .d h0, .i 1 3 (by decide), .u 0, .T, .d h0, .i 2 3 (by decide), .u 0, .F]) [.sym 6 true] [6] hcx (by kernel_rfl)
  | false =>
   have q0 := ne_of_beq_false h0
   let t1 : List (St Tryz.prog) := (t0 ++ [.d h0])
   cases h1 : ((a1 : Int) == 1) with
   | true =>
    have q1 := eq_of_beq h1
    have e := Eq.refl (F208_3 a0 a1); conv at e => rhs; simp only [F208_3, h0, h1, cond_true, cond_false]
    rw [e]
    exact rt (t1 ++ [.d h1, .i 0 3 (by decide), .u 0, .T, .d h0, .d h1, .i 1 3 (by decide), .u 0, .T, .d h0, .d h1, .i 2 3 (by decide), .u 0, .F]) [.sym 6 true] [6] hcx (by kernel_rfl)
   | false =>
    have q1 := ne_of_beq_false h1
    have e := Eq.refl (F208_3 a0 a1); conv at e => rhs; simp only [F208_3, h0, h1, cond_true, cond_false]
    rw [e]
    exact rt (t1 ++ [.d h1, .i 0 3 (by decide), .u 0, .T, .d h0, .d h1, .i 1 3 (by decide), .u 0, .T, .d h0, .d h1, .i 2 3 (by decide), .u 0, .F]) [.sym 6 true] [6] hcx (by kernel_rfl)

def F208_1 (a0 : Int × Int × Int) (a1 : Int) : List (Int) :=
  (bif ((a1 : Int) == 0) then
   ([a0.1] : List (Int))
  else
   (bif ((a1 : Int) == 1) then
    ([a0.2.1] : List (Int))
   else
    ([a0.2.2] : List (Int))))

theorem win_ne {a b c : Int} (h : (!(F124 a b c)) = false) (hb : 1 ≤ b := by omega) : a ≠ 0 := by
  unfold F124 at h
  cases h1 : decide ((a : Int) ≥ b) with
  | true => have := of_decide_eq_true h1; omega
  | false => simp [h1] at h
theorem axis3 (a : (Int × Int × Int) × (Int × Int × Int) × (Int × Int × Int)) (k : Int) : (F208_3 a k).length = 3 := by
  unfold F208_3
  cases ((k : Int) == 0) <;> cases ((k : Int) == 1) <;> rfl
theorem axis1 (a : Int × Int × Int) (k : Int) : (F208_1 a k).length = 1 := by
  unfold F208_1
  cases ((k : Int) == 0) <;> cases ((k : Int) == 1) <;> rfl

noncomputable def B232_0 : Code := (loopAtD [1, 1, 0] [] (bodyOf Tryz.f232) []).1
noncomputable def K232_0 : List K := (loopAtD [1, 1, 0] [] (bodyOf Tryz.f232) []).2

def st232_0 (a0 : Int) (v2 : Int) (v3 : Int) : LS := ⟨slN 23 [(0, (iv a0)), (3, (iv v2)), (4, (iv v3))], []⟩

def S232_0 (a0 : Int) : Int × Int → (Int × Int) ⊕ (Int)
  | (v2, v3) =>
   (bif (decide ((v2 : Int) < v3)) then
    (bif (decide (((W ((W (Int.tdiv (W ((W (v2 + v3)) + 1)) 2)) * (W (Int.tdiv (W ((W (v2 + v3)) + 1)) 2)))) : Int) ≤ a0)) then
     (.inl ((W (Int.tdiv (W ((W (v2 + v3)) + 1)) 2)), v3))
    else
     (.inl (v2, (W ((W (Int.tdiv (W ((W (v2 + v3)) + 1)) 2)) - 1)))))
   else
    (.inr v2))

set_option maxHeartbeats 4000000 in
theorem L232_0 (a0 : Int) {cx : Cx} (hcx : cx.base = 0) : ∀ (n : Nat) (v2 : Int) (v3 : Int), (0 ≤ v2) ∧ (0 ≤ v2) ∧ (v2 ≤ v3) ∧ (v3 ≤ 2147483648) → Int.toNat (v3 - v2) < n → Aw.Good Tryz.prog none 9 (bodyPost Tryz.prog Tryz.f232 (RR cx (iv (loopF (S232_0 a0) n (v2, v3))) [] [])) cx [] (.l B232_0 n :: K232_0) (st232_0 a0 v2 v3) := by
  intro n
  induction n with
  | zero => intro v2 v3 hi hn; exact absurd hn (Nat.not_lt_zero _)
  | succ n ih =>
    intro v2 v3 hi hn
    refine good_round ?_
    have hw := mid1_eq (a := v2) (b := v3) (by omega)
    have hw2 := mid2_eq (a := v2) (b := v3) (by omega)
    cases h0 : (decide ((v2 : Int) < v3)) with
    | true =>
     have q0 := of_decide_eq_true h0
     let t1 : List (St Tryz.prog) := [.d h0, .p (show (2 : Int) ≠ 0 from by decide)]
     cases h1 : (decide (((W ((W (Int.tdiv (W ((W (v2 + v3)) + 1)) 2)) * (W (Int.tdiv (W ((W (v2 + v3)) + 1)) 2)))) : Int) ≤ a0)) with
     | true =>
      have q1 := of_decide_eq_true h1
      have e := Eq.refl (S232_0 a0 (v2, v3)); conv at e => rhs; simp only [S232_0, h0, h1, cond_true, cond_false]
      rw [loopF_inl e]
      refine ba (t1 ++ [.d h1]) [] [0, 3, 4] [] hcx (m := n) B232_0 (K232_0) (st232_0 a0 (W (Int.tdiv (W ((W (v2 + v3)) + 1)) 2)) v3) (by kernel_rfl) ?_
      exact ih (W (Int.tdiv (W ((W (v2 + v3)) + 1)) 2)) v3 (by refine ⟨?_, ?_, ?_, ?_⟩ <;> (try simp only [List.length_append, List.length_cons, List.length_nil, Int.toNat_zero]) <;> first | omega | assumption | simp) (by (try simp only [List.length_append, List.length_cons, List.length_nil, Int.toNat_zero]); omega)
     | false =>
      have q1 := of_decide_eq_false h1
      have e := Eq.refl (S232_0 a0 (v2, v3)); conv at e => rhs; simp only [S232_0, h0, h1, cond_true, cond_false]
      rw [loopF_inl e]
      refine ba (t1 ++ [.d h1]) [] [0, 3, 4] [] hcx (m := n) B232_0 (K232_0) (st232_0 a0 v2 (W ((W (Int.tdiv (W ((W (v2 + v3)) + 1)) 2)) - 1))) (by kernel_rfl) ?_
      exact ih v2 (W ((W (Int.tdiv (W ((W (v2 + v3)) + 1)) 2)) - 1)) (by refine ⟨?_, ?_, ?_, ?_⟩ <;> (try simp only [List.length_append, List.length_cons, List.length_nil, Int.toNat_zero]) <;> first | omega | assumption | simp) (by (try simp only [List.length_append, List.length_cons, List.length_nil, Int.toNat_zero]); omega)
    | false =>
     have q0 := of_decide_eq_false h0
     have e := Eq.refl (S232_0 a0 (v2, v3)); conv at e => rhs; simp only [S232_0, h0, cond_true, cond_false]
     rw [loopF_s, e]
     exact rt [.d h0] [] [] hcx (by kernel_rfl)

def F232 (a0 : Int) : Int :=
  (loopF (S232_0 a0) (Int.toNat (2147483648 - 0) + 1) (0, 2147483648))

theorem C232 (a0 : Int) : Con Tryz.prog 232 [(iv a0)] [] (iv (F232 a0)) [] := by
  refine con_s Tryz.func232 (by kernel_rfl) fun cx hcx => ?_
  have e := Eq.refl (F232 a0); conv at e => rhs; simp only [F232]
  rw [e]
  refine en [] [] [0, 3, 4] [] hcx B232_0 (K232_0) (st232_0 a0 0 2147483648) (Int.toNat (2147483648 - 0) + 1) (by kernel_rfl) ?_
  exact L232_0 a0 hcx (Int.toNat (2147483648 - 0) + 1) 0 2147483648 (by refine ⟨?_, ?_, ?_, ?_⟩ <;> (try simp only [List.length_append, List.length_cons, List.length_nil, Int.toNat_zero]) <;> first | omega | assumption | simp) (by (try simp only [List.length_append, List.length_cons, List.length_nil, Int.toNat_zero]); omega)

def F125 (a0 : Int) (a1 : Int) : (Int × Int) × Int :=
  (bif (!(F80 (a0, a1))) then
   ((0, 0), 4)
  else
   ((a0, a1), 0))

theorem C125 (a0 : Int) (a1 : Int) : Con Tryz.prog 125 [(iv a0), (iv a1)] [] (.t [(.a (k2 (F125 a0 a1).1)), (iv (F125 a0 a1).2)]) [] := by
  refine con_s Tryz.func125 (by kernel_rfl) fun cx hcx => ?_
  let t0 : List (St Tryz.prog) := [.c [] (C80 (a0, a1))]
  cases h0 : (!(F80 (a0, a1))) with
  | true =>
   have e := Eq.refl (F125 a0 a1); conv at e => rhs; simp only [F125, h0, cond_true, cond_false]
   rw [e]
   exact rt (t0 ++ [.d h0]) [] [] hcx (by kernel_rfl)
  | false =>
   have e := Eq.refl (F125 a0 a1); conv at e => rhs; simp only [F125, h0, cond_true, cond_false]
   rw [e]
   exact rt (t0 ++ [.d h0]) [] [] hcx (by kernel_rfl)

def F206 (a0 : Int) (a1 : Int) : (Int × Int) × Int :=
  (bif (((Int.tmod a0 a1) : Int) == 0) then
   (bif (((W ((F232 (W (Int.tdiv a0 a1))) * (F232 (W (Int.tdiv a0 a1))))) : Int) == (W (Int.tdiv a0 a1))) then
    ((F125 (F232 (W (Int.tdiv a0 a1))) (F232 (W (Int.tdiv a0 a1)))).1, (F125 (F232 (W (Int.tdiv a0 a1))) (F232 (W (Int.tdiv a0 a1)))).2)
   else
    ((F125 (F232 (W (Int.tdiv a0 a1))) (W ((F232 (W (Int.tdiv a0 a1))) + 1))).1, (F125 (F232 (W (Int.tdiv a0 a1))) (W ((F232 (W (Int.tdiv a0 a1))) + 1))).2))
  else
   ((F125 (F232 (W (Int.tdiv a0 a1))) (W ((F232 (W (Int.tdiv a0 a1))) + 1))).1, (F125 (F232 (W (Int.tdiv a0 a1))) (W ((F232 (W (Int.tdiv a0 a1))) + 1))).2))

theorem C206 (a0 : Int) (a1 : Int) (ha : a1 ≠ 0) : Con Tryz.prog 206 [(iv a0), (iv a1)] [] (.t [(.a (k2 (F206 a0 a1).1)), (iv (F206 a0 a1).2)]) [] := by
  refine con_s Tryz.func206 (by kernel_rfl) fun cx hcx => ?_
  let t0 : List (St Tryz.prog) := [.p (show (a1 : Int) ≠ 0 from by first | omega | (rw [W_eq] <;> omega) | exact u64_nn _), .c [] (C232 (W (Int.tdiv a0 a1))), .p (show (a1 : Int) ≠ 0 from by first | omega | (rw [W_eq] <;> omega) | exact u64_nn _)]
  cases h0 : (((Int.tmod a0 a1) : Int) == 0) with
  | true =>
   have q0 := eq_of_beq h0
   let t1 : List (St Tryz.prog) := (t0 ++ [.d h0, .p (show (a1 : Int) ≠ 0 from by first | omega | (rw [W_eq] <;> omega) | exact u64_nn _)])
   cases h1 : (((W ((F232 (W (Int.tdiv a0 a1))) * (F232 (W (Int.tdiv a0 a1))))) : Int) == (W (Int.tdiv a0 a1))) with
   | true =>
    have q1 := eq_of_beq h1
    have e := Eq.refl (F206 a0 a1); conv at e => rhs; simp only [F206, h0, h1, cond_true, cond_false]
    rw [e]
    exact rt (t1 ++ [.d h1, .c [] (C125 (F232 (W (Int.tdiv a0 a1))) (F232 (W (Int.tdiv a0 a1))))]) [] [] hcx (by kernel_rfl)
   | false =>
    have q1 := ne_of_beq_false h1
    have e := Eq.refl (F206 a0 a1); conv at e => rhs; simp only [F206, h0, h1, cond_true, cond_false]
    rw [e]
    exact rt (t1 ++ [.d h1, .c [] (C125 (F232 (W (Int.tdiv a0 a1))) (W ((F232 (W (Int.tdiv a0 a1))) + 1)))]) [] [] hcx (by kernel_rfl)
  | false =>
   have q0 := ne_of_beq_false h0
   have e := Eq.refl (F206 a0 a1); conv at e => rhs; simp only [F206, h0, cond_true, cond_false]
   rw [e]
   exact rt (t0 ++ [.d h0, .c [] (C125 (F232 (W (Int.tdiv a0 a1))) (W ((F232 (W (Int.tdiv a0 a1))) + 1)))]) [] [] hcx (by kernel_rfl)

def F145 (a0 : Int) (a1 : Int) : (Int × Int) × Int :=
  (bif (!(F124 a0 1 1099511627776)) then
   ((0, 0), 1)
  else
   (bif (!(F124 a1 1 8)) then
    ((0, 0), 1)
   else
    ((F206 (W ((W ((W (1048576 * a1)) * 1048576)) * a1)) a0).1, (F206 (W ((W ((W (1048576 * a1)) * 1048576)) * a1)) a0).2)))

theorem C145 (a0 : Int) (a1 : Int) : Con Tryz.prog 145 [(iv a0), (iv a1)] [] (.t [(.a (k2 (F145 a0 a1).1)), (iv (F145 a0 a1).2)]) [] := by
  refine con_s Tryz.func145 (by kernel_rfl) fun cx hcx => ?_
  let t0 : List (St Tryz.prog) := [.c [] (C124 a0 1 1099511627776)]
  cases h0 : (!(F124 a0 1 1099511627776)) with
  | true =>
   have e := Eq.refl (F145 a0 a1); conv at e => rhs; simp only [F145, h0, cond_true, cond_false]
   rw [e]
   exact rt (t0 ++ [.d h0]) [] [] hcx (by kernel_rfl)
  | false =>
   let t1 : List (St Tryz.prog) := (t0 ++ [.d h0, .c [] (C124 a1 1 8)])
   cases h1 : (!(F124 a1 1 8)) with
   | true =>
    have e := Eq.refl (F145 a0 a1); conv at e => rhs; simp only [F145, h0, h1, cond_true, cond_false]
    rw [e]
    exact rt (t1 ++ [.d h1]) [] [] hcx (by kernel_rfl)
   | false =>
    have e := Eq.refl (F145 a0 a1); conv at e => rhs; simp only [F145, h0, h1, cond_true, cond_false]
    rw [e]
    exact rt (t1 ++ [.d h1, .c [] (C206 (W ((W ((W (1048576 * a1)) * 1048576)) * a1)) a0  (win_ne h0))]) [] [] hcx (by kernel_rfl)

def F204 (a0 : Int) : Int :=
  (F232 a0)

theorem C204 (a0 : Int) : Con Tryz.prog 204 [(iv a0)] [] (iv (F204 a0)) [] := by
  refine con_s Tryz.func204 (by kernel_rfl) fun cx hcx => ?_
  have e := Eq.refl (F204 a0); conv at e => rhs; simp only [F204]
  rw [e]
  exact rt [.c [] (C232 a0)] [] [] hcx (by kernel_rfl)

def F202 (a0 : Int × Int × Int) (a1 : Int × Int × Int) : Int × Int × Int :=
  ((W (a0.1 - a1.1)), (W (a0.2.1 - a1.2.1)), (W (a0.2.2 - a1.2.2)))

theorem C202 (a0 : Int × Int × Int) (a1 : Int × Int × Int) : Con Tryz.prog 202 [(.a (k3 a0)), (.a (k3 a1))] [] (.a (k3 (F202 a0 a1))) [] := by
  refine con_s Tryz.func202 (by kernel_rfl) fun cx hcx => ?_
  have e := Eq.refl (F202 a0 a1); conv at e => rhs; simp only [F202]
  rw [e]
  exact rt [] [] [] hcx (by kernel_rfl)

def F201 (a0 : Int × Int × Int) (a1 : Int × Int × Int) : Int × Int × Int :=
  ((W ((W (a0.2.1 * a1.2.2)) - (W (a0.2.2 * a1.2.1)))), (W ((W (a0.2.2 * a1.1)) - (W (a0.1 * a1.2.2)))), (W ((W (a0.1 * a1.2.1)) - (W (a0.2.1 * a1.1)))))

theorem C201 (a0 : Int × Int × Int) (a1 : Int × Int × Int) : Con Tryz.prog 201 [(.a (k3 a0)), (.a (k3 a1))] [] (.a (k3 (F201 a0 a1))) [] := by
  refine con_s Tryz.func201 (by kernel_rfl) fun cx hcx => ?_
  have e := Eq.refl (F201 a0 a1); conv at e => rhs; simp only [F201]
  rw [e]
  exact rt [] [] [] hcx (by kernel_rfl)

def F142 (a0 : (Int × Int × Int) × (Int × Int × Int) × Int × Int × Int) : Int × Int × Int :=
  (F201 (F202 a0.2.1 a0.1) (F202 a0.2.2 a0.1))

theorem C142 (a0 : (Int × Int × Int) × (Int × Int × Int) × Int × Int × Int) : Con Tryz.prog 142 [(.a (k9 a0))] [] (.a (k3 (F142 a0))) [] := by
  refine con_s Tryz.func142 (by kernel_rfl) fun cx hcx => ?_
  have e := Eq.refl (F142 a0); conv at e => rhs; simp only [F142]
  rw [e]
  exact rt [.c [] (C202 a0.2.1 a0.1), .c [] (C202 a0.2.2 a0.1), .c [] (C201 (F202 a0.2.1 a0.1) (F202 a0.2.2 a0.1))] [] [] hcx (by kernel_rfl)

def F205 (a0 : Int × Int × Int) (a1 : Int × Int × Int) : Int :=
  (W ((W ((W (a0.1 * a1.1)) + (W (a0.2.1 * a1.2.1)))) + (W (a0.2.2 * a1.2.2))))

theorem C205 (a0 : Int × Int × Int) (a1 : Int × Int × Int) : Con Tryz.prog 205 [(.a (k3 a0)), (.a (k3 a1))] [] (iv (F205 a0 a1)) [] := by
  refine con_s Tryz.func205 (by kernel_rfl) fun cx hcx => ?_
  have e := Eq.refl (F205 a0 a1); conv at e => rhs; simp only [F205]
  rw [e]
  exact rt [] [] [] hcx (by kernel_rfl)

def F200 (a0 : Int) (a1 : Int) (a2 : Int) : Bool :=
  (bif (decide ((a0 : Int) ≥ a1)) then
   (decide ((a0 : Int) ≤ a2))
  else
   false)

theorem C200 (a0 : Int) (a1 : Int) (a2 : Int) : Con Tryz.prog 200 [(iv a0), (iv a1), (iv a2)] [] (.v (.bool (F200 a0 a1 a2))) [] := by
  refine con_s Tryz.func200 (by kernel_rfl) fun cx hcx => ?_
  cases h0 : (decide ((a0 : Int) ≥ a1)) with
  | true =>
   have q0 := of_decide_eq_true h0
   have e := Eq.refl (F200 a0 a1 a2); conv at e => rhs; simp only [F200, h0, cond_true, cond_false]
   rw [e]
   exact rt [.d h0] [] [] hcx (by kernel_rfl)
  | false =>
   have q0 := of_decide_eq_false h0
   have e := Eq.refl (F200 a0 a1 a2); conv at e => rhs; simp only [F200, h0, cond_true, cond_false]
   rw [e]
   exact rt [.d h0] [] [] hcx (by kernel_rfl)

def F141 (a0 : Int × Int × Int) (a1 : Int) : Bool :=
  (bif (F200 a0.1 (W (0 - a1)) a1) then
   (bif (F200 a0.2.1 (W (0 - a1)) a1) then
    (F200 a0.2.2 (W (0 - a1)) a1)
   else
    false)
  else
   false)

theorem C141 (a0 : Int × Int × Int) (a1 : Int) : Con Tryz.prog 141 [(.a (k3 a0)), (iv a1)] [] (.v (.bool (F141 a0 a1))) [] := by
  refine con_s Tryz.func141 (by kernel_rfl) fun cx hcx => ?_
  let t0 : List (St Tryz.prog) := [.c [] (C200 a0.1 (W (0 - a1)) a1)]
  cases h0 : (F200 a0.1 (W (0 - a1)) a1) with
  | true =>
   let t1 : List (St Tryz.prog) := (t0 ++ [.d h0, .c [] (C200 a0.2.1 (W (0 - a1)) a1)])
   cases h1 : (F200 a0.2.1 (W (0 - a1)) a1) with
   | true =>
    have e := Eq.refl (F141 a0 a1); conv at e => rhs; simp only [F141, h0, h1, cond_true, cond_false]
    rw [e]
    exact rt (t1 ++ [.d h1, .c [] (C200 a0.2.2 (W (0 - a1)) a1)]) [] [] hcx (by kernel_rfl)
   | false =>
    have e := Eq.refl (F141 a0 a1); conv at e => rhs; simp only [F141, h0, h1, cond_true, cond_false]
    rw [e]
    exact rt (t1 ++ [.d h1]) [] [] hcx (by kernel_rfl)
  | false =>
   have e := Eq.refl (F141 a0 a1); conv at e => rhs; simp only [F141, h0, cond_true, cond_false]
   rw [e]
   exact rt (t0 ++ [.d h0]) [] [] hcx (by kernel_rfl)

def F86 (a0 : (Int × Int × Int) × (Int × Int × Int) × Int × Int × Int) : Int :=
  (bif (!(F141 a0.1 64)) then
   1
  else
   (bif (!(F141 a0.2.1 64)) then
    1
   else
    (bif (!(F141 a0.2.2 64)) then
     1
    else
     (bif ((((F142 a0).1 : Int) == 0) && ((((F142 a0).2.1 : Int) == 0) && ((((F142 a0).2.2 : Int) == 0) && true))) then
      6
     else
      0))))

theorem C86 (a0 : (Int × Int × Int) × (Int × Int × Int) × Int × Int × Int) : Con Tryz.prog 86 [(.a (k9 a0))] [] (iv (F86 a0)) [] := by
  refine con_s Tryz.func86 (by kernel_rfl) fun cx hcx => ?_
  let t0 : List (St Tryz.prog) := [.c [] (C141 a0.1 64)]
  cases h0 : (!(F141 a0.1 64)) with
  | true =>
   have e := Eq.refl (F86 a0); conv at e => rhs; simp only [F86, h0, cond_true, cond_false]
   rw [e]
   exact rt (t0 ++ [.d h0]) [] [] hcx (by kernel_rfl)
  | false =>
   let t1 : List (St Tryz.prog) := (t0 ++ [.d h0, .c [] (C141 a0.2.1 64)])
   cases h1 : (!(F141 a0.2.1 64)) with
   | true =>
    have e := Eq.refl (F86 a0); conv at e => rhs; simp only [F86, h0, h1, cond_true, cond_false]
    rw [e]
    exact rt (t1 ++ [.d h1]) [] [] hcx (by kernel_rfl)
   | false =>
    let t2 : List (St Tryz.prog) := (t1 ++ [.d h1, .c [] (C141 a0.2.2 64)])
    cases h2 : (!(F141 a0.2.2 64)) with
    | true =>
     have e := Eq.refl (F86 a0); conv at e => rhs; simp only [F86, h0, h1, h2, cond_true, cond_false]
     rw [e]
     exact rt (t2 ++ [.d h2]) [] [] hcx (by kernel_rfl)
    | false =>
     let t3 : List (St Tryz.prog) := (t2 ++ [.d h2, .c [] (C142 a0)])
     cases h3 : ((((F142 a0).1 : Int) == 0) && ((((F142 a0).2.1 : Int) == 0) && ((((F142 a0).2.2 : Int) == 0) && true))) with
     | true =>
      have e := Eq.refl (F86 a0); conv at e => rhs; simp only [F86, h0, h1, h2, h3, cond_true, cond_false]
      rw [e]
      exact rt (t3 ++ [.d h3]) [] [] hcx (by kernel_rfl)
     | false =>
      have e := Eq.refl (F86 a0); conv at e => rhs; simp only [F86, h0, h1, h2, h3, cond_true, cond_false]
      rw [e]
      exact rt (t3 ++ [.d h3]) [] [] hcx (by kernel_rfl)

def F87 (a0 : Int) (a1 : Int) (a2 : Int) : Bool :=
  (bif (decide ((a0 : Int) ≥ a1)) then
   (decide ((a0 : Int) ≤ a2))
  else
   false)

theorem C87 (a0 : Int) (a1 : Int) (a2 : Int) : Con Tryz.prog 87 [(iv a0), (iv a1), (iv a2)] [] (.v (.bool (F87 a0 a1 a2))) [] := by
  refine con_s Tryz.func87 (by kernel_rfl) fun cx hcx => ?_
  cases h0 : (decide ((a0 : Int) ≥ a1)) with
  | true =>
   have q0 := of_decide_eq_true h0
   have e := Eq.refl (F87 a0 a1 a2); conv at e => rhs; simp only [F87, h0, cond_true, cond_false]
   rw [e]
   exact rt [.d h0] [] [] hcx (by kernel_rfl)
  | false =>
   have q0 := of_decide_eq_false h0
   have e := Eq.refl (F87 a0 a1 a2); conv at e => rhs; simp only [F87, h0, cond_true, cond_false]
   rw [e]
   exact rt [.d h0] [] [] hcx (by kernel_rfl)

def F88 (a0 : (Int × Int × Int) × (Int × Int × Int) × Int × Int × Int) (a1 : (Int × Int × Int) × (Int × Int × Int) × Int × Int × Int) (a2 : Int) : Int :=
  (bif (((F86 a0) : Int) != 0) then
   (F86 a0)
  else
   (bif (((F86 a1) : Int) != 0) then
    (F86 a1)
   else
    (bif (!(F87 a2 0 2)) then
     1
    else
     0)))

theorem C88 (a0 : (Int × Int × Int) × (Int × Int × Int) × Int × Int × Int) (a1 : (Int × Int × Int) × (Int × Int × Int) × Int × Int × Int) (a2 : Int) : Con Tryz.prog 88 [(.a (k9 a0)), (.a (k9 a1)), (iv a2)] [] (iv (F88 a0 a1 a2)) [] := by
  refine con_s Tryz.func88 (by kernel_rfl) fun cx hcx => ?_
  let t0 : List (St Tryz.prog) := [.c [] (C86 a0)]
  cases h0 : (((F86 a0) : Int) != 0) with
  | true =>
   have q0 := bne_iff_ne.1 h0
   have e := Eq.refl (F88 a0 a1 a2); conv at e => rhs; simp only [F88, h0, cond_true, cond_false]
   rw [e]
   exact rt (t0 ++ [.d h0]) [] [] hcx (by kernel_rfl)
  | false =>
   have q0 := bne_eq_false_iff_eq.1 h0
   let t1 : List (St Tryz.prog) := (t0 ++ [.d h0, .c [] (C86 a1)])
   cases h1 : (((F86 a1) : Int) != 0) with
   | true =>
    have q1 := bne_iff_ne.1 h1
    have e := Eq.refl (F88 a0 a1 a2); conv at e => rhs; simp only [F88, h0, h1, cond_true, cond_false]
    rw [e]
    exact rt (t1 ++ [.d h1]) [] [] hcx (by kernel_rfl)
   | false =>
    have q1 := bne_eq_false_iff_eq.1 h1
    let t2 : List (St Tryz.prog) := (t1 ++ [.d h1, .c [] (C87 a2 0 2)])
    cases h2 : (!(F87 a2 0 2)) with
    | true =>
     have e := Eq.refl (F88 a0 a1 a2); conv at e => rhs; simp only [F88, h0, h1, h2, cond_true, cond_false]
     rw [e]
     exact rt (t2 ++ [.d h2]) [] [] hcx (by kernel_rfl)
    | false =>
     have e := Eq.refl (F88 a0 a1 a2); conv at e => rhs; simp only [F88, h0, h1, h2, cond_true, cond_false]
     rw [e]
     exact rt (t2 ++ [.d h2]) [] [] hcx (by kernel_rfl)

def c83 (x : (Int × Int × Int) × (Int × Int × Int) × Int × Int × Int) : List SV := [(iv x.1.1), (iv x.1.2.1), (iv x.1.2.2), (iv x.2.1.1), (iv x.2.1.2.1), (iv x.2.1.2.2), (iv x.2.2.1), (iv x.2.2.2.1), (iv x.2.2.2.2)]
theorem c83_len (x : (Int × Int × Int) × (Int × Int × Int) × Int × Int × Int) : (c83 x).length = 9 := rfl

def F90 (a0 : Int × Int × Int) (a1 : Int) : Int × Int × Int :=
  ((W (a1 * a0.1)), (W (a1 * a0.2.1)), (W (a1 * a0.2.2)))

theorem C90 (a0 : Int × Int × Int) (a1 : Int) : Con Tryz.prog 90 [(.a (k3 a0)), (iv a1)] [] (.a (k3 (F90 a0 a1))) [] := by
  refine con_s Tryz.func90 (by kernel_rfl) fun cx hcx => ?_
  have e := Eq.refl (F90 a0 a1); conv at e => rhs; simp only [F90]
  rw [e]
  exact rt [] [] [] hcx (by kernel_rfl)

def F203 (a0 : Int × Int × Int) (a1 : Int × Int × Int) : Int × Int × Int :=
  ((W (Int.tdiv (W (a0.1 + a1.1)) 2)), (W (Int.tdiv (W (a0.2.1 + a1.2.1)) 2)), (W (Int.tdiv (W (a0.2.2 + a1.2.2)) 2)))

theorem C203 (a0 : Int × Int × Int) (a1 : Int × Int × Int) : Con Tryz.prog 203 [(.a (k3 a0)), (.a (k3 a1))] [] (.a (k3 (F203 a0 a1))) [] := by
  refine con_s Tryz.func203 (by kernel_rfl) fun cx hcx => ?_
  have e := Eq.refl (F203 a0 a1); conv at e => rhs; simp only [F203]
  rw [e]
  exact rt [.p (show (2 : Int) ≠ 0 from by decide), .p (show (2 : Int) ≠ 0 from by decide), .p (show (2 : Int) ≠ 0 from by decide)] [] [] hcx (by kernel_rfl)

noncomputable def B143_1 : Code := (loopAtD [1, 1, 0, 1, 0, 1, 0, 1, 0, 1] [0] (bodyOf Tryz.f143) []).1
noncomputable def K143_1 (m0 : Nat) : List K := (loopAtD [1, 1, 0, 1, 0, 1, 0, 1, 0, 1] [m0] (bodyOf Tryz.f143) []).2

def st143_1 (a0 : (Int × Int × Int) × (Int × Int × Int) × Int × Int × Int) (a1 : Int) (v13c : List SV) (v13n : Nat) (v14c : List SV) (v14n : Nat) (v15 : Int) (v16 : Int) : LS := ⟨slN 76 [(1, (iv a1)), (5, (.s 0 0 v13n 9)), (6, (iv v15)), (7, (.s 1 0 v14n 9)), (8, (iv v16))], [(.live true true v13c), (.live true true v14c)]⟩

def S143_1 (a0 : (Int × Int × Int) × (Int × Int × Int) × Int × Int × Int) (a1 : Int) : (List ((Int × Int × Int) × (Int × Int × Int) × Int × Int × Int)) × (List ((Int × Int × Int) × (Int × Int × Int) × Int × Int × Int)) × Int × Int → ((List ((Int × Int × Int) × (Int × Int × Int) × Int × Int × Int)) × (List ((Int × Int × Int) × (Int × Int × Int) × Int × Int × Int)) × Int × Int) ⊕ (((List ((Int × Int × Int) × (Int × Int × Int) × Int × Int × Int)) × Int) ⊕ (List ((Int × Int × Int) × (Int × Int × Int) × Int × Int × Int)))
  | (v13, v14, v15, v16) =>
   (bif (decide ((v16 : Int) < ((v13.length : Nat) : Int))) then
    (.inl (v13, (v14 ++ [((F90 (v13.getD (Int.toNat v16) default).1 2), (F203 (F90 (v13.getD (Int.toNat v16) default).1 2) (F90 (v13.getD (Int.toNat v16) default).2.1 2)), (F203 (F90 (v13.getD (Int.toNat v16) default).2.2 2) (F90 (v13.getD (Int.toNat v16) default).1 2))), ((F203 (F90 (v13.getD (Int.toNat v16) default).1 2) (F90 (v13.getD (Int.toNat v16) default).2.1 2)), (F90 (v13.getD (Int.toNat v16) default).2.1 2), (F203 (F90 (v13.getD (Int.toNat v16) default).2.1 2) (F90 (v13.getD (Int.toNat v16) default).2.2 2))), ((F203 (F90 (v13.getD (Int.toNat v16) default).2.2 2) (F90 (v13.getD (Int.toNat v16) default).1 2)), (F203 (F90 (v13.getD (Int.toNat v16) default).2.1 2) (F90 (v13.getD (Int.toNat v16) default).2.2 2)), (F90 (v13.getD (Int.toNat v16) default).2.2 2)), ((F203 (F90 (v13.getD (Int.toNat v16) default).1 2) (F90 (v13.getD (Int.toNat v16) default).2.1 2)), (F203 (F90 (v13.getD (Int.toNat v16) default).2.1 2) (F90 (v13.getD (Int.toNat v16) default).2.2 2)), (F203 (F90 (v13.getD (Int.toNat v16) default).2.2 2) (F90 (v13.getD (Int.toNat v16) default).1 2)))]), v15, (v16 + 1)))
   else
    (.inr (.inl (v14, (v15 + 1)))))

noncomputable def B143_0 : Code := (loopAtD [1, 1, 0, 1] [] (bodyOf Tryz.f143) []).1
noncomputable def K143_0 : List K := (loopAtD [1, 1, 0, 1] [] (bodyOf Tryz.f143) []).2

def st143_0 (a0 : (Int × Int × Int) × (Int × Int × Int) × Int × Int × Int) (a1 : Int) (v11c : List SV) (v11n : Nat) (v12 : Int) : LS := ⟨slN 76 [(1, (iv a1)), (5, (.s 0 0 v11n 9)), (6, (iv v12))], [(.live true true v11c)]⟩

def S143_0 (a0 : (Int × Int × Int) × (Int × Int × Int) × Int × Int × Int) (a1 : Int) : (List ((Int × Int × Int) × (Int × Int × Int) × Int × Int × Int)) × Int → ((List ((Int × Int × Int) × (Int × Int × Int) × Int × Int × Int)) × Int) ⊕ (List ((Int × Int × Int) × (Int × Int × Int) × Int × Int × Int))
  | (v11, v12) =>
   (bif (decide ((v12 : Int) < a1)) then
    (loopF (S143_1 a0 a1) (Int.toNat (((v11.length : Nat) : Int) - 0) + 1) (v11, ([] : List ((Int × Int × Int) × (Int × Int × Int) × Int × Int × Int)), v12, 0))
   else
    (.inr v11))

set_option maxHeartbeats 4000000 in
theorem L143_1 (a0 : (Int × Int × Int) × (Int × Int × Int) × Int × Int × Int) (a1 : Int) (ha : 0 ≤ a1 ∧ a1 ≤ 3) {cx : Cx} (hcx : cx.base = 0)
    (n0 : Nat) (g0 : ∀ (v11 : List ((Int × Int × Int) × (Int × Int × Int) × Int × Int × Int)) (v12 : Int), (0 ≤ v12) ∧ (v12 = 0 ∧ v11.length ≤ 1 ∨ v12 = 1 ∧ v11.length ≤ 4 ∨ v12 = 2 ∧ v11.length ≤ 16 ∨ 3 ≤ v12 ∧ v11.length ≤ 64) → Int.toNat (a1 - v12) < n0 → Aw.Good Tryz.prog none 9 (bodyPost Tryz.prog Tryz.f143 (RR cx (.s 0 0 (loopF (S143_0 a0 a1) n0 (v11, v12)).length 9) [(.live true true (flat c83 (loopF (S143_0 a0 a1) n0 (v11, v12))))] [])) cx [] (.l B143_0 n0 :: K143_0) (st143_0 a0 a1 (flat c83 v11) v11.length v12)) : ∀ (n : Nat) (v13 : List ((Int × Int × Int) × (Int × Int × Int) × Int × Int × Int)) (v14 : List ((Int × Int × Int) × (Int × Int × Int) × Int × Int × Int)) (v15 : Int) (v16 : Int), (0 ≤ v16) ∧ (v14.length = 4 * Int.toNat v16) ∧ (v16 ≤ v13.length) ∧ ((0 ≤ v15)) ∧ ((v15 = 0 ∧ v13.length ≤ 1 ∨ v15 = 1 ∧ v13.length ≤ 4 ∨ v15 = 2 ∧ v13.length ≤ 16 ∨ 3 ≤ v15 ∧ v13.length ≤ 64)) ∧ (v15 < a1) ∧ (Int.toNat (a1 - v15) < n0 + 1) → Int.toNat (((v13.length : Nat) : Int) - v16) < n → Aw.Good Tryz.prog none 9 (bodyPost Tryz.prog Tryz.f143 (RR cx (.s 0 0 (thenF (S143_0 a0 a1) n0 (loopF (S143_1 a0 a1) n (v13, v14, v15, v16))).length 9) [(.live true true (flat c83 (thenF (S143_0 a0 a1) n0 (loopF (S143_1 a0 a1) n (v13, v14, v15, v16)))))] [])) cx [] (.l B143_1 n :: K143_1 n0) (st143_1 a0 a1 (flat c83 v13) v13.length (flat c83 v14) v14.length v15 v16) := by
  intro n
  induction n with
  | zero => intro v13 v14 v15 v16 hi hn; exact absurd hn (Nat.not_lt_zero _)
  | succ n ih =>
    intro v13 v14 v15 v16 hi hn
    refine good_round ?_
    cases h0 : (decide ((v16 : Int) < ((v13.length : Nat) : Int))) with
    | true =>
     have q0 := of_decide_eq_true h0
     have e := Eq.refl (S143_1 a0 a1 (v13, v14, v15, v16)); conv at e => rhs; simp only [S143_1, h0, cond_true, cond_false]
     rw [loopF_inl e]
     refine ba [.d h0, .i v16 (v13.length), .L c83_len v13 v16 0 3, .c [] (C90 (v13.getD (Int.toNat v16) default).1 2), .i v16 (v13.length), .L c83_len v13 v16 3 3, .c [] (C90 (v13.getD (Int.toNat v16) default).2.1 2), .i v16 (v13.length), .L c83_len v13 v16 6 3, .c [] (C90 (v13.getD (Int.toNat v16) default).2.2 2), .c [] (C203 (F90 (v13.getD (Int.toNat v16) default).1 2) (F90 (v13.getD (Int.toNat v16) default).2.1 2)), .c [] (C203 (F90 (v13.getD (Int.toNat v16) default).2.1 2) (F90 (v13.getD (Int.toNat v16) default).2.2 2)), .c [] (C203 (F90 (v13.getD (Int.toNat v16) default).2.2 2) (F90 (v13.getD (Int.toNat v16) default).1 2)), .p (show ((flat c83 v14).length = v14.length * 9 ∧ v14.length + 4 ≤ 2 ^ 40 ∧ (v14.length + 4) * 72 ≤ 2 ^ 47) from app_ok c83_len (by omega) (by omega))] [] [1, 5, 6, 7, 8] [0, 9] hcx (m := n) B143_1 (K143_1 n0) (st143_1 a0 a1 (flat c83 v13) (v13.length) (flat c83 v14 ++ [(iv (F90 (v13.getD (Int.toNat v16) default).1 2).1), (iv (F90 (v13.getD (Int.toNat v16) default).1 2).2.1), (iv (F90 (v13.getD (Int.toNat v16) default).1 2).2.2), (iv (F203 (F90 (v13.getD (Int.toNat v16) default).1 2) (F90 (v13.getD (Int.toNat v16) default).2.1 2)).1), (iv (F203 (F90 (v13.getD (Int.toNat v16) default).1 2) (F90 (v13.getD (Int.toNat v16) default).2.1 2)).2.1), (iv (F203 (F90 (v13.getD (Int.toNat v16) default).1 2) (F90 (v13.getD (Int.toNat v16) default).2.1 2)).2.2), (iv (F203 (F90 (v13.getD (Int.toNat v16) default).2.2 2) (F90 (v13.getD (Int.toNat v16) default).1 2)).1), (iv (F203 (F90 (v13.getD (Int.toNat v16) default).2.2 2) (F90 (v13.getD (Int.toNat v16) default).1 2)).2.1), (iv (F203 (F90 (v13.getD (Int.toNat v16) default).2.2 2) (F90 (v13.getD (Int.toNat v16) default).1 2)).2.2), (iv (F203 (F90 (v13.getD (Int.toNat v16) default).1 2) (F90 (v13.getD (Int.toNat v16) default).2.1 2)).1), (iv (F203 (F90 (v13.getD (Int.toNat v16) default).1 2) (F90 (v13.getD (Int.toNat v16) default).2.1 2)).2.1), (iv (F203 (F90 (v13.getD (Int.toNat v16) default).1 2) (F90 (v13.getD (Int.toNat v16) default).2.1 2)).2.2), (iv (F90 (v13.getD (Int.toNat v16) default).2.1 2).1), (iv (F90 (v13.getD (Int.toNat v16) default).2.1 2).2.1), (iv (F90 (v13.getD (Int.toNat v16) default).2.1 2).2.2), (iv (F203 (F90 (v13.getD (Int.toNat v16) default).2.1 2) (F90 (v13.getD (Int.toNat v16) default).2.2 2)).1), (iv (F203 (F90 (v13.getD (Int.toNat v16) default).2.1 2) (F90 (v13.getD (Int.toNat v16) default).2.2 2)).2.1), (iv (F203 (F90 (v13.getD (Int.toNat v16) default).2.1 2) (F90 (v13.getD (Int.toNat v16) default).2.2 2)).2.2), (iv (F203 (F90 (v13.getD (Int.toNat v16) default).2.2 2) (F90 (v13.getD (Int.toNat v16) default).1 2)).1), (iv (F203 (F90 (v13.getD (Int.toNat v16) default).2.2 2) (F90 (v13.getD (Int.toNat v16) default).1 2)).2.1), (iv (F203 (F90 (v13.getD (Int.toNat v16) default).2.2 2) (F90 (v13.getD (Int.toNat v16) default).1 2)).2.2), (iv (F203 (F90 (v13.getD (Int.toNat v16) default).2.1 2) (F90 (v13.getD (Int.toNat v16) default).2.2 2)).1), (iv (F203 (F90 (v13.getD (Int.toNat v16) default).2.1 2) (F90 (v13.getD (Int.toNat v16) default).2.2 2)).2.1), (iv (F203 (F90 (v13.getD (Int.toNat v16) default).2.1 2) (F90 (v13.getD (Int.toNat v16) default).2.2 2)).2.2), (iv (F90 (v13.getD (Int.toNat v16) default).2.2 2).1), (iv (F90 (v13.getD (Int.toNat v16) default).2.2 2).2.1), (iv (F90 (v13.getD (Int.toNat v16) default).2.2 2).2.2), (iv (F203 (F90 (v13.getD (Int.toNat v16) default).1 2) (F90 (v13.getD (Int.toNat v16) default).2.1 2)).1), (iv (F203 (F90 (v13.getD (Int.toNat v16) default).1 2) (F90 (v13.getD (Int.toNat v16) default).2.1 2)).2.1), (iv (F203 (F90 (v13.getD (Int.toNat v16) default).1 2) (F90 (v13.getD (Int.toNat v16) default).2.1 2)).2.2), (iv (F203 (F90 (v13.getD (Int.toNat v16) default).2.1 2) (F90 (v13.getD (Int.toNat v16) default).2.2 2)).1), (iv (F203 (F90 (v13.getD (Int.toNat v16) default).2.1 2) (F90 (v13.getD (Int.toNat v16) default).2.2 2)).2.1), (iv (F203 (F90 (v13.getD (Int.toNat v16) default).2.1 2) (F90 (v13.getD (Int.toNat v16) default).2.2 2)).2.2), (iv (F203 (F90 (v13.getD (Int.toNat v16) default).2.2 2) (F90 (v13.getD (Int.toNat v16) default).1 2)).1), (iv (F203 (F90 (v13.getD (Int.toNat v16) default).2.2 2) (F90 (v13.getD (Int.toNat v16) default).1 2)).2.1), (iv (F203 (F90 (v13.getD (Int.toNat v16) default).2.2 2) (F90 (v13.getD (Int.toNat v16) default).1 2)).2.2)]) (v14.length + 4) v15 (W (v16 + 1))) (by kernel_rfl) ?_
     have z0 : (W (v16 + 1)) = (v16 + 1) := W_eq (by omega) (by omega)
     have z1 : (flat c83 v14 ++ [(iv (F90 (v13.getD (Int.toNat v16) default).1 2).1), (iv (F90 (v13.getD (Int.toNat v16) default).1 2).2.1), (iv (F90 (v13.getD (Int.toNat v16) default).1 2).2.2), (iv (F203 (F90 (v13.getD (Int.toNat v16) default).1 2) (F90 (v13.getD (Int.toNat v16) default).2.1 2)).1), (iv (F203 (F90 (v13.getD (Int.toNat v16) default).1 2) (F90 (v13.getD (Int.toNat v16) default).2.1 2)).2.1), (iv (F203 (F90 (v13.getD (Int.toNat v16) default).1 2) (F90 (v13.getD (Int.toNat v16) default).2.1 2)).2.2), (iv (F203 (F90 (v13.getD (Int.toNat v16) default).2.2 2) (F90 (v13.getD (Int.toNat v16) default).1 2)).1), (iv (F203 (F90 (v13.getD (Int.toNat v16) default).2.2 2) (F90 (v13.getD (Int.toNat v16) default).1 2)).2.1), (iv (F203 (F90 (v13.getD (Int.toNat v16) default).2.2 2) (F90 (v13.getD (Int.toNat v16) default).1 2)).2.2), (iv (F203 (F90 (v13.getD (Int.toNat v16) default).1 2) (F90 (v13.getD (Int.toNat v16) default).2.1 2)).1), (iv (F203 (F90 (v13.getD (Int.toNat v16) default).1 2) (F90 (v13.getD (Int.toNat v16) default).2.1 2)).2.1), (iv (F203 (F90 (v13.getD (Int.toNat v16) default).1 2) (F90 (v13.getD (Int.toNat v16) default).2.1 2)).2.2), (iv (F90 (v13.getD (Int.toNat v16) default).2.1 2).1), (iv (F90 (v13.getD (Int.toNat v16) default).2.1 2).2.1), (iv (F90 (v13.getD (Int.toNat v16) default).2.1 2).2.2), (iv (F203 (F90 (v13.getD (Int.toNat v16) default).2.1 2) (F90 (v13.getD (Int.toNat v16) default).2.2 2)).1), (iv (F203 (F90 (v13.getD (Int.toNat v16) default).2.1 2) (F90 (v13.getD (Int.toNat v16) default).2.2 2)).2.1), (iv (F203 (F90 (v13.getD (Int.toNat v16) default).2.1 2) (F90 (v13.getD (Int.toNat v16) default).2.2 2)).2.2), (iv (F203 (F90 (v13.getD (Int.toNat v16) default).2.2 2) (F90 (v13.getD (Int.toNat v16) default).1 2)).1), (iv (F203 (F90 (v13.getD (Int.toNat v16) default).2.2 2) (F90 (v13.getD (Int.toNat v16) default).1 2)).2.1), (iv (F203 (F90 (v13.getD (Int.toNat v16) default).2.2 2) (F90 (v13.getD (Int.toNat v16) default).1 2)).2.2), (iv (F203 (F90 (v13.getD (Int.toNat v16) default).2.1 2) (F90 (v13.getD (Int.toNat v16) default).2.2 2)).1), (iv (F203 (F90 (v13.getD (Int.toNat v16) default).2.1 2) (F90 (v13.getD (Int.toNat v16) default).2.2 2)).2.1), (iv (F203 (F90 (v13.getD (Int.toNat v16) default).2.1 2) (F90 (v13.getD (Int.toNat v16) default).2.2 2)).2.2), (iv (F90 (v13.getD (Int.toNat v16) default).2.2 2).1), (iv (F90 (v13.getD (Int.toNat v16) default).2.2 2).2.1), (iv (F90 (v13.getD (Int.toNat v16) default).2.2 2).2.2), (iv (F203 (F90 (v13.getD (Int.toNat v16) default).1 2) (F90 (v13.getD (Int.toNat v16) default).2.1 2)).1), (iv (F203 (F90 (v13.getD (Int.toNat v16) default).1 2) (F90 (v13.getD (Int.toNat v16) default).2.1 2)).2.1), (iv (F203 (F90 (v13.getD (Int.toNat v16) default).1 2) (F90 (v13.getD (Int.toNat v16) default).2.1 2)).2.2), (iv (F203 (F90 (v13.getD (Int.toNat v16) default).2.1 2) (F90 (v13.getD (Int.toNat v16) default).2.2 2)).1), (iv (F203 (F90 (v13.getD (Int.toNat v16) default).2.1 2) (F90 (v13.getD (Int.toNat v16) default).2.2 2)).2.1), (iv (F203 (F90 (v13.getD (Int.toNat v16) default).2.1 2) (F90 (v13.getD (Int.toNat v16) default).2.2 2)).2.2), (iv (F203 (F90 (v13.getD (Int.toNat v16) default).2.2 2) (F90 (v13.getD (Int.toNat v16) default).1 2)).1), (iv (F203 (F90 (v13.getD (Int.toNat v16) default).2.2 2) (F90 (v13.getD (Int.toNat v16) default).1 2)).2.1), (iv (F203 (F90 (v13.getD (Int.toNat v16) default).2.2 2) (F90 (v13.getD (Int.toNat v16) default).1 2)).2.2)]) = (flat c83 (v14 ++ [((F90 (v13.getD (Int.toNat v16) default).1 2), (F203 (F90 (v13.getD (Int.toNat v16) default).1 2) (F90 (v13.getD (Int.toNat v16) default).2.1 2)), (F203 (F90 (v13.getD (Int.toNat v16) default).2.2 2) (F90 (v13.getD (Int.toNat v16) default).1 2))), ((F203 (F90 (v13.getD (Int.toNat v16) default).1 2) (F90 (v13.getD (Int.toNat v16) default).2.1 2)), (F90 (v13.getD (Int.toNat v16) default).2.1 2), (F203 (F90 (v13.getD (Int.toNat v16) default).2.1 2) (F90 (v13.getD (Int.toNat v16) default).2.2 2))), ((F203 (F90 (v13.getD (Int.toNat v16) default).2.2 2) (F90 (v13.getD (Int.toNat v16) default).1 2)), (F203 (F90 (v13.getD (Int.toNat v16) default).2.1 2) (F90 (v13.getD (Int.toNat v16) default).2.2 2)), (F90 (v13.getD (Int.toNat v16) default).2.2 2)), ((F203 (F90 (v13.getD (Int.toNat v16) default).1 2) (F90 (v13.getD (Int.toNat v16) default).2.1 2)), (F203 (F90 (v13.getD (Int.toNat v16) default).2.1 2) (F90 (v13.getD (Int.toNat v16) default).2.2 2)), (F203 (F90 (v13.getD (Int.toNat v16) default).2.2 2) (F90 (v13.getD (Int.toNat v16) default).1 2)))])) := (flat_append (c := c83) (l := v14) (m := [((F90 (v13.getD (Int.toNat v16) default).1 2), (F203 (F90 (v13.getD (Int.toNat v16) default).1 2) (F90 (v13.getD (Int.toNat v16) default).2.1 2)), (F203 (F90 (v13.getD (Int.toNat v16) default).2.2 2) (F90 (v13.getD (Int.toNat v16) default).1 2))), ((F203 (F90 (v13.getD (Int.toNat v16) default).1 2) (F90 (v13.getD (Int.toNat v16) default).2.1 2)), (F90 (v13.getD (Int.toNat v16) default).2.1 2), (F203 (F90 (v13.getD (Int.toNat v16) default).2.1 2) (F90 (v13.getD (Int.toNat v16) default).2.2 2))), ((F203 (F90 (v13.getD (Int.toNat v16) default).2.2 2) (F90 (v13.getD (Int.toNat v16) default).1 2)), (F203 (F90 (v13.getD (Int.toNat v16) default).2.1 2) (F90 (v13.getD (Int.toNat v16) default).2.2 2)), (F90 (v13.getD (Int.toNat v16) default).2.2 2)), ((F203 (F90 (v13.getD (Int.toNat v16) default).1 2) (F90 (v13.getD (Int.toNat v16) default).2.1 2)), (F203 (F90 (v13.getD (Int.toNat v16) default).2.1 2) (F90 (v13.getD (Int.toNat v16) default).2.2 2)), (F203 (F90 (v13.getD (Int.toNat v16) default).2.2 2) (F90 (v13.getD (Int.toNat v16) default).1 2)))])).symm
     have z2 : (v14.length + 4) = (v14 ++ [((F90 (v13.getD (Int.toNat v16) default).1 2), (F203 (F90 (v13.getD (Int.toNat v16) default).1 2) (F90 (v13.getD (Int.toNat v16) default).2.1 2)), (F203 (F90 (v13.getD (Int.toNat v16) default).2.2 2) (F90 (v13.getD (Int.toNat v16) default).1 2))), ((F203 (F90 (v13.getD (Int.toNat v16) default).1 2) (F90 (v13.getD (Int.toNat v16) default).2.1 2)), (F90 (v13.getD (Int.toNat v16) default).2.1 2), (F203 (F90 (v13.getD (Int.toNat v16) default).2.1 2) (F90 (v13.getD (Int.toNat v16) default).2.2 2))), ((F203 (F90 (v13.getD (Int.toNat v16) default).2.2 2) (F90 (v13.getD (Int.toNat v16) default).1 2)), (F203 (F90 (v13.getD (Int.toNat v16) default).2.1 2) (F90 (v13.getD (Int.toNat v16) default).2.2 2)), (F90 (v13.getD (Int.toNat v16) default).2.2 2)), ((F203 (F90 (v13.getD (Int.toNat v16) default).1 2) (F90 (v13.getD (Int.toNat v16) default).2.1 2)), (F203 (F90 (v13.getD (Int.toNat v16) default).2.1 2) (F90 (v13.getD (Int.toNat v16) default).2.2 2)), (F203 (F90 (v13.getD (Int.toNat v16) default).2.2 2) (F90 (v13.getD (Int.toNat v16) default).1 2)))]).length := len_app v14 [((F90 (v13.getD (Int.toNat v16) default).1 2), (F203 (F90 (v13.getD (Int.toNat v16) default).1 2) (F90 (v13.getD (Int.toNat v16) default).2.1 2)), (F203 (F90 (v13.getD (Int.toNat v16) default).2.2 2) (F90 (v13.getD (Int.toNat v16) default).1 2))), ((F203 (F90 (v13.getD (Int.toNat v16) default).1 2) (F90 (v13.getD (Int.toNat v16) default).2.1 2)), (F90 (v13.getD (Int.toNat v16) default).2.1 2), (F203 (F90 (v13.getD (Int.toNat v16) default).2.1 2) (F90 (v13.getD (Int.toNat v16) default).2.2 2))), ((F203 (F90 (v13.getD (Int.toNat v16) default).2.2 2) (F90 (v13.getD (Int.toNat v16) default).1 2)), (F203 (F90 (v13.getD (Int.toNat v16) default).2.1 2) (F90 (v13.getD (Int.toNat v16) default).2.2 2)), (F90 (v13.getD (Int.toNat v16) default).2.2 2)), ((F203 (F90 (v13.getD (Int.toNat v16) default).1 2) (F90 (v13.getD (Int.toNat v16) default).2.1 2)), (F203 (F90 (v13.getD (Int.toNat v16) default).2.1 2) (F90 (v13.getD (Int.toNat v16) default).2.2 2)), (F203 (F90 (v13.getD (Int.toNat v16) default).2.2 2) (F90 (v13.getD (Int.toNat v16) default).1 2)))] rfl
     rw [z0, z1, z2]
     exact ih v13 (v14 ++ [((F90 (v13.getD (Int.toNat v16) default).1 2), (F203 (F90 (v13.getD (Int.toNat v16) default).1 2) (F90 (v13.getD (Int.toNat v16) default).2.1 2)), (F203 (F90 (v13.getD (Int.toNat v16) default).2.2 2) (F90 (v13.getD (Int.toNat v16) default).1 2))), ((F203 (F90 (v13.getD (Int.toNat v16) default).1 2) (F90 (v13.getD (Int.toNat v16) default).2.1 2)), (F90 (v13.getD (Int.toNat v16) default).2.1 2), (F203 (F90 (v13.getD (Int.toNat v16) default).2.1 2) (F90 (v13.getD (Int.toNat v16) default).2.2 2))), ((F203 (F90 (v13.getD (Int.toNat v16) default).2.2 2) (F90 (v13.getD (Int.toNat v16) default).1 2)), (F203 (F90 (v13.getD (Int.toNat v16) default).2.1 2) (F90 (v13.getD (Int.toNat v16) default).2.2 2)), (F90 (v13.getD (Int.toNat v16) default).2.2 2)), ((F203 (F90 (v13.getD (Int.toNat v16) default).1 2) (F90 (v13.getD (Int.toNat v16) default).2.1 2)), (F203 (F90 (v13.getD (Int.toNat v16) default).2.1 2) (F90 (v13.getD (Int.toNat v16) default).2.2 2)), (F203 (F90 (v13.getD (Int.toNat v16) default).2.2 2) (F90 (v13.getD (Int.toNat v16) default).1 2)))]) v15 (v16 + 1) (by refine ⟨?_, ?_, ?_, ?_, ?_, ?_, ?_⟩ <;> (try simp only [List.length_append, List.length_cons, List.length_nil, Int.toNat_zero]) <;> first | omega | assumption | exact hi.2.1 | exact hi.2.2.1 | exact hi.2.2.2.1 | exact hi.2.2.2.2.1 | exact hi.2.2.2.2.2.1 | exact hi.2.2.2.2.2.2.1 | simp) (by (try simp only [List.length_append, List.length_cons, List.length_nil, Int.toNat_zero]); omega)
    | false =>
     have q0 := of_decide_eq_false h0
     have e := Eq.refl (S143_1 a0 a1 (v13, v14, v15, v16)); conv at e => rhs; simp only [S143_1, h0, cond_true, cond_false]
     rw [loopF_s, e]
     refine ba [.d h0] [] [1, 5, 6] [1] hcx (m := n0) B143_0 (K143_0) (st143_0 a0 a1 (flat c83 v14) (v14.length) (W (v15 + 1))) (by kernel_rfl) ?_
     have z0 : (W (v15 + 1)) = (v15 + 1) := W_eq (by omega) (by omega)
     rw [z0]
     exact g0 v14 (v15 + 1) (by refine ⟨?_, ?_⟩ <;> (try simp only [List.length_append, List.length_cons, List.length_nil, Int.toNat_zero]) <;> first | omega | assumption | simp) (by (try simp only [List.length_append, List.length_cons, List.length_nil, Int.toNat_zero]); omega)

set_option maxHeartbeats 4000000 in
theorem L143_0 (a0 : (Int × Int × Int) × (Int × Int × Int) × Int × Int × Int) (a1 : Int) (ha : 0 ≤ a1 ∧ a1 ≤ 3) {cx : Cx} (hcx : cx.base = 0) : ∀ (n : Nat) (v11 : List ((Int × Int × Int) × (Int × Int × Int) × Int × Int × Int)) (v12 : Int), (0 ≤ v12) ∧ (v12 = 0 ∧ v11.length ≤ 1 ∨ v12 = 1 ∧ v11.length ≤ 4 ∨ v12 = 2 ∧ v11.length ≤ 16 ∨ 3 ≤ v12 ∧ v11.length ≤ 64) → Int.toNat (a1 - v12) < n → Aw.Good Tryz.prog none 9 (bodyPost Tryz.prog Tryz.f143 (RR cx (.s 0 0 (loopF (S143_0 a0 a1) n (v11, v12)).length 9) [(.live true true (flat c83 (loopF (S143_0 a0 a1) n (v11, v12))))] [])) cx [] (.l B143_0 n :: K143_0) (st143_0 a0 a1 (flat c83 v11) v11.length v12) := by
  intro n
  induction n with
  | zero => intro v11 v12 hi hn; exact absurd hn (Nat.not_lt_zero _)
  | succ n ih =>
    intro v11 v12 hi hn
    refine good_round ?_
    cases h0 : (decide ((v12 : Int) < a1)) with
    | true =>
     have q0 := of_decide_eq_true h0
     have e := Eq.refl (S143_0 a0 a1 (v11, v12)); conv at e => rhs; simp only [S143_0, h0, cond_true, cond_false]
     rw [loopF_s, e]
     refine en [.d h0] [.slot 7 9] [1, 5, 6, 7, 8] [0, 1] hcx B143_1 (K143_1 n) (st143_1 a0 a1 (flat c83 v11) (v11.length) (flat c83 ([] : List ((Int × Int × Int) × (Int × Int × Int) × Int × Int × Int))) 0 v12 0) (Int.toNat (((v11.length : Nat) : Int) - 0) + 1) (by kernel_rfl) ?_
     exact L143_1 a0 a1 ha hcx n ih (Int.toNat (((v11.length : Nat) : Int) - 0) + 1) v11 ([] : List ((Int × Int × Int) × (Int × Int × Int) × Int × Int × Int)) v12 0 (by refine ⟨?_, ?_, ?_, ?_, ?_, ?_, ?_⟩ <;> (try simp only [List.length_append, List.length_cons, List.length_nil, Int.toNat_zero]) <;> first | omega | assumption | exact hi.2.1 | exact hi.2.2.1 | exact hi.2.2.2.1 | exact hi.2.2.2.2.1 | exact hi.2.2.2.2.2.1 | exact hi.2.2.2.2.2.2.1 | simp) (by (try simp only [List.length_append, List.length_cons, List.length_nil, Int.toNat_zero]); omega)
    | false =>
     have q0 := of_decide_eq_false h0
     have e := Eq.refl (S143_0 a0 a1 (v11, v12)); conv at e => rhs; simp only [S143_0, h0, cond_true, cond_false]
     rw [loopF_s, e]
     exact rt [.d h0] [] [0] hcx (by kernel_rfl)

def F143 (a0 : (Int × Int × Int) × (Int × Int × Int) × Int × Int × Int) (a1 : Int) : List ((Int × Int × Int) × (Int × Int × Int) × Int × Int × Int) :=
  (loopF (S143_0 a0 a1) (Int.toNat (a1 - 0) + 1) (([a0] : List ((Int × Int × Int) × (Int × Int × Int) × Int × Int × Int)), 0))

theorem C143 (a0 : (Int × Int × Int) × (Int × Int × Int) × Int × Int × Int) (a1 : Int) (ha : 0 ≤ a1 ∧ a1 ≤ 3) : Con Tryz.prog 143 [(.a (k9 a0)), (iv a1)] [] (.s 0 0 (F143 a0 a1).length 9) [(.live true true (flat c83 (F143 a0 a1)))] := by
  refine con_s Tryz.func143 (by kernel_rfl) fun cx hcx => ?_
  have e := Eq.refl (F143 a0 a1); conv at e => rhs; simp only [F143]
  rw [e]
  refine en [] [.sym 1 true] [1, 5, 6] [1] hcx B143_0 (K143_0) (st143_0 a0 a1 (flat c83 ([a0] : List ((Int × Int × Int) × (Int × Int × Int) × Int × Int × Int))) 1 0) (Int.toNat (a1 - 0) + 1) (by kernel_rfl) ?_
  exact L143_0 a0 a1 ha hcx (Int.toNat (a1 - 0) + 1) ([a0] : List ((Int × Int × Int) × (Int × Int × Int) × Int × Int × Int)) 0 (by refine ⟨?_, ?_⟩ <;> (try simp only [List.length_append, List.length_cons, List.length_nil, Int.toNat_zero]) <;> first | omega | assumption | simp) (by (try simp only [List.length_append, List.length_cons, List.length_nil, Int.toNat_zero]); omega)

noncomputable def B146_L_0 : Code := (loopAtD [1, 1, 0, 1] [] (bodyOf Tryz.f146) []).1
noncomputable def K146_L_0 : List K := (loopAtD [1, 1, 0, 1] [] (bodyOf Tryz.f146) []).2

def st146_L_0 (a0 : (Int × Int × Int) × (Int × Int × Int) × Int × Int × Int) (a1 : List (Int × Int × Int)) (v1 : Int) (v2 : Int) : LS := ⟨slN 44 [(1, (.s 0 0 a1.length 3)), (2, (.p 1 0)), (5, (iv v1)), (6, (iv v2))], [(.live false true (flat c59 a1)), (.live true false (k9 a0))]⟩

def S146_L_0 (a0 : (Int × Int × Int) × (Int × Int × Int) × Int × Int × Int) (a1 : List (Int × Int × Int)) : Int × Int → (Int × Int) ⊕ (Int)
  | (v1, v2) =>
   (bif (decide ((v2 : Int) < ((a1.length : Nat) : Int))) then
    (bif (decide (((F205 (F202 a0.1 (a1.getD (Int.toNat v2) default)) (F202 a0.1 (a1.getD (Int.toNat v2) default))) : Int) > v1)) then
     (bif (decide (((F205 (F202 a0.2.1 (a1.getD (Int.toNat v2) default)) (F202 a0.2.1 (a1.getD (Int.toNat v2) default))) : Int) > (F205 (F202 a0.1 (a1.getD (Int.toNat v2) default)) (F202 a0.1 (a1.getD (Int.toNat v2) default))))) then
      (bif (decide (((F205 (F202 a0.2.2 (a1.getD (Int.toNat v2) default)) (F202 a0.2.2 (a1.getD (Int.toNat v2) default))) : Int) > (F205 (F202 a0.2.1 (a1.getD (Int.toNat v2) default)) (F202 a0.2.1 (a1.getD (Int.toNat v2) default))))) then
       (.inl ((F205 (F202 a0.2.2 (a1.getD (Int.toNat v2) default)) (F202 a0.2.2 (a1.getD (Int.toNat v2) default))), (v2 + 1)))
      else
       (.inl ((F205 (F202 a0.2.1 (a1.getD (Int.toNat v2) default)) (F202 a0.2.1 (a1.getD (Int.toNat v2) default))), (v2 + 1))))
     else
      (bif (decide (((F205 (F202 a0.2.2 (a1.getD (Int.toNat v2) default)) (F202 a0.2.2 (a1.getD (Int.toNat v2) default))) : Int) > (F205 (F202 a0.1 (a1.getD (Int.toNat v2) default)) (F202 a0.1 (a1.getD (Int.toNat v2) default))))) then
       (.inl ((F205 (F202 a0.2.2 (a1.getD (Int.toNat v2) default)) (F202 a0.2.2 (a1.getD (Int.toNat v2) default))), (v2 + 1)))
      else
       (.inl ((F205 (F202 a0.1 (a1.getD (Int.toNat v2) default)) (F202 a0.1 (a1.getD (Int.toNat v2) default))), (v2 + 1)))))
    else
     (bif (decide (((F205 (F202 a0.2.1 (a1.getD (Int.toNat v2) default)) (F202 a0.2.1 (a1.getD (Int.toNat v2) default))) : Int) > v1)) then
      (bif (decide (((F205 (F202 a0.2.2 (a1.getD (Int.toNat v2) default)) (F202 a0.2.2 (a1.getD (Int.toNat v2) default))) : Int) > (F205 (F202 a0.2.1 (a1.getD (Int.toNat v2) default)) (F202 a0.2.1 (a1.getD (Int.toNat v2) default))))) then
       (.inl ((F205 (F202 a0.2.2 (a1.getD (Int.toNat v2) default)) (F202 a0.2.2 (a1.getD (Int.toNat v2) default))), (v2 + 1)))
      else
       (.inl ((F205 (F202 a0.2.1 (a1.getD (Int.toNat v2) default)) (F202 a0.2.1 (a1.getD (Int.toNat v2) default))), (v2 + 1))))
     else
      (bif (decide (((F205 (F202 a0.2.2 (a1.getD (Int.toNat v2) default)) (F202 a0.2.2 (a1.getD (Int.toNat v2) default))) : Int) > v1)) then
       (.inl ((F205 (F202 a0.2.2 (a1.getD (Int.toNat v2) default)) (F202 a0.2.2 (a1.getD (Int.toNat v2) default))), (v2 + 1)))
      else
       (.inl (v1, (v2 + 1))))))
   else
    (.inr v1))

set_option maxHeartbeats 4000000 in
theorem L146_L_0 (a0 : (Int × Int × Int) × (Int × Int × Int) × Int × Int × Int) (a1 : List (Int × Int × Int)) (l1 : a1.length ≤ 9223372036854775807) {cx : Cx} (hcx : cx.base = 1) : ∀ (n : Nat) (v1 : Int) (v2 : Int), 0 ≤ v2 → Int.toNat (((a1.length : Nat) : Int) - v2) < n → Aw.Good Tryz.prog none 9 (bodyPost Tryz.prog Tryz.f146 (RR cx (iv (loopF (S146_L_0 a0 a1) n (v1, v2))) [] [])) cx [] (.l B146_L_0 n :: K146_L_0) (st146_L_0 a0 a1 v1 v2) := by
  intro n
  induction n with
  | zero => intro v1 v2 hi hn; exact absurd hn (Nat.not_lt_zero _)
  | succ n ih =>
    intro v1 v2 hi hn
    refine good_round ?_
    cases h0 : (decide ((v2 : Int) < ((a1.length : Nat) : Int))) with
    | true =>
     have q0 := of_decide_eq_true h0
     let t1 : List (St Tryz.prog) := [.d h0, .u 200, .T, .i 0 3 (by decide), .i v2 (a1.length), .L c59_len a1 v2 0 3, .c [] (C202 a0.1 (a1.getD (Int.toNat v2) default)), .c [] (C205 (F202 a0.1 (a1.getD (Int.toNat v2) default)) (F202 a0.1 (a1.getD (Int.toNat v2) default)))]
     cases h1 : (decide (((F205 (F202 a0.1 (a1.getD (Int.toNat v2) default)) (F202 a0.1 (a1.getD (Int.toNat v2) default))) : Int) > v1)) with
     | true =>
      have q1 := of_decide_eq_true h1
      let t2 : List (St Tryz.prog) := (t1 ++ [.d h1, .u 0, .T, .i 1 3 (by decide), .i v2 (a1.length), .L c59_len a1 v2 0 3, .c [] (C202 a0.2.1 (a1.getD (Int.toNat v2) default)), .c [] (C205 (F202 a0.2.1 (a1.getD (Int.toNat v2) default)) (F202 a0.2.1 (a1.getD (Int.toNat v2) default)))])
      cases h2 : (decide (((F205 (F202 a0.2.1 (a1.getD (Int.toNat v2) default)) (F202 a0.2.1 (a1.getD (Int.toNat v2) default))) : Int) > (F205 (F202 a0.1 (a1.getD (Int.toNat v2) default)) (F202 a0.1 (a1.getD (Int.toNat v2) default))))) with
      | true =>
       have q2 := of_decide_eq_true h2
       let t3 : List (St Tryz.prog) := (t2 ++ [.d h2, .u 0, .T, .i 2 3 (by decide), .i v2 (a1.length), .L c59_len a1 v2 0 3, .c [] (C202 a0.2.2 (a1.getD (Int.toNat v2) default)), .c [] (C205 (F202 a0.2.2 (a1.getD (Int.toNat v2) default)) (F202 a0.2.2 (a1.getD (Int.toNat v2) default)))])
       cases h3 : (decide (((F205 (F202 a0.2.2 (a1.getD (Int.toNat v2) default)) (F202 a0.2.2 (a1.getD (Int.toNat v2) default))) : Int) > (F205 (F202 a0.2.1 (a1.getD (Int.toNat v2) default)) (F202 a0.2.1 (a1.getD (Int.toNat v2) default))))) with
       | true =>
        have q3 := of_decide_eq_true h3
        have e := Eq.refl (S146_L_0 a0 a1 (v1, v2)); conv at e => rhs; simp only [S146_L_0, h0, h1, h2, h3, cond_true, cond_false]
        rw [loopF_inl e]
        refine ba (t3 ++ [.d h3, .u 0, .F]) [] [1, 2, 5, 6] [1] hcx (m := n) B146_L_0 (K146_L_0) (st146_L_0 a0 a1 (F205 (F202 a0.2.2 (a1.getD (Int.toNat v2) default)) (F202 a0.2.2 (a1.getD (Int.toNat v2) default))) (W (v2 + 1))) (by kernel_rfl) ?_
        have z0 : (W (v2 + 1)) = (v2 + 1) := W_eq (by omega) (by omega)
        rw [z0]
        exact ih (F205 (F202 a0.2.2 (a1.getD (Int.toNat v2) default)) (F202 a0.2.2 (a1.getD (Int.toNat v2) default))) (v2 + 1) (by (try simp only [List.length_append, List.length_cons, List.length_nil, Int.toNat_zero]); omega) (by (try simp only [List.length_append, List.length_cons, List.length_nil, Int.toNat_zero]); omega)
       | false =>
        have q3 := of_decide_eq_false h3
        have e := Eq.refl (S146_L_0 a0 a1 (v1, v2)); conv at e => rhs; simp only [S146_L_0, h0, h1, h2, h3, cond_true, cond_false]
        rw [loopF_inl e]
        refine ba (t3 ++ [.d h3, .u 0, .F]) [] [1, 2, 5, 6] [1] hcx (m := n) B146_L_0 (K146_L_0) (st146_L_0 a0 a1 (F205 (F202 a0.2.1 (a1.getD (Int.toNat v2) default)) (F202 a0.2.1 (a1.getD (Int.toNat v2) default))) (W (v2 + 1))) (by kernel_rfl) ?_
        have z0 : (W (v2 + 1)) = (v2 + 1) := W_eq (by omega) (by omega)
        rw [z0]
        exact ih (F205 (F202 a0.2.1 (a1.getD (Int.toNat v2) default)) (F202 a0.2.1 (a1.getD (Int.toNat v2) default))) (v2 + 1) (by (try simp only [List.length_append, List.length_cons, List.length_nil, Int.toNat_zero]); omega) (by (try simp only [List.length_append, List.length_cons, List.length_nil, Int.toNat_zero]); omega)
      | false =>
       have q2 := of_decide_eq_false h2
       let t3 : List (St Tryz.prog) := (t2 ++ [.d h2, .u 0, .T, .i 2 3 (by decide), .i v2 (a1.length), .L c59_len a1 v2 0 3, .c [] (C202 a0.2.2 (a1.getD (Int.toNat v2) default)), .c [] (C205 (F202 a0.2.2 (a1.getD (Int.toNat v2) default)) (F202 a0.2.2 (a1.getD (Int.toNat v2) default)))])
       cases h3 : (decide (((F205 (F202 a0.2.2 (a1.getD (Int.toNat v2) default)) (F202 a0.2.2 (a1.getD (Int.toNat v2) default))) : Int) > (F205 (F202 a0.1 (a1.getD (Int.toNat v2) default)) (F202 a0.1 (a1.getD (Int.toNat v2) default))))) with
       | true =>
        have q3 := of_decide_eq_true h3
        have e := Eq.refl (S146_L_0 a0 a1 (v1, v2)); conv at e => rhs; simp only [S146_L_0, h0, h1, h2, h3, cond_true, cond_false]
        rw [loopF_inl e]
        refine ba (t3 ++ [.d h3, .u 0, .F]) [] [1, 2, 5, 6] [1] hcx (m := n) B146_L_0 (K146_L_0) (st146_L_0 a0 a1 (F205 (F202 a0.2.2 (a1.getD (Int.toNat v2) default)) (F202 a0.2.2 (a1.getD (Int.toNat v2) default))) (W (v2 + 1))) (by kernel_rfl) ?_
        have z0 : (W (v2 + 1)) = (v2 + 1) := W_eq (by omega) (by omega)
        rw [z0]
        exact ih (F205 (F202 a0.2.2 (a1.getD (Int.toNat v2) default)) (F202 a0.2.2 (a1.getD (Int.toNat v2) default))) (v2 + 1) (by (try simp only [List.length_append, List.length_cons, List.length_nil, Int.toNat_zero]); omega) (by (try simp only [List.length_append, List.length_cons, List.length_nil, Int.toNat_zero]); omega)
       | false =>
        have q3 := of_decide_eq_false h3
        have e := Eq.refl (S146_L_0 a0 a1 (v1, v2)); conv at e => rhs; simp only [S146_L_0, h0, h1, h2, h3, cond_true, cond_false]
        rw [loopF_inl e]
        refine ba (t3 ++ [.d h3, .u 0, .F]) [] [1, 2, 5, 6] [1] hcx (m := n) B146_L_0 (K146_L_0) (st146_L_0 a0 a1 (F205 (F202 a0.1 (a1.getD (Int.toNat v2) default)) (F202 a0.1 (a1.getD (Int.toNat v2) default))) (W (v2 + 1))) (by kernel_rfl) ?_
        have z0 : (W (v2 + 1)) = (v2 + 1) := W_eq (by omega) (by omega)
        rw [z0]
        exact ih (F205 (F202 a0.1 (a1.getD (Int.toNat v2) default)) (F202 a0.1 (a1.getD (Int.toNat v2) default))) (v2 + 1) (by (try simp only [List.length_append, List.length_cons, List.length_nil, Int.toNat_zero]); omega) (by (try simp only [List.length_append, List.length_cons, List.length_nil, Int.toNat_zero]); omega)
     | false =>
      have q1 := of_decide_eq_false h1
      let t2 : List (St Tryz.prog) := (t1 ++ [.d h1, .u 0, .T, .i 1 3 (by decide), .i v2 (a1.length), .L c59_len a1 v2 0 3, .c [] (C202 a0.2.1 (a1.getD (Int.toNat v2) default)), .c [] (C205 (F202 a0.2.1 (a1.getD (Int.toNat v2) default)) (F202 a0.2.1 (a1.getD (Int.toNat v2) default)))])
      cases h2 : (decide (((F205 (F202 a0.2.1 (a1.getD (Int.toNat v2) default)) (F202 a0.2.1 (a1.getD (Int.toNat v2) default))) : Int) > v1)) with
      | true =>
       have q2 := of_decide_eq_true h2
       let t3 : List (St Tryz.prog) := (t2 ++ [.d h2, .u 0, .T, .i 2 3 (by decide), .i v2 (a1.length), .L c59_len a1 v2 0 3, .c [] (C202 a0.2.2 (a1.getD (Int.toNat v2) default)), .c [] (C205 (F202 a0.2.2 (a1.getD (Int.toNat v2) default)) (F202 a0.2.2 (a1.getD (Int.toNat v2) default)))])
       cases h3 : (decide (((F205 (F202 a0.2.2 (a1.getD (Int.toNat v2) default)) (F202 a0.2.2 (a1.getD (Int.toNat v2) default))) : Int) > (F205 (F202 a0.2.1 (a1.getD (Int.toNat v2) default)) (F202 a0.2.1 (a1.getD (Int.toNat v2) default))))) with
       | true =>
        have q3 := of_decide_eq_true h3
        have e := Eq.refl (S146_L_0 a0 a1 (v1, v2)); conv at e => rhs; simp only [S146_L_0, h0, h1, h2, h3, cond_true, cond_false]
        rw [loopF_inl e]
        refine ba (t3 ++ [.d h3, .u 0, .F]) [] [1, 2, 5, 6] [1] hcx (m := n) B146_L_0 (K146_L_0) (st146_L_0 a0 a1 (F205 (F202 a0.2.2 (a1.getD (Int.toNat v2) default)) (F202 a0.2.2 (a1.getD (Int.toNat v2) default))) (W (v2 + 1))) (by kernel_rfl) ?_
        have z0 : (W (v2 + 1)) = (v2 + 1) := W_eq (by omega) (by omega)
        rw [z0]
        exact ih (F205 (F202 a0.2.2 (a1.getD (Int.toNat v2) default)) (F202 a0.2.2 (a1.getD (Int.toNat v2) default))) (v2 + 1) (by (try simp only [List.length_append, List.length_cons, List.length_nil, Int.toNat_zero]); omega) (by (try simp only [List.length_append, List.length_cons, List.length_nil, Int.toNat_zero]); omega)
       | false =>
        have q3 := of_decide_eq_false h3
        have e := Eq.refl (S146_L_0 a0 a1 (v1, v2)); conv at e => rhs; simp only [S146_L_0, h0, h1, h2, h3, cond_true, cond_false]
        rw [loopF_inl e]
        refine ba (t3 ++ [.d h3, .u 0, .F]) [] [1, 2, 5, 6] [1] hcx (m := n) B146_L_0 (K146_L_0) (st146_L_0 a0 a1 (F205 (F202 a0.2.1 (a1.getD (Int.toNat v2) default)) (F202 a0.2.1 (a1.getD (Int.toNat v2) default))) (W (v2 + 1))) (by kernel_rfl) ?_
        have z0 : (W (v2 + 1)) = (v2 + 1) := W_eq (by omega) (by omega)
        rw [z0]
        exact ih (F205 (F202 a0.2.1 (a1.getD (Int.toNat v2) default)) (F202 a0.2.1 (a1.getD (Int.toNat v2) default))) (v2 + 1) (by (try simp only [List.length_append, List.length_cons, List.length_nil, Int.toNat_zero]); omega) (by (try simp only [List.length_append, List.length_cons, List.length_nil, Int.toNat_zero]); omega)
      | false =>
       have q2 := of_decide_eq_false h2
       let t3 : List (St Tryz.prog) := (t2 ++ [.d h2, .u 0, .T, .i 2 3 (by decide), .i v2 (a1.length), .L c59_len a1 v2 0 3, .c [] (C202 a0.2.2 (a1.getD (Int.toNat v2) default)), .c [] (C205 (F202 a0.2.2 (a1.getD (Int.toNat v2) default)) (F202 a0.2.2 (a1.getD (Int.toNat v2) default)))])
       cases h3 : (decide (((F205 (F202 a0.2.2 (a1.getD (Int.toNat v2) default)) (F202 a0.2.2 (a1.getD (Int.toNat v2) default))) : Int) > v1)) with
       | true =>
        have q3 := of_decide_eq_true h3
        have e := Eq.refl (S146_L_0 a0 a1 (v1, v2)); conv at e => rhs; simp only [S146_L_0, h0, h1, h2, h3, cond_true, cond_false]
        rw [loopF_inl e]
        refine ba (t3 ++ [.d h3, .u 0, .F]) [] [1, 2, 5, 6] [1] hcx (m := n) B146_L_0 (K146_L_0) (st146_L_0 a0 a1 (F205 (F202 a0.2.2 (a1.getD (Int.toNat v2) default)) (F202 a0.2.2 (a1.getD (Int.toNat v2) default))) (W (v2 + 1))) (by kernel_rfl) ?_
        have z0 : (W (v2 + 1)) = (v2 + 1) := W_eq (by omega) (by omega)
        rw [z0]
        exact ih (F205 (F202 a0.2.2 (a1.getD (Int.toNat v2) default)) (F202 a0.2.2 (a1.getD (Int.toNat v2) default))) (v2 + 1) (by (try simp only [List.length_append, List.length_cons, List.length_nil, Int.toNat_zero]); omega) (by (try simp only [List.length_append, List.length_cons, List.length_nil, Int.toNat_zero]); omega)
       | false =>
        have q3 := of_decide_eq_false h3
        have e := Eq.refl (S146_L_0 a0 a1 (v1, v2)); conv at e => rhs; simp only [S146_L_0, h0, h1, h2, h3, cond_true, cond_false]
        rw [loopF_inl e]
        refine ba (t3 ++ [.d h3, .u 0, .F]) [] [1, 2, 5, 6] [1] hcx (m := n) B146_L_0 (K146_L_0) (st146_L_0 a0 a1 v1 (W (v2 + 1))) (by kernel_rfl) ?_
        have z0 : (W (v2 + 1)) = (v2 + 1) := W_eq (by omega) (by omega)
        rw [z0]
        exact ih v1 (v2 + 1) (by (try simp only [List.length_append, List.length_cons, List.length_nil, Int.toNat_zero]); omega) (by (try simp only [List.length_append, List.length_cons, List.length_nil, Int.toNat_zero]); omega)
    | false =>
     have q0 := of_decide_eq_false h0
     have e := Eq.refl (S146_L_0 a0 a1 (v1, v2)); conv at e => rhs; simp only [S146_L_0, h0, cond_true, cond_false]
     rw [loopF_s, e]
     exact rt [.d h0] [] [] hcx (by kernel_rfl)

def F146_L (a0 : (Int × Int × Int) × (Int × Int × Int) × Int × Int × Int) (a1 : List (Int × Int × Int)) : Int :=
  (loopF (S146_L_0 a0 a1) (Int.toNat (((a1.length : Nat) : Int) - 0) + 1) (0, 0))

theorem C146_L (a0 : (Int × Int × Int) × (Int × Int × Int) × Int × Int × Int) (a1 : List (Int × Int × Int)) (l1 : a1.length ≤ 9223372036854775807) : Con Tryz.prog 146 [(.a (k9 a0)), (.s 0 0 a1.length 3)] [(.live false true (flat c59 a1))] (iv (F146_L a0 a1)) [] := by
  refine con_s Tryz.func146 (by kernel_rfl) fun cx hcx => ?_
  have e := Eq.refl (F146_L a0 a1); conv at e => rhs; simp only [F146_L]
  rw [e]
  refine en [] [] [1, 2, 5, 6] [1] hcx B146_L_0 (K146_L_0) (st146_L_0 a0 a1 0 0) (Int.toNat (((a1.length : Nat) : Int) - 0) + 1) (by kernel_rfl) ?_
  exact L146_L_0 a0 a1 l1 hcx (Int.toNat (((a1.length : Nat) : Int) - 0) + 1) 0 0 (by (try simp only [List.length_append, List.length_cons, List.length_nil, Int.toNat_zero]); omega) (by (try simp only [List.length_append, List.length_cons, List.length_nil, Int.toNat_zero]); omega)

noncomputable def B233_L_0 : Code := (loopAtD [1, 1, 0, 1] [] (bodyOf Tryz.f233) []).1
noncomputable def K233_L_0 : List K := (loopAtD [1, 1, 0, 1] [] (bodyOf Tryz.f233) []).2

def st233_L_0 (a0 : List (Int)) (v1 : Int) (v2 : Int) (v3 : Int) : LS := ⟨slN 33 [(0, (.s 0 0 a0.length 1)), (4, (iv v1)), (5, (iv v2)), (6, (iv v3))], [(.live false true (flat c3 a0))]⟩

def S233_L_0 (a0 : List (Int)) : Int × Int × Int → (Int × Int × Int) ⊕ (Int × Int)
  | (v1, v2, v3) =>
   (bif (decide ((v3 : Int) < ((a0.length : Nat) : Int))) then
    (.inl ((if ((a0.getD (Int.toNat v3) default) : Int) < v1 then (a0.getD (Int.toNat v3) default) else v1), (if (v2 : Int) < (a0.getD (Int.toNat v3) default) then (a0.getD (Int.toNat v3) default) else v2), (v3 + 1)))
   else
    (.inr (v1, v2)))

set_option maxHeartbeats 4000000 in
theorem L233_L_0 (a0 : List (Int)) (l0 : a0.length ≤ 9223372036854775807) (hl : 0 < a0.length) {cx : Cx} (hcx : cx.base = 1) : ∀ (n : Nat) (v1 : Int) (v2 : Int) (v3 : Int), 0 ≤ v3 → Int.toNat (((a0.length : Nat) : Int) - v3) < n → Aw.Good Tryz.prog none 9 (bodyPost Tryz.prog Tryz.f233 (RR cx (.t (k2 (loopF (S233_L_0 a0) n (v1, v2, v3)))) [] [])) cx [] (.l B233_L_0 n :: K233_L_0) (st233_L_0 a0 v1 v2 v3) := by
  intro n
  induction n with
  | zero => intro v1 v2 v3 hi hn; exact absurd hn (Nat.not_lt_zero _)
  | succ n ih =>
    intro v1 v2 v3 hi hn
    refine good_round ?_
    cases h0 : (decide ((v3 : Int) < ((a0.length : Nat) : Int))) with
    | true =>
     have q0 := of_decide_eq_true h0
     have e := Eq.refl (S233_L_0 a0 (v1, v2, v3)); conv at e => rhs; simp only [S233_L_0, h0, cond_true, cond_false]
     rw [loopF_inl e]
     refine ba [.d h0, .i v3 (a0.length), .L c3_len a0 v3 0 1, .i v3 (a0.length), .L c3_len a0 v3 0 1] [] [0, 4, 5, 6] [] hcx (m := n) B233_L_0 (K233_L_0) (st233_L_0 a0 (if ((a0.getD (Int.toNat v3) default) : Int) < v1 then (a0.getD (Int.toNat v3) default) else v1) (if (v2 : Int) < (a0.getD (Int.toNat v3) default) then (a0.getD (Int.toNat v3) default) else v2) (W (v3 + 1))) (by kernel_rfl) ?_
     have z0 : (W (v3 + 1)) = (v3 + 1) := W_eq (by omega) (by omega)
     rw [z0]
     exact ih (if ((a0.getD (Int.toNat v3) default) : Int) < v1 then (a0.getD (Int.toNat v3) default) else v1) (if (v2 : Int) < (a0.getD (Int.toNat v3) default) then (a0.getD (Int.toNat v3) default) else v2) (v3 + 1) (by (try simp only [List.length_append, List.length_cons, List.length_nil, Int.toNat_zero]); omega) (by (try simp only [List.length_append, List.length_cons, List.length_nil, Int.toNat_zero]); omega)
    | false =>
     have q0 := of_decide_eq_false h0
     have e := Eq.refl (S233_L_0 a0 (v1, v2, v3)); conv at e => rhs; simp only [S233_L_0, h0, cond_true, cond_false]
     rw [loopF_s, e]
     exact rt [.d h0] [] [] hcx (by kernel_rfl)

def F233_L (a0 : List (Int)) : Int × Int :=
  (loopF (S233_L_0 a0) (Int.toNat (((a0.length : Nat) : Int) - 0) + 1) ((a0.getD (Int.toNat 0) default), (a0.getD (Int.toNat 0) default), 0))

theorem C233_L (a0 : List (Int)) (l0 : a0.length ≤ 9223372036854775807) (hl : 0 < a0.length) : Con Tryz.prog 233 [(.s 0 0 a0.length 1)] [(.live false true (flat c3 a0))] (.t (k2 (F233_L a0))) [] := by
  refine con_s Tryz.func233 (by kernel_rfl) fun cx hcx => ?_
  have e := Eq.refl (F233_L a0); conv at e => rhs; simp only [F233_L]
  rw [e]
  refine en [.i 0 (a0.length), .L c3_len a0 0 0 1, .i 0 (a0.length), .L c3_len a0 0 0 1] [] [0, 4, 5, 6] [] hcx B233_L_0 (K233_L_0) (st233_L_0 a0 (a0.getD (Int.toNat 0) default) (a0.getD (Int.toNat 0) default) 0) (Int.toNat (((a0.length : Nat) : Int) - 0) + 1) (by kernel_rfl) ?_
  exact L233_L_0 a0 l0 hl hcx (Int.toNat (((a0.length : Nat) : Int) - 0) + 1) (a0.getD (Int.toNat 0) default) (a0.getD (Int.toNat 0) default) 0 (by (try simp only [List.length_append, List.length_cons, List.length_nil, Int.toNat_zero]); omega) (by (try simp only [List.length_append, List.length_cons, List.length_nil, Int.toNat_zero]); omega)

def F207_L_L (a0 : List (Int)) (a1 : List (Int)) : Int :=
  (W ((if ((if (0 : Int) < (W ((F233_L a0).1 - (F233_L a1).2)) then (W ((F233_L a0).1 - (F233_L a1).2)) else 0) : Int) < (W ((F233_L a1).1 - (F233_L a0).2)) then (W ((F233_L a1).1 - (F233_L a0).2)) else (if (0 : Int) < (W ((F233_L a0).1 - (F233_L a1).2)) then (W ((F233_L a0).1 - (F233_L a1).2)) else 0)) * (if ((if (0 : Int) < (W ((F233_L a0).1 - (F233_L a1).2)) then (W ((F233_L a0).1 - (F233_L a1).2)) else 0) : Int) < (W ((F233_L a1).1 - (F233_L a0).2)) then (W ((F233_L a1).1 - (F233_L a0).2)) else (if (0 : Int) < (W ((F233_L a0).1 - (F233_L a1).2)) then (W ((F233_L a0).1 - (F233_L a1).2)) else 0))))

theorem C207_L_L (a0 : List (Int)) (a1 : List (Int)) (l0 : a0.length ≤ 9223372036854775807) (l1 : a1.length ≤ 9223372036854775807) (h1 : 0 < a0.length) (h2 : 0 < a1.length) : Con Tryz.prog 207 [(.s 0 0 a0.length 1), (.s 1 0 a1.length 1)] [(.live false true (flat c3 a0)), (.live false true (flat c3 a1))] (iv (F207_L_L a0 a1)) [] := by
  refine con_s Tryz.func207 (by kernel_rfl) fun cx hcx => ?_
  have e := Eq.refl (F207_L_L a0 a1); conv at e => rhs; simp only [F207_L_L]
  rw [e]
  exact rt [.c [0] (C233_L a0 (by (try simp only [List.length_append, List.length_cons, List.length_nil, Int.toNat_zero, axis3, axis1]); omega) (by (try simp only [List.length_append, List.length_cons, List.length_nil, Int.toNat_zero, axis3, axis1]); omega)), .c [1] (C233_L a1 (by (try simp only [List.length_append, List.length_cons, List.length_nil, Int.toNat_zero, axis3, axis1]); omega) (by (try simp only [List.length_append, List.length_cons, List.length_nil, Int.toNat_zero, axis3, axis1]); omega))] [] [] hcx (by kernel_rfl)

def F147_3 (a0 : (Int × Int × Int) × (Int × Int × Int) × Int × Int × Int) (a1 : (Int × Int × Int) × (Int × Int × Int) × (Int × Int × Int)) : Int :=
  (W ((W ((F207_L_L (F208_3 a0 0) (F208_3 a1 0)) + (F207_L_L (F208_3 a0 1) (F208_3 a1 1)))) + (F207_L_L (F208_3 a0 2) (F208_3 a1 2))))

theorem C147_3 (a0 : (Int × Int × Int) × (Int × Int × Int) × Int × Int × Int) (a1 : (Int × Int × Int) × (Int × Int × Int) × (Int × Int × Int)) : Con Tryz.prog 147 [(.a (k9 a0)), (.s 0 0 3 3)] [(.live false false (k9 a1))] (iv (F147_3 a0 a1)) [] := by
  refine con_s Tryz.func147 (by kernel_rfl) fun cx hcx => ?_
  have e := Eq.refl (F147_3 a0 a1); conv at e => rhs; simp only [F147_3]
  rw [e]
  exact rt [.c [2] (C208_3 a0 0), .c [0] (C208_3 a1 0), .c [3, 4] (C207_L_L (F208_3 a0 0) (F208_3 a1 0) (by (try simp only [List.length_append, List.length_cons, List.length_nil, Int.toNat_zero, axis3, axis1]); omega) (by (try simp only [List.length_append, List.length_cons, List.length_nil, Int.toNat_zero, axis3, axis1]); omega) (by (try simp only [List.length_append, List.length_cons, List.length_nil, Int.toNat_zero, axis3, axis1]); omega) (by (try simp only [List.length_append, List.length_cons, List.length_nil, Int.toNat_zero, axis3, axis1]); omega)), .c [2] (C208_3 a0 1), .c [0] (C208_3 a1 1), .c [5, 6] (C207_L_L (F208_3 a0 1) (F208_3 a1 1) (by (try simp only [List.length_append, List.length_cons, List.length_nil, Int.toNat_zero, axis3, axis1]); omega) (by (try simp only [List.length_append, List.length_cons, List.length_nil, Int.toNat_zero, axis3, axis1]); omega) (by (try simp only [List.length_append, List.length_cons, List.length_nil, Int.toNat_zero, axis3, axis1]); omega) (by (try simp only [List.length_append, List.length_cons, List.length_nil, Int.toNat_zero, axis3, axis1]); omega)), .c [2] (C208_3 a0 2), .c [0] (C208_3 a1 2), .c [7, 8] (C207_L_L (F208_3 a0 2) (F208_3 a1 2) (by (try simp only [List.length_append, List.length_cons, List.length_nil, Int.toNat_zero, axis3, axis1]); omega) (by (try simp only [List.length_append, List.length_cons, List.length_nil, Int.toNat_zero, axis3, axis1]); omega) (by (try simp only [List.length_append, List.length_cons, List.length_nil, Int.toNat_zero, axis3, axis1]); omega) (by (try simp only [List.length_append, List.length_cons, List.length_nil, Int.toNat_zero, axis3, axis1]); omega))] [] [] hcx (by kernel_rfl)

noncomputable def B43_L_0 : Code := (loopAtD [1, 1, 0, 1] [] (bodyOf Tryz.f43) []).1
noncomputable def K43_L_0 : List K := (loopAtD [1, 1, 0, 1] [] (bodyOf Tryz.f43) []).2

def st43_L_0 (a0 : List (((Int × Int × Int) × (Int × Int × Int) × Int × Int × Int) × Int)) (v1 : Int) : LS := ⟨slN 30 [(0, (.s 0 0 a0.length 10)), (3, (iv v1))], [(.live false true (flat c85 a0))]⟩

def S43_L_0 (a0 : List (((Int × Int × Int) × (Int × Int × Int) × Int × Int × Int) × Int)) : Int → (Int) ⊕ (Int)
  | v1 =>
   (bif (decide ((v1 : Int) < ((a0.length : Nat) : Int))) then
    (bif (((F86 (a0.getD (Int.toNat v1) default).1) : Int) != 0) then
     (.inr (F86 (a0.getD (Int.toNat v1) default).1))
    else
     (bif (!(F87 (a0.getD (Int.toNat v1) default).2 (-100) 100)) then
      (.inr 1)
     else
      (.inl (v1 + 1))))
   else
    (.inr 0))

set_option maxHeartbeats 4000000 in
theorem L43_L_0 (a0 : List (((Int × Int × Int) × (Int × Int × Int) × Int × Int × Int) × Int)) (l0 : a0.length ≤ 9223372036854775807) {cx : Cx} (hcx : cx.base = 1) : ∀ (n : Nat) (v1 : Int), 0 ≤ v1 → Int.toNat (((a0.length : Nat) : Int) - v1) < n → Aw.Good Tryz.prog none 9 (bodyPost Tryz.prog Tryz.f43 (RR cx (iv (loopF (S43_L_0 a0) n v1)) [] [])) cx [] (.l B43_L_0 n :: K43_L_0) (st43_L_0 a0 v1) := by
  intro n
  induction n with
  | zero => intro v1 hi hn; exact absurd hn (Nat.not_lt_zero _)
  | succ n ih =>
    intro v1 hi hn
    refine good_round ?_
    cases h0 : (decide ((v1 : Int) < ((a0.length : Nat) : Int))) with
    | true =>
     have q0 := of_decide_eq_true h0
     let t1 : List (St Tryz.prog) := [.d h0, .i v1 (a0.length), .L c85_len a0 v1 0 9, .c [] (C86 (a0.getD (Int.toNat v1) default).1)]
     cases h1 : (((F86 (a0.getD (Int.toNat v1) default).1) : Int) != 0) with
     | true =>
      have q1 := bne_iff_ne.1 h1
      have e := Eq.refl (S43_L_0 a0 v1); conv at e => rhs; simp only [S43_L_0, h0, h1, cond_true, cond_false]
      rw [loopF_s, e]
      exact rt (t1 ++ [.d h1]) [] [] hcx (by kernel_rfl)
     | false =>
      have q1 := bne_eq_false_iff_eq.1 h1
      let t2 : List (St Tryz.prog) := (t1 ++ [.d h1, .i v1 (a0.length), .L c85_len a0 v1 9 1, .c [] (C87 (a0.getD (Int.toNat v1) default).2 (-100) 100)])
      cases h2 : (!(F87 (a0.getD (Int.toNat v1) default).2 (-100) 100)) with
      | true =>
       have e := Eq.refl (S43_L_0 a0 v1); conv at e => rhs; simp only [S43_L_0, h0, h1, h2, cond_true, cond_false]
       rw [loopF_s, e]
       exact rt (t2 ++ [.d h2]) [] [] hcx (by kernel_rfl)
      | false =>
       have e := Eq.refl (S43_L_0 a0 v1); conv at e => rhs; simp only [S43_L_0, h0, h1, h2, cond_true, cond_false]
       rw [loopF_inl e]
       refine ba (t2 ++ [.d h2]) [] [0, 3] [] hcx (m := n) B43_L_0 (K43_L_0) (st43_L_0 a0 (W (v1 + 1))) (by kernel_rfl) ?_
       have z0 : (W (v1 + 1)) = (v1 + 1) := W_eq (by omega) (by omega)
       rw [z0]
       exact ih (v1 + 1) (by (try simp only [List.length_append, List.length_cons, List.length_nil, Int.toNat_zero]); omega) (by (try simp only [List.length_append, List.length_cons, List.length_nil, Int.toNat_zero]); omega)
    | false =>
     have q0 := of_decide_eq_false h0
     have e := Eq.refl (S43_L_0 a0 v1); conv at e => rhs; simp only [S43_L_0, h0, cond_true, cond_false]
     rw [loopF_s, e]
     exact rt [.d h0] [] [] hcx (by kernel_rfl)

def F43_L (a0 : List (((Int × Int × Int) × (Int × Int × Int) × Int × Int × Int) × Int)) : Int :=
  (bif (decide ((((a0.length : Nat) : Int) : Int) > 96)) then
   4
  else
   (loopF (S43_L_0 a0) (Int.toNat (((a0.length : Nat) : Int) - 0) + 1) 0))

theorem C43_L (a0 : List (((Int × Int × Int) × (Int × Int × Int) × Int × Int × Int) × Int)) (l0 : a0.length ≤ 9223372036854775807) : Con Tryz.prog 43 [(.s 0 0 a0.length 10)] [(.live false true (flat c85 a0))] (iv (F43_L a0)) [] := by
  refine con_s Tryz.func43 (by kernel_rfl) fun cx hcx => ?_
  cases h0 : (decide ((((a0.length : Nat) : Int) : Int) > 96)) with
  | true =>
   have q0 := of_decide_eq_true h0
   have e := Eq.refl (F43_L a0); conv at e => rhs; simp only [F43_L, h0, cond_true, cond_false]
   rw [e]
   exact rt [.d h0] [] [] hcx (by kernel_rfl)
  | false =>
   have q0 := of_decide_eq_false h0
   have e := Eq.refl (F43_L a0); conv at e => rhs; simp only [F43_L, h0, cond_true, cond_false]
   rw [e]
   refine en [.d h0] [] [0, 3] [] hcx B43_L_0 (K43_L_0) (st43_L_0 a0 0) (Int.toNat (((a0.length : Nat) : Int) - 0) + 1) (by kernel_rfl) ?_
   exact L43_L_0 a0 l0 hcx (Int.toNat (((a0.length : Nat) : Int) - 0) + 1) 0 (by (try simp only [List.length_append, List.length_cons, List.length_nil, Int.toNat_zero]); omega) (by (try simp only [List.length_append, List.length_cons, List.length_nil, Int.toNat_zero]); omega)

end Go.Proofs.YtnbpiejjeeomkaaGreat

namespace Go.Proofs.YtnbpiejjeeomkaaGreat
open Go.Proofs Go.Aw Go.RowKit
set_option maxRecDepth 100000
set_option linter.unusedVariables false
set_option linter.unusedSimpArgs false

/-! ### Roots -/
theorem sq_unique {n a b : Int} (ha : 0 ≤ a) (hb : 0 ≤ b) (h1 : a * a ≤ n) (h2 : n < (a + 1) * (a + 1)) (h3 : b * b ≤ n) (h4 : n < (b + 1) * (b + 1)) : a = b := by
  rcases Int.lt_trichotomy a b with h | h | h
  · have : (a + 1) * (a + 1) ≤ b * b := Int.mul_le_mul (by omega) (by omega) (by omega) hb
    omega
  · exact h
  · have : (b + 1) * (b + 1) ≤ a * a := Int.mul_le_mul (by omega) (by omega) (by omega) ha
    omega
def IsRt (n r : Int) : Prop := 0 ≤ r ∧ r * r ≤ n ∧ n < (r + 1) * (r + 1)
theorem IsRt.eq {n a b : Int} (h : IsRt n a) (h' : IsRt n b) : a = b := sq_unique h.1 h'.1 h.2.1 h.2.2 h'.2.1 h'.2.2
theorem IsRt.le {n r m : Int} (h : IsRt n r) (hm : 0 ≤ m) (hn : n < (m + 1) * (m + 1)) : r ≤ m := by
  rcases Int.lt_or_le m r with hlt | hle
  · have : (m + 1) * (m + 1) ≤ r * r := Int.mul_le_mul (by omega) (by omega) (by omega) h.1
    have := h.2.1; omega
  · exact hle
theorem IsRt.ge {n r m : Int} (h : IsRt n r) (hm : 0 ≤ m) (hn : m * m ≤ n) : m ≤ r := by
  rcases Int.lt_or_le r m with hlt | hle
  · have : (r + 1) * (r + 1) ≤ m * m := Int.mul_le_mul (by omega) (by omega) (by have := h.1; omega) hm
    have := h.2.2; omega
  · exact hle
theorem IsRt.mono {n m a b : Int} (h : IsRt n a) (h' : IsRt m b) (hnm : n ≤ m) : a ≤ b := h'.ge h.1 (Int.le_trans h.2.1 hnm)

theorem bits_spec {n : Int} {S : Int × Int → (Int × Int) ⊕ Int} (hS : ∀ k b, 0 ≤ k → 0 < b → k + b ≤ 2147483648 → S (k, b) = if (k + b) * (k + b) ≤ n then .inl (k + b, b / 2) else .inl (k, b / 2)) (h0 : ∀ k, S (k, 0) = .inr k) :
    ∀ (j f : Nat) (k : Int), j + 2 ≤ f → 0 ≤ k → k + 2 * 2 ^ j ≤ 2147483648 → k * k ≤ n → n < (k + 2 * 2 ^ j) * (k + 2 * 2 ^ j) → IsRt n (loopF S f (k, 2 ^ j)) := by
  intro j
  induction j with
  | zero =>
    intro f k hf hk hb h1 h2
    obtain ⟨f, rfl⟩ : ∃ g, f = g + 2 := ⟨f - 2, by omega⟩
    simp only [Int.pow_zero] at h2 hb ⊢
    have hs := hS k 1 hk (by omega) (by omega)
    by_cases hc : (k + 1) * (k + 1) ≤ n
    · rw [if_pos hc] at hs
      rw [loopF_inl hs, show ((1 : Int) / 2) = 0 by omega, loopF_inr (h0 _)]
      refine ⟨by omega, hc, ?_⟩
      rw [show k + 1 + 1 = k + 2 * 1 by omega]; exact h2
    · rw [if_neg hc] at hs
      rw [loopF_inl hs, show ((1 : Int) / 2) = 0 by omega, loopF_inr (h0 _)]
      exact ⟨hk, h1, by omega⟩
  | succ j ih =>
    intro f k hf hk hb h1 h2
    obtain ⟨f, rfl⟩ : ∃ g, f = g + 1 := ⟨f - 1, by omega⟩
    have hp : (0 : Int) < 2 ^ j := Int.pow_pos (by omega)
    rw [Int.pow_succ] at h2 hb ⊢
    have hs := hS k (2 ^ j * 2) hk (by omega) (by omega)
    have hd : (2 : Int) ^ j * 2 / 2 = 2 ^ j := Int.mul_ediv_cancel _ (by omega)
    rw [hd] at hs
    by_cases hc : (k + 2 ^ j * 2) * (k + 2 ^ j * 2) ≤ n
    · rw [if_pos hc] at hs
      rw [loopF_inl hs]
      refine ih f _ (by omega) (by omega) (by omega) hc ?_
      rw [show k + 2 ^ j * 2 + 2 * 2 ^ j = k + 2 * ((2 : Int) ^ j * 2) by omega]; exact h2
    · rw [if_neg hc] at hs
      rw [loopF_inl hs]
      refine ih f _ (by omega) hk (by omega) h1 ?_
      rw [show k + 2 * (2 : Int) ^ j = k + 2 ^ j * 2 by omega]; omega

theorem bins_spec {n : Int} {S : Int × Int → (Int × Int) ⊕ Int} (hS : ∀ a b, 0 ≤ a → a < b → b ≤ 2147483648 → S (a, b) = if ((a + b + 1) / 2) * ((a + b + 1) / 2) ≤ n then .inl ((a + b + 1) / 2, b) else .inl (a, (a + b + 1) / 2 - 1)) (h0 : ∀ a, S (a, a) = .inr a) :
    ∀ (f : Nat) (a b : Int), 0 ≤ a → a ≤ b → b ≤ 2147483648 → b - a < f → a * a ≤ n → n < (b + 1) * (b + 1) → IsRt n (loopF S f (a, b)) := by
  intro f
  induction f with
  | zero => intro a b _ h _ hf; omega
  | succ f ih =>
    intro a b ha hab hb hf h1 h2
    by_cases he : a = b
    · subst he
      rw [loopF_inr (h0 a)]; exact ⟨ha, h1, h2⟩
    · have hs := hS a b ha (by omega) hb
      by_cases hc : ((a + b + 1) / 2) * ((a + b + 1) / 2) ≤ n
      · rw [if_pos hc] at hs
        rw [loopF_inl hs]
        exact ih _ _ (by omega) (by omega) hb (by omega) hc h2
      · rw [if_neg hc] at hs
        rw [loopF_inl hs]
        refine ih _ _ ha (by omega) (by omega) (by omega) h1 ?_
        rw [show (a + b + 1) / 2 - 1 + 1 = (a + b + 1) / 2 by omega]; omega

theorem sq_bd {a : Int} (h : 0 ≤ a) (h' : a ≤ 2147483648) : 0 ≤ a * a ∧ a * a ≤ 4611686018427387904 := ⟨Int.mul_nonneg h h, Int.le_trans (Int.mul_le_mul h' h' h (by omega)) (by omega)⟩

theorem rtField {n : Int} (h0 : 0 ≤ n) (h : n < 4611686018427387904) : IsRt n (F191 n) := by
  unfold F191
  refine bits_spec (n := n) (fun k b hk hb hkb => ?_) (fun k => ?_) 30 _ 0 (by decide) (by omega) (by decide) (by omega) (by simpa using h)
  · have h2 : decide (b > 0) = true := by simpa using hb
    have hw : W (k + b) = k + b := W_eq (by omega) (by omega)
    have hq := sq_bd (a := k + b) (by omega) hkb
    have hw2 : W ((k + b) * (k + b)) = (k + b) * (k + b) := W_eq (by omega) (by omega)
    simp only [S191_0, h2, cond_true, hw, hw2]
    by_cases hc : (k + b) * (k + b) ≤ n <;> simp [hc]
  · simp [S191_0]

theorem rtSpan {n : Int} (h0 : 0 ≤ n) (h : n < 4611686018427387904) : IsRt n (F229 n) := by
  unfold F229
  rw [show decide ((4611686018427387904 : Int) ≤ n) = false by simpa using h]
  simp only [cond_false]
  refine bits_spec (n := n) (fun k b hk hb hkb => ?_) (fun k => ?_) 30 _ 0 (by decide) (by omega) (by decide) (by omega) (by simpa using h)
  · have h2 : ((b : Int) == 0) = false := by rw [beq_eq_false_iff_ne]; omega
    have hw : W (k + b) = k + b := W_eq (by omega) (by omega)
    have hq := sq_bd (a := k + b) (by omega) hkb
    have hw2 : W ((k + b) * (k + b)) = (k + b) * (k + b) := W_eq (by omega) (by omega)
    simp only [S229_0, h2, cond_false, hw, hw2]
    by_cases hc : (k + b) * (k + b) ≤ n <;> simp [hc]
  · simp [S229_0]

theorem rtRef {n : Int} (h0 : 0 ≤ n) (h : n < 4611686018427387904) : IsRt n (F232 n) := by
  unfold F232
  refine bins_spec (n := n) (fun a b ha hab hb => ?_) (fun a => ?_) _ 0 2147483648 (by omega) (by omega) (by omega) (by decide) (by omega) (by omega)
  · have h2 : decide (a < b) = true := by simpa using hab
    have hw := mid1_eq (a := a) (b := b) (by omega)
    have hw3 := mid2_eq (a := a) (b := b) (by omega)
    have hq := sq_bd (a := (a + b + 1) / 2) (by omega) (by omega)
    have hw2 : W ((a + b + 1) / 2 * ((a + b + 1) / 2)) = (a + b + 1) / 2 * ((a + b + 1) / 2) := W_eq (by omega) (by omega)
    have hw4 : W ((a + b + 1) / 2 - 1) = (a + b + 1) / 2 - 1 := W_eq (by omega) (by omega)
    simp only [S232_0, h2, cond_true, hw, hw2, hw4]
    by_cases hc : (a + b + 1) / 2 * ((a + b + 1) / 2) ≤ n <;> simp [hc]
  · simp [S232_0]

/-! ### Points, in whole numbers -/
abbrev P3 := Int × Int × Int
abbrev PN := P3 × P3 × P3
def bd (m : Int) (p : P3) : Prop := (-m ≤ p.1 ∧ p.1 ≤ m) ∧ (-m ≤ p.2.1 ∧ p.2.1 ≤ m) ∧ (-m ≤ p.2.2 ∧ p.2.2 ≤ m)
def bdP (m : Int) (p : PN) : Prop := bd m p.1 ∧ bd m p.2.1 ∧ bd m p.2.2
def sb (p q : P3) : P3 := (p.1 - q.1, p.2.1 - q.2.1, p.2.2 - q.2.2)
def dt (p q : P3) : Int := p.1 * q.1 + p.2.1 * q.2.1 + p.2.2 * q.2.2
def cr (p q : P3) : P3 := (p.2.1 * q.2.2 - p.2.2 * q.2.1, p.2.2 * q.1 - p.1 * q.2.2, p.1 * q.2.1 - p.2.1 * q.1)
def nrm (p : PN) : P3 := cr (sb p.2.1 p.1) (sb p.2.2 p.1)

theorem mul_bd {a b x y : Int} (hx : -a ≤ x ∧ x ≤ a) (hy : -b ≤ y ∧ y ≤ b) : -(a * b) ≤ x * y ∧ x * y ≤ a * b := by
  have h1 := Int.mul_nonneg (show 0 ≤ a - x by omega) (show 0 ≤ b - y by omega)
  have h2 := Int.mul_nonneg (show 0 ≤ a + x by omega) (show 0 ≤ b + y by omega)
  have h3 := Int.mul_nonneg (show 0 ≤ a - x by omega) (show 0 ≤ b + y by omega)
  have h4 := Int.mul_nonneg (show 0 ≤ a + x by omega) (show 0 ≤ b - y by omega)
  rw [Int.sub_mul, Int.mul_sub, Int.mul_sub] at h1
  rw [Int.add_mul, Int.mul_add, Int.mul_add] at h2
  rw [Int.sub_mul, Int.mul_add, Int.mul_add] at h3
  rw [Int.add_mul, Int.mul_sub, Int.mul_sub] at h4
  omega

theorem bd_sb {a b : Int} {p q : P3} (hp : bd a p) (hq : bd b q) : bd (a + b) (sb p q) := by
  unfold bd at *; simp only [sb]; omega
theorem sq_nn (x : Int) : 0 ≤ x * x := by
  rcases Int.le_total 0 x with h | h
  · exact Int.mul_nonneg h h
  · exact Int.mul_nonneg_of_nonpos_of_nonpos h h
theorem dt_self (p : P3) : 0 ≤ dt p p := by
  have := sq_nn p.1; have := sq_nn p.2.1; have := sq_nn p.2.2
  simp only [dt]; omega
theorem dt_pos {p : P3} (h : ¬ (p.1 = 0 ∧ p.2.1 = 0 ∧ p.2.2 = 0)) : 1 ≤ dt p p := by
  have := sq_nn p.1; have := sq_nn p.2.1; have := sq_nn p.2.2
  have key : ∀ x : Int, x ≠ 0 → 1 ≤ x * x := fun x hx => by
    have h0 := sq_nn x
    have : x * x ≠ 0 := Int.mul_ne_zero hx hx
    omega
  simp only [dt]
  by_cases h1 : p.1 = 0
  · by_cases h2 : p.2.1 = 0
    · have := key p.2.2 (fun h3 => h ⟨h1, h2, h3⟩); omega
    · have := key _ h2; omega
  · have := key _ h1; omega
theorem dt_bd {a : Int} {p q : P3} (hp : bd a p) (hq : bd a q) : -(3 * (a * a)) ≤ dt p q ∧ dt p q ≤ 3 * (a * a) := by
  have := mul_bd hp.1 hq.1; have := mul_bd hp.2.1 hq.2.1; have := mul_bd hp.2.2 hq.2.2
  simp only [dt]; omega
theorem cr_bd {a : Int} {p q : P3} (hp : bd a p) (hq : bd a q) : bd (2 * (a * a)) (cr p q) := by
  have := mul_bd hp.2.1 hq.2.2; have := mul_bd hp.2.2 hq.2.1; have := mul_bd hp.2.2 hq.1; have := mul_bd hp.1 hq.2.2; have := mul_bd hp.1 hq.2.1; have := mul_bd hp.2.1 hq.1
  unfold bd; simp only [cr]; omega

theorem W0 {n : Int} (h : -9223372036854775808 ≤ n ∧ n < 9223372036854775808) : W n = n := W_eq h.1 h.2
theorem fsb {p q : P3} (hp : bd 100000 p) (hq : bd 100000 q) : F190 p q = sb p q := by
  unfold bd at *; simp only [F190, sb]
  rw [W_eq (by omega) (by omega), W_eq (by omega) (by omega), W_eq (by omega) (by omega)]
theorem fdt {p q : P3} (hp : bd 1000000000 p) (hq : bd 1000000000 q) : F192 p q = dt p q := by
  have h1 := mul_bd hp.1 hq.1; have h2 := mul_bd hp.2.1 hq.2.1; have h3 := mul_bd hp.2.2 hq.2.2
  simp only [F192, F228_3, dt]
  rw [W_eq (n := p.1 * q.1) (by omega) (by omega), W_eq (n := p.2.1 * q.2.1) (by omega) (by omega), W_eq (n := p.2.2 * q.2.2) (by omega) (by omega), Int.zero_add, W_eq (n := p.1 * q.1) (by omega) (by omega), W_eq (n := p.1 * q.1 + p.2.1 * q.2.1) (by omega) (by omega), W_eq (by omega) (by omega)]
theorem rdt {p q : P3} (hp : bd 1000000000 p) (hq : bd 1000000000 q) : F205 p q = dt p q := by
  have h1 := mul_bd hp.1 hq.1; have h2 := mul_bd hp.2.1 hq.2.1; have h3 := mul_bd hp.2.2 hq.2.2
  simp only [F205, dt]
  rw [W_eq (n := p.1 * q.1) (by omega) (by omega), W_eq (n := p.2.1 * q.2.1) (by omega) (by omega), W_eq (n := p.2.2 * q.2.2) (by omega) (by omega), W_eq (n := p.1 * q.1 + p.2.1 * q.2.1) (by omega) (by omega), W_eq (by omega) (by omega)]
theorem rsb {p q : P3} (hp : bd 100000 p) (hq : bd 100000 q) : F202 p q = sb p q := by
  unfold bd at *; simp only [F202, sb]
  rw [W_eq (by omega) (by omega), W_eq (by omega) (by omega), W_eq (by omega) (by omega)]
theorem cr_W {p q : P3} (hp : bd 1000000000 p) (hq : bd 1000000000 q) :
    ((W ((W (p.2.1 * q.2.2)) - (W (p.2.2 * q.2.1)))), (W ((W (p.2.2 * q.1)) - (W (p.1 * q.2.2)))), (W ((W (p.1 * q.2.1)) - (W (p.2.1 * q.1))))) = cr p q := by
  have h1 := mul_bd hp.2.1 hq.2.2; have h2 := mul_bd hp.2.2 hq.2.1; have h3 := mul_bd hp.2.2 hq.1; have h4 := mul_bd hp.1 hq.2.2; have h5 := mul_bd hp.1 hq.2.1; have h6 := mul_bd hp.2.1 hq.1
  simp only [cr]
  rw [W_eq (n := p.2.1 * q.2.2) (by omega) (by omega), W_eq (n := p.2.2 * q.2.1) (by omega) (by omega), W_eq (n := p.2.2 * q.1) (by omega) (by omega), W_eq (n := p.1 * q.2.2) (by omega) (by omega), W_eq (n := p.1 * q.2.1) (by omega) (by omega), W_eq (n := p.2.1 * q.1) (by omega) (by omega),
    W_eq (by omega) (by omega), W_eq (by omega) (by omega), W_eq (by omega) (by omega)]
theorem fcr {p q : P3} (hp : bd 1000000000 p) (hq : bd 1000000000 q) : F189 p q = cr p q := cr_W hp hq
theorem scr {p q : P3} (hp : bd 1000000000 p) (hq : bd 1000000000 q) : F187 p q = cr p q := cr_W hp hq
theorem rcr {p q : P3} (hp : bd 1000000000 p) (hq : bd 1000000000 q) : F201 p q = cr p q := cr_W hp hq
theorem ssb {p q : P3} (hp : bd 100000 p) (hq : bd 100000 q) : F188 p q = sb p q := by
  unfold bd at *; simp only [F188, F227, sb]
  rw [W_eq (n := -1 * q.1) (by omega) (by omega), W_eq (n := -1 * q.2.1) (by omega) (by omega), W_eq (n := -1 * q.2.2) (by omega) (by omega), W_eq (by omega) (by omega), W_eq (by omega) (by omega), W_eq (by omega) (by omega)]
  refine Prod.ext (by simp only; omega) (Prod.ext (by simp only; omega) (by simp only; omega))
theorem bd.mono {a b : Int} {p : P3} (h : bd a p) (hab : a ≤ b) : bd b p := by unfold bd at *; omega
theorem bdP.mono {a b : Int} {p : PN} (h : bdP a p) (hab : a ≤ b) : bdP b p := ⟨h.1.mono hab, h.2.1.mono hab, h.2.2.mono hab⟩

/-! ### Valid panels -/
theorem within_eq (n a b : Int) : F82 n a b = decide (a ≤ n ∧ n ≤ b) := by
  unfold F82
  by_cases h1 : n ≥ a <;> by_cases h2 : n ≤ b <;> simp [h1, h2] <;> omega
theorem within_eq3 (n a b : Int) : F87 n a b = decide (a ≤ n ∧ n ≤ b) := by
  unfold F87
  by_cases h1 : n ≥ a <;> by_cases h2 : n ≤ b <;> simp [h1, h2] <;> omega
theorem within_eq1 (n a b : Int) : F124 n a b = decide (a ≤ n ∧ n ≤ b) := by
  unfold F124
  by_cases h1 : n ≥ a <;> by_cases h2 : n ≤ b <;> simp [h1, h2] <;> omega
theorem within_eq2 (n a b : Int) : F200 n a b = decide (a ≤ n ∧ n ≤ b) := by
  unfold F200
  by_cases h1 : n ≥ a <;> by_cases h2 : n ≤ b <;> simp [h1, h2] <;> omega
theorem from_eq (n a b : Int) : F186 n a b = decide (a ≤ n ∧ n ≤ b) := by
  unfold F186
  by_cases h1 : a ≤ n <;> by_cases h2 : n ≤ b <;> simp [h1, h2]
theorem and3 {a b c d : Prop} [Decidable a] [Decidable b] [Decidable c] [Decidable d] (h : (a ∧ b ∧ c) ↔ d) : (bif decide a then (bif decide b then decide c else false) else false) = decide d := by
  by_cases h1 : a
  · by_cases h2 : b
    · rw [decide_eq_true h1, decide_eq_true h2, cond_true, cond_true]
      by_cases h3 : c
      · rw [decide_eq_true h3, decide_eq_true (h.1 ⟨h1, h2, h3⟩)]
      · rw [decide_eq_false h3, decide_eq_false (fun hd => h3 (h.2 hd).2.2)]
    · rw [decide_eq_true h1, decide_eq_false h2, cond_true, cond_false, decide_eq_false (fun hd => h2 (h.2 hd).2.1)]
  · rw [decide_eq_false h1, cond_false, decide_eq_false (fun hd => h1 (h.2 hd).1)]
theorem eq3 (x y z a b : Int) : (bif (((x : Int) == 0) && (((y : Int) == 0) && (((z : Int) == 0) && true))) then a else b) = if x = 0 ∧ y = 0 ∧ z = 0 then a else b := by
  have key : ∀ t : Int, (t == 0) = decide (t = 0) := fun t => by
    by_cases h : t = 0
    · rw [decide_eq_true h]; simpa using h
    · rw [decide_eq_false h]; simpa using h
  rw [key, key, key, Bool.and_true, ← Bool.decide_and, ← Bool.decide_and]
  by_cases h : x = 0 ∧ y = 0 ∧ z = 0
  · rw [if_pos h, decide_eq_true h, cond_true]
  · rw [if_neg h, decide_eq_false h, cond_false]
open Classical in
theorem inRange_eq (p : P3) : F132 p 64 = decide (bd 64 p) := by
  unfold F132
  rw [from_eq, from_eq, from_eq, W_eq (by omega) (by omega)]
  exact and3 (by unfold bd; omega)
open Classical in
theorem near02_eq (p : P3) : F141 p 64 = decide (bd 64 p) := by
  unfold F141
  rw [within_eq2, within_eq2, within_eq2, W_eq (by omega) (by omega)]
  exact and3 (by unfold bd; omega)
open Classical in
noncomputable def vp (p : PN) : Int := if bdP 64 p then (if (nrm p).1 = 0 ∧ (nrm p).2.1 = 0 ∧ (nrm p).2.2 = 0 then 6 else 0) else 1
theorem nrm_s {p : PN} (h : bdP 64 p) : F133 p = nrm p := by
  have h1 := h.1.mono (show (64 : Int) ≤ 100000 by omega); have h2 := h.2.1.mono (show (64 : Int) ≤ 100000 by omega); have h3 := h.2.2.mono (show (64 : Int) ≤ 100000 by omega)
  unfold F133 nrm
  rw [ssb h2 h1, ssb h3 h1]
  exact scr ((bd_sb h.2.1 h.1).mono (by omega)) ((bd_sb h.2.2 h.1).mono (by omega))
theorem nrm_r {p : PN} (h : bdP 64 p) : F142 p = nrm p := by
  have h1 := h.1.mono (show (64 : Int) ≤ 100000 by omega); have h2 := h.2.1.mono (show (64 : Int) ≤ 100000 by omega); have h3 := h.2.2.mono (show (64 : Int) ≤ 100000 by omega)
  unfold F142 nrm
  rw [rsb h2 h1, rsb h3 h1]
  exact rcr ((bd_sb h.2.1 h.1).mono (by omega)) ((bd_sb h.2.2 h.1).mono (by omega))
theorem nrm_f {p : PN} (h : bdP 64 p) : F189 (F190 p.2.1 p.1) (F190 p.2.2 p.1) = nrm p := by
  have h1 := h.1.mono (show (64 : Int) ≤ 100000 by omega); have h2 := h.2.1.mono (show (64 : Int) ≤ 100000 by omega); have h3 := h.2.2.mono (show (64 : Int) ≤ 100000 by omega)
  unfold nrm
  rw [fsb h2 h1, fsb h3 h1]
  exact fcr ((bd_sb h.2.1 h.1).mono (by omega)) ((bd_sb h.2.2 h.1).mono (by omega))
theorem vp_s (p : PN) : F81 p = vp p := by
  unfold F81 vp
  rw [inRange_eq, inRange_eq, inRange_eq]
  by_cases h1 : bd 64 p.1
  · by_cases h2 : bd 64 p.2.1
    · by_cases h3 : bd 64 p.2.2
      · have hb : bdP 64 p := ⟨h1, h2, h3⟩
        rw [nrm_s hb, if_pos hb]
        rw [eq3]; simp [h1, h2, h3]
      · simp [h1, h2, h3, bdP]
    · simp [h1, h2, bdP]
  · simp [h1, bdP]
theorem vp_r (p : PN) : F86 p = vp p := by
  unfold F86 vp
  rw [near02_eq, near02_eq, near02_eq]
  by_cases h1 : bd 64 p.1
  · by_cases h2 : bd 64 p.2.1
    · by_cases h3 : bd 64 p.2.2
      · have hb : bdP 64 p := ⟨h1, h2, h3⟩
        rw [nrm_r hb, if_pos hb]
        rw [eq3]; simp [h1, h2, h3]
      · simp [h1, h2, h3, bdP]
    · simp [h1, h2, bdP]
  · simp [h1, bdP]
theorem vp_ok {p : PN} (h : vp p = 0) : bdP 64 p ∧ 1 ≤ dt (nrm p) (nrm p) := by
  unfold vp at h
  split at h
  · rename_i hb
    split at h
    · cases h
    · rename_i hn; exact ⟨hb, dt_pos hn⟩
  · cases h
theorem nn_bd {p : PN} (h : bdP 64 p) : bd 32768 (nrm p) ∧ dt (nrm p) (nrm p) ≤ 3221225472 := by
  have hb : bd (2 * (128 * 128)) (nrm p) := cr_bd (bd_sb h.2.1 h.1) (bd_sb h.2.2 h.1)
  exact ⟨hb.mono (by omega), by have := (dt_bd hb hb).2; omega⟩
theorem rt_rim {p : PN} (h : vp p = 0) : ∃ k, F191 (F192 (F189 (F190 p.2.1 p.1) (F190 p.2.2 p.1)) (F189 (F190 p.2.1 p.1) (F190 p.2.2 p.1))) = k ∧ IsRt (dt (nrm p) (nrm p)) k ∧ 1 ≤ k ∧ k ≤ 56755 := by
  obtain ⟨hb, hd⟩ := vp_ok h
  obtain ⟨hn, hu⟩ := nn_bd hb
  rw [nrm_f hb, fdt (hn.mono (by omega)) (hn.mono (by omega))]
  have := rtField (n := dt (nrm p) (nrm p)) (by omega) (by omega)
  exact ⟨_, rfl, this, this.ge (by omega) (by omega), this.le (by omega) (by omega)⟩
theorem rim_ne {p : PN} (h : F81 p = 0) : W (128 * F191 (F192 (F189 (F190 p.2.1 p.1) (F190 p.2.2 p.1)) (F189 (F190 p.2.1 p.1) (F190 p.2.2 p.1)))) ≠ 0 := by
  rw [vp_s] at h
  obtain ⟨k, e, _, h1, h2⟩ := rt_rim h
  rw [e, W_eq (by omega) (by omega)]; omega
theorem rim_neR {p : PN} (h : F86 p = 0) : W (128 * F204 (F205 (F142 p) (F142 p))) ≠ 0 := by
  rw [vp_r] at h
  obtain ⟨hb, hd⟩ := vp_ok h
  obtain ⟨hn, hu⟩ := nn_bd hb
  rw [nrm_r hb, rdt (hn.mono (by omega)) (hn.mono (by omega))]
  have := rtRef (n := dt (nrm p) (nrm p)) (by omega) (by omega)
  have h1 := this.ge (m := 1) (by omega) (by omega)
  have h2 := this.le (m := 56755) (by omega) (by omega)
  unfold F204
  rw [W_eq (by omega) (by omega)]; omega

end Go.Proofs.YtnbpiejjeeomkaaGreat

namespace Go.Proofs.YtnbpiejjeeomkaaGreat
open Go.Proofs Go.Aw Go.RowKit
set_option maxRecDepth 100000
set_option linter.unusedVariables false
set_option linter.unusedSimpArgs false

/-! ### The reference's list of parts -/
def quadR (x : PN) : List PN :=
  [(F90 x.1 2, F203 (F90 x.1 2) (F90 x.2.1 2), F203 (F90 x.2.2 2) (F90 x.1 2)),
   (F203 (F90 x.1 2) (F90 x.2.1 2), F90 x.2.1 2, F203 (F90 x.2.1 2) (F90 x.2.2 2)),
   (F203 (F90 x.2.2 2) (F90 x.1 2), F203 (F90 x.2.1 2) (F90 x.2.2 2), F90 x.2.2 2),
   (F203 (F90 x.1 2) (F90 x.2.1 2), F203 (F90 x.2.1 2) (F90 x.2.2 2), F203 (F90 x.2.2 2) (F90 x.1 2))]
def refL : Nat → List PN → List PN
  | 0, l => l
  | n + 1, l => refL n (l.flatMap quadR)
theorem refL_length : ∀ (n : Nat) (l : List PN), (refL n l).length = 4 ^ n * l.length
  | 0, l => by simp [refL]
  | n + 1, l => by
    have : (l.flatMap quadR).length = 4 * l.length := by
      induction l with
      | nil => rfl
      | cons x l ih => rw [List.flatMap_cons, List.length_append, ih]; simp only [quadR, List.length_cons, List.length_nil]; omega
    rw [refL, refL_length n, this, Nat.pow_succ]
    rw [← Nat.mul_assoc, Nat.mul_comm (4 ^ n) 4, Nat.mul_comm 4 (4 ^ n)]
theorem cut_in (a0 : PN) (a1 : Int) (l : List PN) : ∀ (f i : Nat) (nx : List PN) (d : Int), l.length - i < f → i ≤ l.length →
    loopF (S143_1 a0 a1) f (l, nx, d, (i : Int)) = .inl (nx ++ (l.drop i).flatMap quadR, d + 1) := by
  intro f
  induction f with
  | zero => intro i nx d h; omega
  | succ f ih =>
    intro i nx d h hi
    by_cases hlt : i < l.length
    · have hs : S143_1 a0 a1 (l, nx, d, (i : Int)) = .inl (l, nx ++ quadR (l.getD i default), d, ((i + 1 : Nat) : Int)) := by
        have : decide ((i : Int) < (l.length : Int)) = true := by simpa using hlt
        simp only [S143_1, this, cond_true, Int.toNat_natCast, quadR]
        rfl
      rw [loopF_inl hs, ih _ _ _ (by omega) (by omega)]
      have hd : l.drop i = l.getD i default :: l.drop (i + 1) := by
        rw [List.drop_eq_getElem_cons hlt]; simp [List.getD_eq_getElem?_getD, hlt]
      rw [hd, List.flatMap_cons, List.append_assoc]
    · have : decide ((i : Int) < (l.length : Int)) = false := by simpa using hlt
      have hs : S143_1 a0 a1 (l, nx, d, (i : Int)) = .inr (.inl (nx, d + 1)) := by
        simp only [S143_1, this, cond_false]
      rw [loopF_inr hs, List.drop_of_length_le (by omega)]; simp
theorem cut_out (a0 : PN) (a1 : Int) : ∀ (f n : Nat) (l : List PN), n < f → loopF (S143_0 a0 a1) f (l, a1 - n) = refL n l := by
  intro f
  induction f with
  | zero => intro n l h; omega
  | succ f ih =>
    intro n l h
    cases n with
    | zero =>
      have hs : S143_0 a0 a1 (l, a1 - (0 : Nat)) = .inr l := by
        have : decide (a1 - ((0 : Nat) : Int) < a1) = false := by simp
        simp only [S143_0, this, cond_false]
      rw [loopF_inr hs]; rfl
    | succ n =>
      have hs : S143_0 a0 a1 (l, a1 - ((n + 1 : Nat) : Int)) = .inl (l.flatMap quadR, a1 - (n : Nat)) := by
        have : decide (a1 - ((n + 1 : Nat) : Int) < a1) = true := by simp; omega
        simp only [S143_0, this, cond_true]
        have := cut_in a0 a1 l (Int.toNat (((l.length : Nat) : Int) - 0) + 1) 0 [] (a1 - ((n + 1 : Nat) : Int)) (by omega) (by omega)
        simp only [List.drop_zero, List.nil_append] at this
        rw [show ((0 : Nat) : Int) = 0 from rfl] at this
        rw [this, show a1 - ((n + 1 : Nat) : Int) + 1 = a1 - (n : Nat) by omega]
      rw [loopF_inl hs, ih _ _ (by omega)]; rfl
theorem cut_refL (p : PN) {d : Int} (h : 0 ≤ d) : F143 p d = refL d.toNat [p] := by
  unfold F143
  have := cut_out p d (Int.toNat (d - 0) + 1) d.toNat [p] (by omega)
  rw [show d - (d.toNat : Int) = 0 by omega] at this
  exact this
theorem cut_len (p : PN) {d : Int} (h : 0 ≤ d) : (F143 p d).length = 4 ^ d.toNat := by
  rw [cut_refL p h, refL_length]; simp
theorem cut_ne {p : PN} {d : Int} (h : 0 ≤ d) : ((((F143 p d).length : Nat)) : Int) ≠ 0 := by
  rw [cut_len p h]
  have : 0 < 4 ^ d.toNat := Nat.pow_pos (by omega)
  omega
theorem cut_le {p : PN} {d : Int} (h : 0 ≤ d ∧ d ≤ 3) : (F143 p d).length ≤ 64 := by
  rw [cut_len p h.1]
  have : d.toNat ≤ 3 := by omega
  calc 4 ^ d.toNat ≤ 4 ^ 3 := Nat.pow_le_pow_right (by omega) this
    _ = 64 := rfl

/-! ### It is the program's -/
def quad (x : PN) : List PN := [q1 x, q2 x, q3 x, q4 x]
theorem times_f {p : P3} (h : bd 100000 p) : F85 p 2 = (2 * p.1, 2 * p.2.1, 2 * p.2.2) := by
  unfold bd at h; simp only [F85]; rw [W_eq (by omega) (by omega), W_eq (by omega) (by omega), W_eq (by omega) (by omega)]
theorem times_r {p : P3} (h : bd 100000 p) : F90 p 2 = (2 * p.1, 2 * p.2.1, 2 * p.2.2) := by
  unfold bd at h; simp only [F90]; rw [W_eq (by omega) (by omega), W_eq (by omega) (by omega), W_eq (by omega) (by omega)]
theorem mid_f {p q : P3} (hp : bd 100000 p) (hq : bd 100000 q) : F195 p q = (p.1 + q.1, p.2.1 + q.2.1, p.2.2 + q.2.2) := by
  unfold bd at hp hq; simp only [F195]; rw [W_eq (by omega) (by omega), W_eq (by omega) (by omega), W_eq (by omega) (by omega)]
theorem mid_r {p q : P3} (hp : bd 100000 p) (hq : bd 100000 q) : F203 (F90 p 2) (F90 q 2) = (p.1 + q.1, p.2.1 + q.2.1, p.2.2 + q.2.2) := by
  rw [times_r hp, times_r hq]
  have key : ∀ a b : Int, (-100000 ≤ a ∧ a ≤ 100000) → (-100000 ≤ b ∧ b ≤ 100000) → W (Int.tdiv (W (2 * a + 2 * b)) 2) = a + b := fun a b h1 h2 => by
    rw [W_eq (n := 2 * a + 2 * b) (by omega) (by omega), ← Int.mul_add, Int.mul_tdiv_cancel_left _ (by omega), W_eq (by omega) (by omega)]
  simp only [F203]
  rw [key _ _ hp.1 hq.1, key _ _ hp.2.1 hq.2.1, key _ _ hp.2.2 hq.2.2]
theorem quad_eq {x : PN} (h : bdP 100000 x) : quadR x = quad x := by
  unfold quadR quad q1 q2 q3 q4
  rw [mid_r h.1 h.2.1, mid_r h.2.2 h.1, mid_r h.2.1 h.2.2, mid_f h.1 h.2.1, mid_f h.2.2 h.1, mid_f h.2.1 h.2.2, times_r h.1, times_r h.2.1, times_r h.2.2, times_f h.1, times_f h.2.1, times_f h.2.2]
theorem quad_bd {m : Int} {x y : PN} (h : bdP m x) (hm : m ≤ 100000) (hy : y ∈ quad x) : bdP (2 * m) y := by
  have h1 := h.1.mono hm; have h2 := h.2.1.mono hm; have h3 := h.2.2.mono hm
  unfold quad q1 q2 q3 q4 at hy
  rw [mid_f h1 h2, mid_f h3 h1, mid_f h2 h3, times_f h1, times_f h2, times_f h3] at hy
  have ha := h.1; have hb := h.2.1; have hc := h.2.2
  unfold bd at ha hb hc
  simp only [List.mem_cons, List.mem_nil_iff, or_false] at hy
  unfold bdP bd
  rcases hy with rfl | rfl | rfl | rfl <;> simp only <;> omega
theorem cutL_quad : ∀ (d : Nat) (p : PN), cutL (d + 1) p = (cutL d p).flatMap quad
  | 0, p => by simp [cutL, quad]
  | d + 1, p => by
    rw [show cutL (d + 1 + 1) p = cutL (d + 1) (q1 p) ++ (cutL (d + 1) (q2 p) ++ (cutL (d + 1) (q3 p) ++ cutL (d + 1) (q4 p))) from rfl]
    rw [cutL_quad d (q1 p), cutL_quad d (q2 p), cutL_quad d (q3 p), cutL_quad d (q4 p)]
    simp only [cutL, List.flatMap_append]
theorem cutL_bd : ∀ (d : Nat) {m : Int} {p x : PN}, bdP m p → m * 2 ^ d ≤ 100000 → 0 ≤ m → x ∈ cutL d p → bdP (m * 2 ^ d) x
  | 0, m, p, x, h, _, _, hx => by simp [cutL] at hx; subst hx; simpa using h
  | d + 1, m, p, x, h, hm, h0, hx => by
    rw [cutL_quad, List.mem_flatMap] at hx
    obtain ⟨y, hy, hx⟩ := hx
    have hp : (0 : Int) < 2 ^ d := Int.pow_pos (by omega)
    have hle : m * 2 ^ d ≤ m * 2 ^ (d + 1) := Int.mul_le_mul_of_nonneg_left (by rw [Int.pow_succ]; omega) h0
    have := quad_bd (cutL_bd d h (by omega) h0 hy) (by omega) hx
    rw [Int.pow_succ, ← Int.mul_assoc, Int.mul_comm]; exact this
theorem flatMap_eq {α β : Type} {f g : α → List β} : ∀ {l : List α}, (∀ x ∈ l, f x = g x) → l.flatMap f = l.flatMap g
  | [], _ => rfl
  | x :: l, h => by rw [List.flatMap_cons, List.flatMap_cons, h x (by simp), flatMap_eq (fun y hy => h y (by simp [hy]))]
theorem refL_snoc : ∀ (n : Nat) (l : List PN), refL (n + 1) l = (refL n l).flatMap quadR
  | 0, l => rfl
  | n + 1, l => by rw [refL, refL_snoc n]; rfl
theorem cut_eq {p : PN} (hp : bdP 64 p) : ∀ d : Nat, d ≤ 9 → refL d [p] = cutL d p
  | 0, _ => rfl
  | d + 1, h => by
    rw [refL_snoc, cut_eq hp d (by omega), cutL_quad]
    have hle : (64 : Int) * 2 ^ d ≤ 100000 := by
      have h1 : (2 : Nat) ^ d ≤ 2 ^ 9 := Nat.pow_le_pow_right (by omega) (by omega)
      have h2 : (2 : Int) ^ d = ((2 ^ d : Nat) : Int) := by simp
      omega
    exact flatMap_eq (fun x hx => quad_eq ((cutL_bd d hp hle (by omega) hx).mono hle))
theorem cutR {p : PN} (hp : bdP 64 p) {d : Int} (h : 0 ≤ d ∧ d ≤ 3) : F143 p d = cutL d.toNat p := by
  rw [cut_refL p h.1, cut_eq hp _ (by omega)]

end Go.Proofs.YtnbpiejjeeomkaaGreat

namespace Go.Proofs.YtnbpiejjeeomkaaGreat
open Go.Proofs Go.Aw Go.RowKit
set_option maxRecDepth 100000
set_option linter.unusedVariables false
set_option linter.unusedSimpArgs false

theorem C136 (a0 : (Int × Int × Int) × (Int × Int × Int) × Int × Int × Int) (a1 : Int) : Con Tryz.prog 136 [(.a (k9 a0)), (iv a1)] [] (.f 193 [(.p 0 0), (.p 1 0)]) [(.live true false (k9 a0)), (.live true false [(iv a1)])] := by
  refine con_s Tryz.func136 (by kernel_rfl) fun cx hcx => ?_
  exact rt [] [] [0, 1] hcx (by kernel_rfl)

def F135 (a0 : (Int × Int × Int) × (Int × Int × Int) × Int × Int × Int) : (Int × Int × Int) × (Int × Int × Int) × Int × Int × Int :=
  a0

theorem C135 (a0 : (Int × Int × Int) × (Int × Int × Int) × Int × Int × Int) : Con Tryz.prog 135 [(.a (k9 a0))] [] (.a (k9 (F135 a0))) [] := by
  refine con_s Tryz.func135 (by kernel_rfl) fun cx hcx => ?_
  have e := Eq.refl (F135 a0); conv at e => rhs; simp only [F135]
  rw [e]
  exact rt [] [] [] hcx (by kernel_rfl)

def F140 (a0 : Int) (a1 : Int) (a2 : Int) : Int × Int :=
  (F199 (a0, a1) a2).1

theorem C140 (a0 : Int) (a1 : Int) (a2 : Int) : Con Tryz.prog 140 [(iv a0), (iv a1), (iv a2)] [] (.a (k2 (F140 a0 a1 a2))) [] := by
  refine con_s Tryz.func140 (by kernel_rfl) fun cx hcx => ?_
  have e := Eq.refl (F140 a0 a1 a2); conv at e => rhs; simp only [F140]
  rw [e]
  exact rt [.c [] (C199 (a0, a1) a2)] [] [] hcx (by kernel_rfl)

def F134 (a0 : (Int × Int × Int) × (Int × Int × Int) × Int × Int × Int) (a1 : Int) : Int :=
  (bif (decide (((W ((W ((F191 (W (Int.tdiv (W (3537128906555392 * 2 ^ (min (Int.toNat (W (2 * a1))) 64))) (W (128 * (F191 (F192 (F189 (F190 a0.2.1 a0.1) (F190 a0.2.2 a0.1)) (F189 (F190 a0.2.1 a0.1) (F190 a0.2.2 a0.1))))))))) * (F191 (W (Int.tdiv (W (3537128906555392 * 2 ^ (min (Int.toNat (W (2 * a1))) 64))) (W (128 * (F191 (F192 (F189 (F190 a0.2.1 a0.1) (F190 a0.2.2 a0.1)) (F189 (F190 a0.2.1 a0.1) (F190 a0.2.2 a0.1))))))))))) * (W (128 * (F191 (F192 (F189 (F190 a0.2.1 a0.1) (F190 a0.2.2 a0.1)) (F189 (F190 a0.2.1 a0.1) (F190 a0.2.2 a0.1)))))))) : Int) < (W (3537128906555392 * 2 ^ (min (Int.toNat (W (2 * a1))) 64))))) then
   (W ((F191 (W (Int.tdiv (W (3537128906555392 * 2 ^ (min (Int.toNat (W (2 * a1))) 64))) (W (128 * (F191 (F192 (F189 (F190 a0.2.1 a0.1) (F190 a0.2.2 a0.1)) (F189 (F190 a0.2.1 a0.1) (F190 a0.2.2 a0.1))))))))) + 1))
  else
   (F191 (W (Int.tdiv (W (3537128906555392 * 2 ^ (min (Int.toNat (W (2 * a1))) 64))) (W (128 * (F191 (F192 (F189 (F190 a0.2.1 a0.1) (F190 a0.2.2 a0.1)) (F189 (F190 a0.2.1 a0.1) (F190 a0.2.2 a0.1))))))))))

theorem C134 (a0 : (Int × Int × Int) × (Int × Int × Int) × Int × Int × Int) (a1 : Int) (hp : F81 a0 = 0) (ha : 0 ≤ a1 ∧ a1 ≤ 3) : Con Tryz.prog 134 [(.a (k9 a0)), (iv a1)] [] (iv (F134 a0 a1)) [] := by
  refine con_s Tryz.func134 (by kernel_rfl) fun cx hcx => ?_
  let t0 : List (St Tryz.prog) := [.c [] (C190 a0.2.1 a0.1), .c [] (C190 a0.2.2 a0.1), .c [] (C189 (F190 a0.2.1 a0.1) (F190 a0.2.2 a0.1)), .c [] (C192 (F189 (F190 a0.2.1 a0.1) (F190 a0.2.2 a0.1)) (F189 (F190 a0.2.1 a0.1) (F190 a0.2.2 a0.1))), .c [] (C191 (F192 (F189 (F190 a0.2.1 a0.1) (F190 a0.2.2 a0.1)) (F189 (F190 a0.2.1 a0.1) (F190 a0.2.2 a0.1)))), .p (show 0 ≤ ((W (2 * a1)) : Int) from by first | (rw [W_eq] <;> omega) | exact rim_ne hp), .p (show ((W (128 * (F191 (F192 (F189 (F190 a0.2.1 a0.1) (F190 a0.2.2 a0.1)) (F189 (F190 a0.2.1 a0.1) (F190 a0.2.2 a0.1)))))) : Int) ≠ 0 from by first | (rw [W_eq] <;> omega) | exact rim_ne hp), .c [] (C191 (W (Int.tdiv (W (3537128906555392 * 2 ^ (min (Int.toNat (W (2 * a1))) 64))) (W (128 * (F191 (F192 (F189 (F190 a0.2.1 a0.1) (F190 a0.2.2 a0.1)) (F189 (F190 a0.2.1 a0.1) (F190 a0.2.2 a0.1)))))))))]
  cases h0 : (decide (((W ((W ((F191 (W (Int.tdiv (W (3537128906555392 * 2 ^ (min (Int.toNat (W (2 * a1))) 64))) (W (128 * (F191 (F192 (F189 (F190 a0.2.1 a0.1) (F190 a0.2.2 a0.1)) (F189 (F190 a0.2.1 a0.1) (F190 a0.2.2 a0.1))))))))) * (F191 (W (Int.tdiv (W (3537128906555392 * 2 ^ (min (Int.toNat (W (2 * a1))) 64))) (W (128 * (F191 (F192 (F189 (F190 a0.2.1 a0.1) (F190 a0.2.2 a0.1)) (F189 (F190 a0.2.1 a0.1) (F190 a0.2.2 a0.1))))))))))) * (W (128 * (F191 (F192 (F189 (F190 a0.2.1 a0.1) (F190 a0.2.2 a0.1)) (F189 (F190 a0.2.1 a0.1) (F190 a0.2.2 a0.1)))))))) : Int) < (W (3537128906555392 * 2 ^ (min (Int.toNat (W (2 * a1))) 64))))) with
  | true =>
   have q0 := of_decide_eq_true h0
   have e := Eq.refl (F134 a0 a1); conv at e => rhs; simp only [F134, h0, cond_true, cond_false]
   rw [e]
   exact rt (t0 ++ [.d h0]) [] [] hcx (by kernel_rfl)
  | false =>
   have q0 := of_decide_eq_false h0
   have e := Eq.refl (F134 a0 a1); conv at e => rhs; simp only [F134, h0, cond_true, cond_false]
   rw [e]
   exact rt (t0 ++ [.d h0]) [] [] hcx (by kernel_rfl)

noncomputable def RA84 : Code := match (codeAtD [1, 1, 1, 1, 0, 1, 0] [] (Tryz.f84.body.getD .skip)).1 with
  | .rangeFunc _ _ a b => a
  | _ => .skip

noncomputable def RB84 : Code := match (codeAtD [1, 1, 1, 1, 0, 1, 0] [] (Tryz.f84.body.getD .skip)).1 with
  | .rangeFunc _ _ a b => b
  | _ => .skip

noncomputable def RK84 : List K := (codeAtD [1, 1, 1, 1, 0, 1, 0] [] (Tryz.f84.body.getD .skip)).2

def st84 (a0 : (Int × Int × Int) × (Int × Int × Int) × Int × Int × Int) (a1 : (Int × Int × Int) × (Int × Int × Int) × Int × Int × Int) (a2 : Int) : Int × Int → LS
  | (v1, v2) => ⟨[.u, .u, (iv a2), .u, .u, .u, (.p 0 0), (.p 1 0), (.p 2 0), (.p 3 0), (.p 4 0), (.p 5 0), .u, .u, .u, .u, .u, .u, .u, .u, .u, .u, .u, .u, .u, .u, .u, .u, .u, (.f 193 [(.p 6 0), (.p 7 0)]), .u, .u, .u, .u, .u, .u, .u, .u, .u, .u, .u, .u, .u, .u, .u, .u, .u, .u, .u, .u, .u, .u, .u, .u, .u, .u, .u, .u, .u, .u, .u, .u, .u, .u, .u, .u, .u, .u, .u, .u], [(.live true false [(iv 0), (iv 0)]), (.live true false [(iv (W (1 * 2 ^ (min (Int.toNat a2) 64))))]), (.live true false [(iv (F134 a0 a2))]), (.live true false (k9 (F135 a1))), (.live true false [(iv v1)]), (.live true false [(iv v2)]), (.live true false (k9 a0)), (.live true false [(iv a2)])]⟩

def sA84 (a0 : (Int × Int × Int) × (Int × Int × Int) × Int × Int × Int) (a1 : (Int × Int × Int) × (Int × Int × Int) × Int × Int × Int) (a2 : Int) : Int × Int → (Int × Int × Int) × (Int × Int × Int) × Int × Int × Int → LS
  | (v1, v2), x => ⟨[.u, .u, .u, .u, .u, .u, .u, (.p 1 0), (.p 2 0), (.p 3 0), (.p 4 0), (.p 5 0), (.p 8 0), .u, .u, .u, .u, .u, .u, .u, .u, .u, .u, .u, .u, .u, .u, .u, .u, .u, .u, .u, .u, .u, .u, .u, .u, .u, .u, .u, .u, .u, .u, .u, .u, .u, .u, .u, .u, .u, .u, .u, .u, .u, .u, .u, .u, .u, .u, .u, .u, .u, .u, .u, .u, .u, .u, .u, .u, .u], [(.live true false [(iv 0), (iv 0)]), (.live true false [(iv (W (1 * 2 ^ (min (Int.toNat a2) 64))))]), (.live true false [(iv (F134 a0 a2))]), (.live true false (k9 (F135 a1))), (.live true false [(iv v1)]), (.live true false [(iv v2)]), (.live true false (k9 a0)), (.live true false [(iv a2)]), (.live true false (k9 x))]⟩

def S84_r (a0 : (Int × Int × Int) × (Int × Int × Int) × Int × Int × Int) (a1 : (Int × Int × Int) × (Int × Int × Int) × Int × Int × Int) (a2 : Int) : Int × Int → (Int × Int × Int) × (Int × Int × Int) × Int × Int × Int → Int × Int
  | (v1, v2), x =>
   (bif (decide (((F139_3_3 (F135 x) (F135 a1)) : Int) > 0)) then
    ((W (v1 + (F137 (F138_L_L ([(F135 x).1, (F135 x).2.1, (F135 x).2.2] : List (Int × Int × Int)) ([(F135 a1).1, (F135 a1).2.1, (F135 a1).2.2] : List (Int × Int × Int))) (W (1 * 2 ^ (min (Int.toNat a2) 64)))).1.1)), (W (v2 + (if ((F137 (F139_3_3 (F135 x) (F135 a1)) (W (1 * 2 ^ (min (Int.toNat a2) 64)))).1.2 : Int) < (F134 a0 a2) then (F137 (F139_3_3 (F135 x) (F135 a1)) (W (1 * 2 ^ (min (Int.toNat a2) 64)))).1.2 else (F134 a0 a2)))))
   else
    ((W (v1 + (F137 (F138_L_L ([(F135 x).1, (F135 x).2.1, (F135 x).2.2] : List (Int × Int × Int)) ([(F135 a1).1, (F135 a1).2.1, (F135 a1).2.2] : List (Int × Int × Int))) (W (1 * 2 ^ (min (Int.toNat a2) 64)))).1.1)), (W (v2 + (F134 a0 a2)))))

def G84 (a0 : (Int × Int × Int) × (Int × Int × Int) × Int × Int × Int) (a1 : (Int × Int × Int) × (Int × Int × Int) × Int × Int × Int) (a2 : Int) : Int × Int → Int × Int
  | (v1, v2) =>
   (F140 v1 v2 (W (1 * 2 ^ (min (Int.toNat (W (2 * a2))) 64))))

def F84 (a0 : (Int × Int × Int) × (Int × Int × Int) × Int × Int × Int) (a1 : (Int × Int × Int) × (Int × Int × Int) × Int × Int × Int) (a2 : Int) : Int × Int :=
  (G84 a0 a1 a2 ((cutL (Int.toNat a2) a0).foldl (S84_r a0 a1 a2) (0, 0)))

theorem C84 (a0 : (Int × Int × Int) × (Int × Int × Int) × Int × Int × Int) (a1 : (Int × Int × Int) × (Int × Int × Int) × Int × Int × Int) (a2 : Int) (hp : F81 a0 = 0) (ha : 0 ≤ a2 ∧ a2 ≤ 3) : Con Tryz.prog 84 [(.a (k9 a0)), (.a (k9 a1)), (iv a2)] [] (.a (k2 (F84 a0 a1 a2))) [] := by
  have e : (F84 a0 a1 a2) = (G84 a0 a1 a2 ((cutL (Int.toNat a2) a0).foldl (S84_r a0 a1 a2) (0, 0))) := by simp only [F84]
  rw [e]
  refine con_of_mark (n := 9) Tryz.func84 rfl (ent Tryz.func84 (by kernel_rfl) rfl) (by show 3 ≤ Tryz.f84.ntmps; decide) (by kernel_rfl) trivial (fun cx hcx => ?_)
  refine at_of (T := T0) hT hm (f := 5000) (orc := [.call [] (iv (F134 a0 a2)) [], .call [] (.a (k9 (F135 a1))) [], .call [] (.f 193 [(.p 0 0), (.p 1 0)]) [(.live true false (k9 a0)), (.live true false [(iv a2)])]]) [] [2, 6, 7, 8, 9, 10, 11, 29] [2, 3, 4, 5, 6, 7, 8, 9] hcx (x := .rangeFunc (.tmp 29) #[30] RA84 RB84) (k' := RK84) (s' := st84 a0 a1 a2 (0, 0))
    (obs := [.pr (0 ≤ (a2 : Int)), .call 134 [(.a (k9 a0)), (iv a2)] [] (iv (F134 a0 a2)) [], .call 135 [(.a (k9 a1))] [] (.a (k9 (F135 a1))) [], .call 136 [(.a (k9 a0)), (iv a2)] [] (.f 193 [(.p 0 0), (.p 1 0)]) [(.live true false (k9 a0)), (.live true false [(iv a2)])]]) (by kernel_rfl) ⟨(show 0 ≤ (a2 : Int) from by first | omega | (rw [W_eq] <;> omega) | exact u64_nn _), (C134 a0 a2  hp ha), (C135 a1), (C136 a0 a2), trivial⟩ ?_
  refine range_of (xs := cutL (Int.toNat a2) a0) (enc := encP) (V := Int × Int) (R' := Empty) hcx rfl (by decide) [6, 7] [(.p 0 0), (.p 1 0)] [(.live false false (k9 a0)), (.live false false [(iv a2)])] rfl rfl (iter_cutI a0 a2 (by first | omega | exact pair_le h0)) (fun x => SV.a (cP x)) encP_rel cP_has 8 (Nat.le_of_ble_eq_true rfl) (of_decide_eq_true (by kernel_rfl))
    (st84 a0 a1 a2) (0, 0) rfl (fun ⟨v1, v2⟩ => (by kernel_rfl)) (by kernel_rfl) (fun v v' => (roSub_own (roSub_own (roSub_own (roSub_own (roSub_own (roSub_own (roSub_own (roSub_own roSub_nil))))))))) (fun ⟨v1, v2⟩ => (by kernel_rfl)) (fun ⟨v1, v2⟩ => (by kernel_rfl)) (fun ⟨v1, v2⟩ => (Nat.le_of_ble_eq_true (by kernel_rfl)))
    (fun v x => .inl (S84_r a0 a1 a2 v x)) (fun r => r.elim) (fun v r => r.elim) (fun r => r.elim)
    (fun _ _ => True) trivial (sA84 a0 a1 a2) (fun ⟨v1, v2⟩ x => (by kernel_rfl)) (fun ⟨v1, v2⟩ x => (by kernel_rfl)) (fun ⟨v1, v2⟩ x => (Nat.le_of_ble_eq_true (by kernel_rfl)))
    (fun cx' l i ⟨v1, v2⟩ x QA hcx' hx hinv hg => norm_of (T := T0) hT hm (f := 5000) (orc := []) [] [7, 8, 9, 10, 11, 12] [8] hcx' (obs := []) (by kernel_rfl) trivial hg)
    (fun cx' l i ⟨v1, v2⟩ x QB hcx' hx hinv hb1 hb2 => ?_) (fun cx' d ⟨v1, v2⟩ hh hv hinv => ?_) (fun cx' d r hh hv => ?_)
  · show Aw.Good _ _ _ _ _ _ _ (sA84 a0 a1 a2 (v1, v2) x)
    cases h0 : (decide (((F139_3_3 (F135 x) (F135 a1)) : Int) > 0)) with
    | true =>
      have q0 := of_decide_eq_true h0
      have e : (Sum.inl (S84_r a0 a1 a2 (v1, v2) x) : (Int × Int) ⊕ Empty) = .inl ((W (v1 + (F137 (F138_L_L ([(F135 x).1, (F135 x).2.1, (F135 x).2.2] : List (Int × Int × Int)) ([(F135 a1).1, (F135 a1).2.1, (F135 a1).2.2] : List (Int × Int × Int))) (W (1 * 2 ^ (min (Int.toNat a2) 64)))).1.1)), (W (v2 + (if ((F137 (F139_3_3 (F135 x) (F135 a1)) (W (1 * 2 ^ (min (Int.toNat a2) 64)))).1.2 : Int) < (F134 a0 a2) then (F137 (F139_3_3 (F135 x) (F135 a1)) (W (1 * 2 ^ (min (Int.toNat a2) 64)))).1.2 else (F134 a0 a2))))) := by simp only [S84_r, h0, cond_true, cond_false]
      refine norm_of (T := T0) hT hm (f := 5000) (orc := [.call [] (.a (k9 (F135 x))) [], .call [9, 3] (iv (F138_L_L ([(F135 x).1, (F135 x).2.1, (F135 x).2.2] : List (Int × Int × Int)) ([(F135 a1).1, (F135 a1).2.1, (F135 a1).2.2] : List (Int × Int × Int)))) [], .call [] (.t [(.a (k2 (F137 (F138_L_L ([(F135 x).1, (F135 x).2.1, (F135 x).2.2] : List (Int × Int × Int)) ([(F135 a1).1, (F135 a1).2.1, (F135 a1).2.2] : List (Int × Int × Int))) (W (1 * 2 ^ (min (Int.toNat a2) 64)))).1)), (iv (F137 (F138_L_L ([(F135 x).1, (F135 x).2.1, (F135 x).2.2] : List (Int × Int × Int)) ([(F135 a1).1, (F135 a1).2.1, (F135 a1).2.2] : List (Int × Int × Int))) (W (1 * 2 ^ (min (Int.toNat a2) 64)))).2)]) [], .call [9, 3] (iv (F139_3_3 (F135 x) (F135 a1))) [], .d true, .call [] (.t [(.a (k2 (F137 (F139_3_3 (F135 x) (F135 a1)) (W (1 * 2 ^ (min (Int.toNat a2) 64)))).1)), (iv (F137 (F139_3_3 (F135 x) (F135 a1)) (W (1 * 2 ^ (min (Int.toNat a2) 64)))).2)]) []]) [] [] [] hcx' (s' := ⟨List.replicate 70 .u, [(.live true false [(iv 0), (iv 0)]), (.live true false [(iv (W (1 * 2 ^ (min (Int.toNat a2) 64))))]), (.live true false [(iv (F134 a0 a2))]), (.live true false (k9 (F135 a1))), (.live true false [(iv (W (v1 + (F137 (F138_L_L ([(F135 x).1, (F135 x).2.1, (F135 x).2.2] : List (Int × Int × Int)) ([(F135 a1).1, (F135 a1).2.1, (F135 a1).2.2] : List (Int × Int × Int))) (W (1 * 2 ^ (min (Int.toNat a2) 64)))).1.1)))]), (.live true false [(iv (W (v2 + (if ((F137 (F139_3_3 (F135 x) (F135 a1)) (W (1 * 2 ^ (min (Int.toNat a2) 64)))).1.2 : Int) < (F134 a0 a2) then (F137 (F139_3_3 (F135 x) (F135 a1)) (W (1 * 2 ^ (min (Int.toNat a2) 64)))).1.2 else (F134 a0 a2)))))]), (.live true false (k9 a0)), (.live true false [(iv a2)])]⟩)
        (obs := [.call 135 [(.a (k9 x))] [] (.a (k9 (F135 x))) [], .call 138 [(.s 0 0 3 3), (.s 1 0 3 3)] [(.live false false (k9 (F135 x))), (.live false false (k9 (F135 a1)))] (iv (F138_L_L ([(F135 x).1, (F135 x).2.1, (F135 x).2.2] : List (Int × Int × Int)) ([(F135 a1).1, (F135 a1).2.1, (F135 a1).2.2] : List (Int × Int × Int)))) [], .call 137 [(iv (F138_L_L ([(F135 x).1, (F135 x).2.1, (F135 x).2.2] : List (Int × Int × Int)) ([(F135 a1).1, (F135 a1).2.1, (F135 a1).2.2] : List (Int × Int × Int)))), (iv (W (1 * 2 ^ (min (Int.toNat a2) 64))))] [] (.t [(.a (k2 (F137 (F138_L_L ([(F135 x).1, (F135 x).2.1, (F135 x).2.2] : List (Int × Int × Int)) ([(F135 a1).1, (F135 a1).2.1, (F135 a1).2.2] : List (Int × Int × Int))) (W (1 * 2 ^ (min (Int.toNat a2) 64)))).1)), (iv (F137 (F138_L_L ([(F135 x).1, (F135 x).2.1, (F135 x).2.2] : List (Int × Int × Int)) ([(F135 a1).1, (F135 a1).2.1, (F135 a1).2.2] : List (Int × Int × Int))) (W (1 * 2 ^ (min (Int.toNat a2) 64)))).2)]) [], .call 139 [(.s 0 0 3 3), (.s 1 0 3 3)] [(.live false false (k9 (F135 x))), (.live false false (k9 (F135 a1)))] (iv (F139_3_3 (F135 x) (F135 a1))) [], .eq (decide (((F139_3_3 (F135 x) (F135 a1)) : Int) > 0)) true, .call 137 [(iv (F139_3_3 (F135 x) (F135 a1))), (iv (W (1 * 2 ^ (min (Int.toNat a2) 64))))] [] (.t [(.a (k2 (F137 (F139_3_3 (F135 x) (F135 a1)) (W (1 * 2 ^ (min (Int.toNat a2) 64)))).1)), (iv (F137 (F139_3_3 (F135 x) (F135 a1)) (W (1 * 2 ^ (min (Int.toNat a2) 64)))).2)]) []]) (by kernel_rfl) ⟨(C135 x), (Con.flags (bs' := [(.live false false (k9 (F135 x))), (.live false false (k9 (F135 a1)))]) (C138_L_L ([(F135 x).1, (F135 x).2.1, (F135 x).2.2] : List (Int × Int × Int)) ([(F135 a1).1, (F135 a1).2.1, (F135 a1).2.2] : List (Int × Int × Int)) (by (try simp only [List.length_append, List.length_cons, List.length_nil, Int.toNat_zero]); omega) (by (try simp only [List.length_append, List.length_cons, List.length_nil, Int.toNat_zero]); omega)) rfl ⟨flat_plain (fun _ => rfl), flat_plain (fun _ => rfl), trivial⟩), (C137 (F138_L_L ([(F135 x).1, (F135 x).2.1, (F135 x).2.2] : List (Int × Int × Int)) ([(F135 a1).1, (F135 a1).2.1, (F135 a1).2.2] : List (Int × Int × Int))) (W (1 * 2 ^ (min (Int.toNat a2) 64)))), (C139_3_3 (F135 x) (F135 a1)), h0, (C137 (F139_3_3 (F135 x) (F135 a1)) (W (1 * 2 ^ (min (Int.toNat a2) 64)))), trivial⟩ ?_
      exact hb1 _ e trivial
    | false =>
      have q0 := of_decide_eq_false h0
      have e : (Sum.inl (S84_r a0 a1 a2 (v1, v2) x) : (Int × Int) ⊕ Empty) = .inl ((W (v1 + (F137 (F138_L_L ([(F135 x).1, (F135 x).2.1, (F135 x).2.2] : List (Int × Int × Int)) ([(F135 a1).1, (F135 a1).2.1, (F135 a1).2.2] : List (Int × Int × Int))) (W (1 * 2 ^ (min (Int.toNat a2) 64)))).1.1)), (W (v2 + (F134 a0 a2)))) := by simp only [S84_r, h0, cond_true, cond_false]
      refine norm_of (T := T0) hT hm (f := 5000) (orc := [.call [] (.a (k9 (F135 x))) [], .call [9, 3] (iv (F138_L_L ([(F135 x).1, (F135 x).2.1, (F135 x).2.2] : List (Int × Int × Int)) ([(F135 a1).1, (F135 a1).2.1, (F135 a1).2.2] : List (Int × Int × Int)))) [], .call [] (.t [(.a (k2 (F137 (F138_L_L ([(F135 x).1, (F135 x).2.1, (F135 x).2.2] : List (Int × Int × Int)) ([(F135 a1).1, (F135 a1).2.1, (F135 a1).2.2] : List (Int × Int × Int))) (W (1 * 2 ^ (min (Int.toNat a2) 64)))).1)), (iv (F137 (F138_L_L ([(F135 x).1, (F135 x).2.1, (F135 x).2.2] : List (Int × Int × Int)) ([(F135 a1).1, (F135 a1).2.1, (F135 a1).2.2] : List (Int × Int × Int))) (W (1 * 2 ^ (min (Int.toNat a2) 64)))).2)]) [], .call [9, 3] (iv (F139_3_3 (F135 x) (F135 a1))) [], .d false]) [] [] [] hcx' (s' := ⟨List.replicate 70 .u, [(.live true false [(iv 0), (iv 0)]), (.live true false [(iv (W (1 * 2 ^ (min (Int.toNat a2) 64))))]), (.live true false [(iv (F134 a0 a2))]), (.live true false (k9 (F135 a1))), (.live true false [(iv (W (v1 + (F137 (F138_L_L ([(F135 x).1, (F135 x).2.1, (F135 x).2.2] : List (Int × Int × Int)) ([(F135 a1).1, (F135 a1).2.1, (F135 a1).2.2] : List (Int × Int × Int))) (W (1 * 2 ^ (min (Int.toNat a2) 64)))).1.1)))]), (.live true false [(iv (W (v2 + (F134 a0 a2))))]), (.live true false (k9 a0)), (.live true false [(iv a2)])]⟩)
        (obs := [.call 135 [(.a (k9 x))] [] (.a (k9 (F135 x))) [], .call 138 [(.s 0 0 3 3), (.s 1 0 3 3)] [(.live false false (k9 (F135 x))), (.live false false (k9 (F135 a1)))] (iv (F138_L_L ([(F135 x).1, (F135 x).2.1, (F135 x).2.2] : List (Int × Int × Int)) ([(F135 a1).1, (F135 a1).2.1, (F135 a1).2.2] : List (Int × Int × Int)))) [], .call 137 [(iv (F138_L_L ([(F135 x).1, (F135 x).2.1, (F135 x).2.2] : List (Int × Int × Int)) ([(F135 a1).1, (F135 a1).2.1, (F135 a1).2.2] : List (Int × Int × Int)))), (iv (W (1 * 2 ^ (min (Int.toNat a2) 64))))] [] (.t [(.a (k2 (F137 (F138_L_L ([(F135 x).1, (F135 x).2.1, (F135 x).2.2] : List (Int × Int × Int)) ([(F135 a1).1, (F135 a1).2.1, (F135 a1).2.2] : List (Int × Int × Int))) (W (1 * 2 ^ (min (Int.toNat a2) 64)))).1)), (iv (F137 (F138_L_L ([(F135 x).1, (F135 x).2.1, (F135 x).2.2] : List (Int × Int × Int)) ([(F135 a1).1, (F135 a1).2.1, (F135 a1).2.2] : List (Int × Int × Int))) (W (1 * 2 ^ (min (Int.toNat a2) 64)))).2)]) [], .call 139 [(.s 0 0 3 3), (.s 1 0 3 3)] [(.live false false (k9 (F135 x))), (.live false false (k9 (F135 a1)))] (iv (F139_3_3 (F135 x) (F135 a1))) [], .eq (decide (((F139_3_3 (F135 x) (F135 a1)) : Int) > 0)) false]) (by kernel_rfl) ⟨(C135 x), (Con.flags (bs' := [(.live false false (k9 (F135 x))), (.live false false (k9 (F135 a1)))]) (C138_L_L ([(F135 x).1, (F135 x).2.1, (F135 x).2.2] : List (Int × Int × Int)) ([(F135 a1).1, (F135 a1).2.1, (F135 a1).2.2] : List (Int × Int × Int)) (by (try simp only [List.length_append, List.length_cons, List.length_nil, Int.toNat_zero]); omega) (by (try simp only [List.length_append, List.length_cons, List.length_nil, Int.toNat_zero]); omega)) rfl ⟨flat_plain (fun _ => rfl), flat_plain (fun _ => rfl), trivial⟩), (C137 (F138_L_L ([(F135 x).1, (F135 x).2.1, (F135 x).2.2] : List (Int × Int × Int)) ([(F135 a1).1, (F135 a1).2.1, (F135 a1).2.2] : List (Int × Int × Int))) (W (1 * 2 ^ (min (Int.toNat a2) 64)))), (C139_3_3 (F135 x) (F135 a1)), h0, trivial⟩ ?_
      exact hb1 _ e trivial
  · rw [runL_foldl, Sum.inl.injEq] at hv; rw [hv]
    show Aw.Good _ _ _ _ _ _ _ (st84 a0 a1 a2 (v1, v2))
    have e : G84 a0 a1 a2 (v1, v2) = (F140 v1 v2 (W (1 * 2 ^ (min (Int.toNat (W (2 * a2))) 64)))) := by simp only [G84]
    rw [e]
    exact retH_of (T := T0) hT hm (f := 5000) (orc := [.call [] (.a (k2 (F140 v1 v2 (W (1 * 2 ^ (min (Int.toNat (W (2 * a2))) 64)))))) []]) [] [] [] hh hcx
      (obs := [.pr (0 ≤ ((W (2 * a2)) : Int)), .call 140 [(iv v1), (iv v2), (iv (W (1 * 2 ^ (min (Int.toNat (W (2 * a2))) 64))))] [] (.a (k2 (F140 v1 v2 (W (1 * 2 ^ (min (Int.toNat (W (2 * a2))) 64)))))) []]) (by kernel_rfl) ⟨(show 0 ≤ ((W (2 * a2)) : Int) from by first | omega | (rw [W_eq] <;> omega) | exact u64_nn _), (C140 v1 v2 (W (1 * 2 ^ (min (Int.toNat (W (2 * a2))) 64)))), trivial⟩
  · exact r.elim

end Go.Proofs.YtnbpiejjeeomkaaGreat

namespace Go.Proofs.YtnbpiejjeeomkaaGreat
open Go.Proofs Go.Aw Go.RowKit
set_option maxRecDepth 100000
set_option linter.unusedVariables false
set_option linter.unusedSimpArgs false

def F148 (a0 : Int) (a1 : Int) : Int :=
  (bif (decide (((Int.tmod a0 a1) : Int) < 0)) then
   (W ((W (Int.tdiv a0 a1)) - 1))
  else
   (W (Int.tdiv a0 a1)))

theorem C148 (a0 : Int) (a1 : Int) (ha : a1 ≠ 0) : Con Tryz.prog 148 [(iv a0), (iv a1)] [] (iv (F148 a0 a1)) [] := by
  refine con_s Tryz.func148 (by kernel_rfl) fun cx hcx => ?_
  let t0 : List (St Tryz.prog) := [.p (show (a1 : Int) ≠ 0 from by first | omega | (rw [W_eq] <;> omega) | exact u64_nn _), .p (show (a1 : Int) ≠ 0 from by first | omega | (rw [W_eq] <;> omega) | exact u64_nn _)]
  cases h0 : (decide (((Int.tmod a0 a1) : Int) < 0)) with
  | true =>
   have q0 := of_decide_eq_true h0
   have e := Eq.refl (F148 a0 a1); conv at e => rhs; simp only [F148, h0, cond_true, cond_false]
   rw [e]
   exact rt (t0 ++ [.d h0]) [] [] hcx (by kernel_rfl)
  | false =>
   have q0 := of_decide_eq_false h0
   have e := Eq.refl (F148 a0 a1); conv at e => rhs; simp only [F148, h0, cond_true, cond_false]
   rw [e]
   exact rt (t0 ++ [.d h0]) [] [] hcx (by kernel_rfl)

def F149 (a0 : Int) (a1 : Int) : Int :=
  (W (0 - (F148 (W (0 - a0)) a1)))

theorem C149 (a0 : Int) (a1 : Int) (ha : a1 ≠ 0) : Con Tryz.prog 149 [(iv a0), (iv a1)] [] (iv (F149 a0 a1)) [] := by
  refine con_s Tryz.func149 (by kernel_rfl) fun cx hcx => ?_
  have e := Eq.refl (F149 a0 a1); conv at e => rhs; simp only [F149]
  rw [e]
  exact rt [.c [] (C148 (W (0 - a0)) a1  (by (try simp only [List.length_append, List.length_cons, List.length_nil, Int.toNat_zero]); omega))] [] [] hcx (by kernel_rfl)

noncomputable def B144_0 : Code := (loopAtD [1, 1, 1, 1, 1, 1, 0] [] (bodyOf Tryz.f144) []).1
noncomputable def K144_0 : List K := (loopAtD [1, 1, 1, 1, 1, 1, 0] [] (bodyOf Tryz.f144) []).2

def st144_0 (a0 : (Int × Int × Int) × (Int × Int × Int) × Int × Int × Int) (a1 : Int) (v2 : Int) (v3 : Int) : LS := ⟨slN 45 [(6, (iv (F204 (F205 (F142 a0) (F142 a0))))), (8, (iv (W ((W ((W (1099511627776 * (W (1 * 2 ^ (min (Int.toNat (IntKind.wrap .u64 a1)) 64))))) * (W (1 * 2 ^ (min (Int.toNat (IntKind.wrap .u64 a1)) 64))))) * 3217)))), (9, (iv v2)), (10, (iv v3))], []⟩

def S144_0 (a0 : (Int × Int × Int) × (Int × Int × Int) × Int × Int × Int) (a1 : Int) : Int × Int → (Int × Int) ⊕ (Int)
  | (v2, v3) =>
   (bif (decide ((v2 : Int) < v3)) then
    (bif (decide (((W ((W (Int.tdiv (W (v2 + v3)) 2)) * (W (Int.tdiv (W (v2 + v3)) 2)))) : Int) ≥ (F149 (W ((W ((W (1099511627776 * (W (1 * 2 ^ (min (Int.toNat (IntKind.wrap .u64 a1)) 64))))) * (W (1 * 2 ^ (min (Int.toNat (IntKind.wrap .u64 a1)) 64))))) * 3217)) (W (128 * (F204 (F205 (F142 a0) (F142 a0)))))))) then
     (.inl (v2, (W (Int.tdiv (W (v2 + v3)) 2))))
    else
     (.inl ((W ((W (Int.tdiv (W (v2 + v3)) 2)) + 1)), v3)))
   else
    (.inr v2))

set_option maxHeartbeats 4000000 in
theorem L144_0 (a0 : (Int × Int × Int) × (Int × Int × Int) × Int × Int × Int) (a1 : Int) (ha : 0 ≤ a1 ∧ a1 ≤ 3) (hr : W (128 * F204 (F205 (F142 a0) (F142 a0))) ≠ 0) {cx : Cx} (hcx : cx.base = 0) : ∀ (n : Nat) (v2 : Int) (v3 : Int), (0 ≤ v2) ∧ (0 ≤ v2) ∧ (v2 ≤ v3) ∧ (v3 ≤ 268435456) → Int.toNat (v3 - v2) < n → Aw.Good Tryz.prog none 9 (bodyPost Tryz.prog Tryz.f144 (RR cx (iv (loopF (S144_0 a0 a1) n (v2, v3))) [] [])) cx [] (.l B144_0 n :: K144_0) (st144_0 a0 a1 v2 v3) := by
  intro n
  induction n with
  | zero => intro v2 v3 hi hn; exact absurd hn (Nat.not_lt_zero _)
  | succ n ih =>
    intro v2 v3 hi hn
    refine good_round ?_
    have hw := mid0_eq (a := v2) (b := v3) (by omega)
    have hw2 := mid3_eq (a := v2) (b := v3) (by omega)
    cases h0 : (decide ((v2 : Int) < v3)) with
    | true =>
     have q0 := of_decide_eq_true h0
     let t1 : List (St Tryz.prog) := [.d h0, .p (show (2 : Int) ≠ 0 from by decide), .c [] (C149 (W ((W ((W (1099511627776 * (W (1 * 2 ^ (min (Int.toNat (IntKind.wrap .u64 a1)) 64))))) * (W (1 * 2 ^ (min (Int.toNat (IntKind.wrap .u64 a1)) 64))))) * 3217)) (W (128 * (F204 (F205 (F142 a0) (F142 a0)))))  (by (try simp only [List.length_append, List.length_cons, List.length_nil, Int.toNat_zero]); omega))]
     cases h1 : (decide (((W ((W (Int.tdiv (W (v2 + v3)) 2)) * (W (Int.tdiv (W (v2 + v3)) 2)))) : Int) ≥ (F149 (W ((W ((W (1099511627776 * (W (1 * 2 ^ (min (Int.toNat (IntKind.wrap .u64 a1)) 64))))) * (W (1 * 2 ^ (min (Int.toNat (IntKind.wrap .u64 a1)) 64))))) * 3217)) (W (128 * (F204 (F205 (F142 a0) (F142 a0)))))))) with
     | true =>
      have q1 := of_decide_eq_true h1
      have e := Eq.refl (S144_0 a0 a1 (v2, v3)); conv at e => rhs; simp only [S144_0, h0, h1, cond_true, cond_false]
      rw [loopF_inl e]
      refine ba (t1 ++ [.d h1]) [] [6, 8, 9, 10] [] hcx (m := n) B144_0 (K144_0) (st144_0 a0 a1 v2 (W (Int.tdiv (W (v2 + v3)) 2))) (by kernel_rfl) ?_
      exact ih v2 (W (Int.tdiv (W (v2 + v3)) 2)) (by refine ⟨?_, ?_, ?_, ?_⟩ <;> (try simp only [List.length_append, List.length_cons, List.length_nil, Int.toNat_zero]) <;> first | omega | assumption | simp) (by (try simp only [List.length_append, List.length_cons, List.length_nil, Int.toNat_zero]); omega)
     | false =>
      have q1 := of_decide_eq_false h1
      have e := Eq.refl (S144_0 a0 a1 (v2, v3)); conv at e => rhs; simp only [S144_0, h0, h1, cond_true, cond_false]
      rw [loopF_inl e]
      refine ba (t1 ++ [.d h1]) [] [6, 8, 9, 10] [] hcx (m := n) B144_0 (K144_0) (st144_0 a0 a1 (W ((W (Int.tdiv (W (v2 + v3)) 2)) + 1)) v3) (by kernel_rfl) ?_
      exact ih (W ((W (Int.tdiv (W (v2 + v3)) 2)) + 1)) v3 (by refine ⟨?_, ?_, ?_, ?_⟩ <;> (try simp only [List.length_append, List.length_cons, List.length_nil, Int.toNat_zero]) <;> first | omega | assumption | simp) (by (try simp only [List.length_append, List.length_cons, List.length_nil, Int.toNat_zero]); omega)
    | false =>
     have q0 := of_decide_eq_false h0
     have e := Eq.refl (S144_0 a0 a1 (v2, v3)); conv at e => rhs; simp only [S144_0, h0, cond_true, cond_false]
     rw [loopF_s, e]
     exact rt [.d h0] [] [] hcx (by kernel_rfl)

def F144 (a0 : (Int × Int × Int) × (Int × Int × Int) × Int × Int × Int) (a1 : Int) : Int :=
  (loopF (S144_0 a0 a1) (Int.toNat (268435456 - 0) + 1) (0, 268435456))

theorem C144 (a0 : (Int × Int × Int) × (Int × Int × Int) × Int × Int × Int) (a1 : Int) (ha : 0 ≤ a1 ∧ a1 ≤ 3) (hr : W (128 * F204 (F205 (F142 a0) (F142 a0))) ≠ 0) : Con Tryz.prog 144 [(.a (k9 a0)), (iv a1)] [] (iv (F144 a0 a1)) [] := by
  refine con_s Tryz.func144 (by kernel_rfl) fun cx hcx => ?_
  have e := Eq.refl (F144 a0 a1); conv at e => rhs; simp only [F144]
  rw [e]
  refine en [.c [] (C142 a0), .c [] (C205 (F142 a0) (F142 a0)), .c [] (C204 (F205 (F142 a0) (F142 a0))), .p (show 0 ≤ ((IntKind.wrap .u64 a1) : Int) from by first | omega | (rw [W_eq] <;> omega) | exact u64_nn _)] [] [6, 8, 9, 10] [] hcx B144_0 (K144_0) (st144_0 a0 a1 0 268435456) (Int.toNat (268435456 - 0) + 1) (by kernel_rfl) ?_
  exact L144_0 a0 a1 ha hr hcx (Int.toNat (268435456 - 0) + 1) 0 268435456 (by refine ⟨?_, ?_, ?_, ?_⟩ <;> (try simp only [List.length_append, List.length_cons, List.length_nil, Int.toNat_zero]) <;> first | omega | assumption | simp) (by (try simp only [List.length_append, List.length_cons, List.length_nil, Int.toNat_zero]); omega)

noncomputable def B89_0 : Code := (loopAtD [1, 1, 1, 1, 1, 0, 1] [] (bodyOf Tryz.f89) []).1
noncomputable def K89_0 : List K := (loopAtD [1, 1, 1, 1, 1, 0, 1] [] (bodyOf Tryz.f89) []).2

def st89_0 (a0 : (Int × Int × Int) × (Int × Int × Int) × Int × Int × Int) (a1 : Int) (a2 : (Int × Int × Int) × (Int × Int × Int) × Int × Int × Int) (v1 : Int) (v2 : Int) (v3 : Int) : LS := ⟨slN 88 [(6, (.p 0 0)), (7, (.s 1 0 (F143 a0 a1).length 9)), (8, (.s 2 0 3 3)), (9, (iv (W (1 * 2 ^ (min (Int.toNat (IntKind.wrap .u64 a1)) 64))))), (10, (iv (F144 a0 a1))), (11, (iv v1)), (12, (iv v2)), (13, (iv v3))], [(.live true false [(iv 0), (iv 0)]), (.live true true (flat c83 (F143 a0 a1))), (.live true false (k9 a2))]⟩

def S89_0 (a0 : (Int × Int × Int) × (Int × Int × Int) × Int × Int × Int) (a1 : Int) (a2 : (Int × Int × Int) × (Int × Int × Int) × Int × Int × Int) : Int × Int × Int → (Int × Int × Int) ⊕ (Int × Int)
  | (v1, v2, v3) =>
   (bif (decide ((v3 : Int) < (((F143 a0 a1).length : Nat) : Int))) then
    (bif (decide (((F147_3 ((F143 a0 a1).getD (Int.toNat v3) default) a2) : Int) > 0)) then
     (.inl ((W (v1 + (F145 (F146_L ((F143 a0 a1).getD (Int.toNat v3) default) ([a2.1, a2.2.1, a2.2.2] : List (Int × Int × Int))) (W (1 * 2 ^ (min (Int.toNat (IntKind.wrap .u64 a1)) 64)))).1.1)), (W (v2 + (if ((F145 (F147_3 ((F143 a0 a1).getD (Int.toNat v3) default) a2) (W (1 * 2 ^ (min (Int.toNat (IntKind.wrap .u64 a1)) 64)))).1.2 : Int) < (F144 a0 a1) then (F145 (F147_3 ((F143 a0 a1).getD (Int.toNat v3) default) a2) (W (1 * 2 ^ (min (Int.toNat (IntKind.wrap .u64 a1)) 64)))).1.2 else (F144 a0 a1)))), (v3 + 1)))
    else
     (.inl ((W (v1 + (F145 (F146_L ((F143 a0 a1).getD (Int.toNat v3) default) ([a2.1, a2.2.1, a2.2.2] : List (Int × Int × Int))) (W (1 * 2 ^ (min (Int.toNat (IntKind.wrap .u64 a1)) 64)))).1.1)), (W (v2 + (F144 a0 a1))), (v3 + 1))))
   else
    (.inr ((F148 v1 (((F143 a0 a1).length : Nat) : Int)), (F149 v2 (((F143 a0 a1).length : Nat) : Int)))))

set_option maxHeartbeats 4000000 in
theorem L89_0 (a0 : (Int × Int × Int) × (Int × Int × Int) × Int × Int × Int) (a1 : Int) (a2 : (Int × Int × Int) × (Int × Int × Int) × Int × Int × Int) (ha : 0 ≤ a1 ∧ a1 ≤ 3) (hr : W (128 * F204 (F205 (F142 a0) (F142 a0))) ≠ 0) {cx : Cx} (hcx : cx.base = 0) : ∀ (n : Nat) (v1 : Int) (v2 : Int) (v3 : Int), 0 ≤ v3 → Int.toNat ((((F143 a0 a1).length : Nat) : Int) - v3) < n → Aw.Good Tryz.prog none 9 (bodyPost Tryz.prog Tryz.f89 (RR cx (.a (k2 (loopF (S89_0 a0 a1 a2) n (v1, v2, v3)))) [] [])) cx [] (.l B89_0 n :: K89_0) (st89_0 a0 a1 a2 v1 v2 v3) := by
  intro n
  induction n with
  | zero => intro v1 v2 v3 hi hn; exact absurd hn (Nat.not_lt_zero _)
  | succ n ih =>
    intro v1 v2 v3 hi hn
    refine good_round ?_
    have hcl := cut_le (p := a0) ha
    cases h0 : (decide ((v3 : Int) < (((F143 a0 a1).length : Nat) : Int))) with
    | true =>
     have q0 := of_decide_eq_true h0
     let t1 : List (St Tryz.prog) := [.d h0, .i v3 ((F143 a0 a1).length), .L c83_len (F143 a0 a1) v3 0 9, .c [2] (Con.flags (bs' := [(.live false false (k9 a2))]) (C146_L ((F143 a0 a1).getD (Int.toNat v3) default) ([a2.1, a2.2.1, a2.2.2] : List (Int × Int × Int)) (by (try simp only [List.length_append, List.length_cons, List.length_nil, Int.toNat_zero]); omega)) rfl ⟨flat_plain (fun _ => rfl), trivial⟩), .c [] (C145 (F146_L ((F143 a0 a1).getD (Int.toNat v3) default) ([a2.1, a2.2.1, a2.2.2] : List (Int × Int × Int))) (W (1 * 2 ^ (min (Int.toNat (IntKind.wrap .u64 a1)) 64)))), .i v3 ((F143 a0 a1).length), .L c83_len (F143 a0 a1) v3 0 9, .c [2] (C147_3 ((F143 a0 a1).getD (Int.toNat v3) default) a2)]
     cases h1 : (decide (((F147_3 ((F143 a0 a1).getD (Int.toNat v3) default) a2) : Int) > 0)) with
     | true =>
      have q1 := of_decide_eq_true h1
      have e := Eq.refl (S89_0 a0 a1 a2 (v1, v2, v3)); conv at e => rhs; simp only [S89_0, h0, h1, cond_true, cond_false]
      rw [loopF_inl e]
      refine ba (t1 ++ [.d h1, .c [] (C145 (F147_3 ((F143 a0 a1).getD (Int.toNat v3) default) a2) (W (1 * 2 ^ (min (Int.toNat (IntKind.wrap .u64 a1)) 64))))]) [] [6, 7, 8, 9, 10, 11, 12, 13] [0, 1, 2] hcx (m := n) B89_0 (K89_0) (st89_0 a0 a1 a2 (W (v1 + (F145 (F146_L ((F143 a0 a1).getD (Int.toNat v3) default) ([a2.1, a2.2.1, a2.2.2] : List (Int × Int × Int))) (W (1 * 2 ^ (min (Int.toNat (IntKind.wrap .u64 a1)) 64)))).1.1)) (W (v2 + (if ((F145 (F147_3 ((F143 a0 a1).getD (Int.toNat v3) default) a2) (W (1 * 2 ^ (min (Int.toNat (IntKind.wrap .u64 a1)) 64)))).1.2 : Int) < (F144 a0 a1) then (F145 (F147_3 ((F143 a0 a1).getD (Int.toNat v3) default) a2) (W (1 * 2 ^ (min (Int.toNat (IntKind.wrap .u64 a1)) 64)))).1.2 else (F144 a0 a1)))) (W (v3 + 1))) (by kernel_rfl) ?_
      have z0 : (W (v3 + 1)) = (v3 + 1) := W_eq (by omega) (by omega)
      rw [z0]
      exact ih (W (v1 + (F145 (F146_L ((F143 a0 a1).getD (Int.toNat v3) default) ([a2.1, a2.2.1, a2.2.2] : List (Int × Int × Int))) (W (1 * 2 ^ (min (Int.toNat (IntKind.wrap .u64 a1)) 64)))).1.1)) (W (v2 + (if ((F145 (F147_3 ((F143 a0 a1).getD (Int.toNat v3) default) a2) (W (1 * 2 ^ (min (Int.toNat (IntKind.wrap .u64 a1)) 64)))).1.2 : Int) < (F144 a0 a1) then (F145 (F147_3 ((F143 a0 a1).getD (Int.toNat v3) default) a2) (W (1 * 2 ^ (min (Int.toNat (IntKind.wrap .u64 a1)) 64)))).1.2 else (F144 a0 a1)))) (v3 + 1) (by (try simp only [List.length_append, List.length_cons, List.length_nil, Int.toNat_zero]); omega) (by (try simp only [List.length_append, List.length_cons, List.length_nil, Int.toNat_zero]); omega)
     | false =>
      have q1 := of_decide_eq_false h1
      have e := Eq.refl (S89_0 a0 a1 a2 (v1, v2, v3)); conv at e => rhs; simp only [S89_0, h0, h1, cond_true, cond_false]
      rw [loopF_inl e]
      refine ba (t1 ++ [.d h1]) [] [6, 7, 8, 9, 10, 11, 12, 13] [0, 1, 2] hcx (m := n) B89_0 (K89_0) (st89_0 a0 a1 a2 (W (v1 + (F145 (F146_L ((F143 a0 a1).getD (Int.toNat v3) default) ([a2.1, a2.2.1, a2.2.2] : List (Int × Int × Int))) (W (1 * 2 ^ (min (Int.toNat (IntKind.wrap .u64 a1)) 64)))).1.1)) (W (v2 + (F144 a0 a1))) (W (v3 + 1))) (by kernel_rfl) ?_
      have z0 : (W (v3 + 1)) = (v3 + 1) := W_eq (by omega) (by omega)
      rw [z0]
      exact ih (W (v1 + (F145 (F146_L ((F143 a0 a1).getD (Int.toNat v3) default) ([a2.1, a2.2.1, a2.2.2] : List (Int × Int × Int))) (W (1 * 2 ^ (min (Int.toNat (IntKind.wrap .u64 a1)) 64)))).1.1)) (W (v2 + (F144 a0 a1))) (v3 + 1) (by (try simp only [List.length_append, List.length_cons, List.length_nil, Int.toNat_zero]); omega) (by (try simp only [List.length_append, List.length_cons, List.length_nil, Int.toNat_zero]); omega)
    | false =>
     have q0 := of_decide_eq_false h0
     have e := Eq.refl (S89_0 a0 a1 a2 (v1, v2, v3)); conv at e => rhs; simp only [S89_0, h0, cond_true, cond_false]
     rw [loopF_s, e]
     exact rt [.d h0, .c [] (C148 v1 (((F143 a0 a1).length : Nat) : Int)  (cut_ne (by omega))), .c [] (C149 v2 (((F143 a0 a1).length : Nat) : Int)  (cut_ne (by omega)))] [] [] hcx (by kernel_rfl)

def F89 (a0 : (Int × Int × Int) × (Int × Int × Int) × Int × Int × Int) (a1 : Int) (a2 : (Int × Int × Int) × (Int × Int × Int) × Int × Int × Int) : Int × Int :=
  (loopF (S89_0 a0 a1 a2) (Int.toNat ((((F143 a0 a1).length : Nat) : Int) - 0) + 1) (0, 0, 0))

theorem C89 (a0 : (Int × Int × Int) × (Int × Int × Int) × Int × Int × Int) (a1 : Int) (a2 : (Int × Int × Int) × (Int × Int × Int) × Int × Int × Int) (ha : 0 ≤ a1 ∧ a1 ≤ 3) (hr : W (128 * F204 (F205 (F142 a0) (F142 a0))) ≠ 0) : Con Tryz.prog 89 [(.a (k9 a0)), (iv a1), (.a (k9 a2))] [] (.a (k2 (F89 a0 a1 a2))) [] := by
  refine con_s Tryz.func89 (by kernel_rfl) fun cx hcx => ?_
  have e := Eq.refl (F89 a0 a1 a2); conv at e => rhs; simp only [F89]
  rw [e]
  refine en [.c [] (C143 a0 a1  (by (try simp only [List.length_append, List.length_cons, List.length_nil, Int.toNat_zero]); omega)), .p (show 0 ≤ ((IntKind.wrap .u64 a1) : Int) from by first | omega | (rw [W_eq] <;> omega) | exact u64_nn _), .c [] (C144 a0 a1  ha hr)] [] [6, 7, 8, 9, 10, 11, 12, 13] [2, 3, 4] hcx B89_0 (K89_0) (st89_0 a0 a1 a2 0 0 0) (Int.toNat ((((F143 a0 a1).length : Nat) : Int) - 0) + 1) (by kernel_rfl) ?_
  exact L89_0 a0 a1 a2 ha hr hcx (Int.toNat ((((F143 a0 a1).length : Nat) : Int) - 0) + 1) 0 0 0 (by (try simp only [List.length_append, List.length_cons, List.length_nil, Int.toNat_zero]); omega) (by (try simp only [List.length_append, List.length_cons, List.length_nil, Int.toNat_zero]); omega)

end Go.Proofs.YtnbpiejjeeomkaaGreat

namespace Go.Proofs.YtnbpiejjeeomkaaGreat
open Go.Proofs Go.Aw Go.RowKit
set_option maxRecDepth 100000
set_option linter.unusedVariables false
set_option linter.unusedSimpArgs false

/-! ### How far, how near -/
def mx (a b : Int) : Int := if a < b then b else a
theorem mx_le {a b c : Int} (h : a ≤ c) (h' : b ≤ c) : mx a b ≤ c := by unfold mx; split <;> assumption
theorem le_mx1 (a b : Int) : a ≤ mx a b := by unfold mx; split <;> omega
theorem le_mx2 (a b : Int) : b ≤ mx a b := by unfold mx; split <;> omega
def ds (p q : P3) : Int := dt (sb p q) (sb p q)
def fF (p q : P3) : Int := F192 (F190 p q) (F190 p q)
theorem fF_eq {p q : P3} (hp : bd 5000 p) (hq : bd 5000 q) : fF p q = ds p q := by
  unfold fF ds
  rw [fsb (hp.mono (by omega)) (hq.mono (by omega))]
  exact fdt ((bd_sb hp hq).mono (by omega)) ((bd_sb hp hq).mono (by omega))
def rF (p q : P3) : Int := F205 (F202 p q) (F202 p q)
theorem rF_eq {p q : P3} (hp : bd 5000 p) (hq : bd 5000 q) : rF p q = ds p q := by
  unfold rF ds
  rw [rsb (hp.mono (by omega)) (hq.mono (by omega))]
  exact rdt ((bd_sb hp hq).mono (by omega)) ((bd_sb hp hq).mono (by omega))
theorem farF3 (c : PN) (x y z : P3) : F138_L_L [c.1, c.2.1, c.2.2] [x, y, z] =
    mx (mx (mx (mx (mx (mx (mx (mx (mx 0 (fF c.1 x)) (fF c.1 y)) (fF c.1 z)) (fF c.2.1 x)) (fF c.2.1 y)) (fF c.2.1 z)) (fF c.2.2 x)) (fF c.2.2 y)) (fF c.2.2 z) := by
  rfl
theorem farR_step (c : PN) (l : List P3) (v : Int) (i : Nat) (h : i < l.length) :
    S146_L_0 c l (v, (i : Int)) = .inl (mx (mx (mx v (rF c.1 (l.getD i default))) (rF c.2.1 (l.getD i default))) (rF c.2.2 (l.getD i default)), ((i + 1 : Nat) : Int)) := by
  have h0 : decide ((i : Int) < ((l.length : Nat) : Int)) = true := by simpa using h
  simp only [S146_L_0, h0, cond_true, Int.toNat_natCast]
  have key : ∀ q : P3, (bif decide (rF c.1 q > v) then bif decide (rF c.2.1 q > rF c.1 q) then bif decide (rF c.2.2 q > rF c.2.1 q) then Sum.inl (rF c.2.2 q, (i : Int) + 1) else Sum.inl (rF c.2.1 q, (i : Int) + 1) else bif decide (rF c.2.2 q > rF c.1 q) then Sum.inl (rF c.2.2 q, (i : Int) + 1) else Sum.inl (rF c.1 q, (i : Int) + 1)
    else bif decide (rF c.2.1 q > v) then bif decide (rF c.2.2 q > rF c.2.1 q) then Sum.inl (rF c.2.2 q, (i : Int) + 1) else Sum.inl (rF c.2.1 q, (i : Int) + 1) else bif decide (rF c.2.2 q > v) then Sum.inl (rF c.2.2 q, (i : Int) + 1) else Sum.inl (v, (i : Int) + 1))
    = (Sum.inl (mx (mx (mx v (rF c.1 q)) (rF c.2.1 q)) (rF c.2.2 q), ((i : Int) + 1)) : (Int × Int) ⊕ Int) := by
    intro q
    generalize rF c.1 q = a1; generalize rF c.2.1 q = a2; generalize rF c.2.2 q = a3
    unfold mx
    by_cases h1 : a1 > v
    · rw [decide_eq_true h1, cond_true, if_pos h1]
      by_cases h2 : a2 > a1
      · rw [decide_eq_true h2, cond_true, if_pos h2]
        by_cases h3 : a3 > a2
        · rw [decide_eq_true h3, cond_true, if_pos h3]
        · rw [decide_eq_false h3, cond_false, if_neg h3]
      · rw [decide_eq_false h2, cond_false, if_neg h2]
        by_cases h3 : a3 > a1
        · rw [decide_eq_true h3, cond_true, if_pos h3]
        · rw [decide_eq_false h3, cond_false, if_neg h3]
    · rw [decide_eq_false h1, cond_false, if_neg h1]
      by_cases h2 : a2 > v
      · rw [decide_eq_true h2, cond_true, if_pos h2]
        by_cases h3 : a3 > a2
        · rw [decide_eq_true h3, cond_true, if_pos h3]
        · rw [decide_eq_false h3, cond_false, if_neg h3]
      · rw [decide_eq_false h2, cond_false, if_neg h2]
        by_cases h3 : a3 > v
        · rw [decide_eq_true h3, cond_true, if_pos h3]
        · rw [decide_eq_false h3, cond_false, if_neg h3]
  exact key (l.getD i default)
theorem farR_end (c : PN) (l : List P3) (v : Int) : S146_L_0 c l (v, (l.length : Int)) = .inr v := by
  have h0 : decide (((l.length : Nat) : Int) < ((l.length : Nat) : Int)) = false := by simp
  simp only [S146_L_0, h0, cond_false]
theorem farR3 (c : PN) (x y z : P3) : F146_L c [x, y, z] =
    mx (mx (mx (mx (mx (mx (mx (mx (mx 0 (rF c.1 x)) (rF c.2.1 x)) (rF c.2.2 x)) (rF c.1 y)) (rF c.2.1 y)) (rF c.2.2 y)) (rF c.1 z)) (rF c.2.1 z)) (rF c.2.2 z) := by
  unfold F146_L
  have e0 := farR_step c [x, y, z] 0 0 (by simp)
  have e1 := farR_step c [x, y, z] (mx (mx (mx 0 (rF c.1 x)) (rF c.2.1 x)) (rF c.2.2 x)) 1 (by simp)
  have e2 := farR_step c [x, y, z] (mx (mx (mx (mx (mx (mx 0 (rF c.1 x)) (rF c.2.1 x)) (rF c.2.2 x)) (rF c.1 y)) (rF c.2.1 y)) (rF c.2.2 y)) 2 (by simp)
  have e3 := farR_end c [x, y, z] (mx (mx (mx (mx (mx (mx (mx (mx (mx 0 (rF c.1 x)) (rF c.2.1 x)) (rF c.2.2 x)) (rF c.1 y)) (rF c.2.1 y)) (rF c.2.2 y)) (rF c.1 z)) (rF c.2.1 z)) (rF c.2.2 z))
  rw [show Int.toNat ((([x, y, z] : List P3).length : Int) - 0) + 1 = 4 from rfl, show ((0, 0) : Int × Int) = (0, ((0 : Nat) : Int)) from rfl, loopF_inl e0]
  refine (loopF_inl e1).trans ?_
  refine (loopF_inl e2).trans ?_
  exact loopF_inr e3
theorem mx_comm9 (a b c d e f g h i : Int) : mx (mx (mx (mx (mx (mx (mx (mx (mx 0 a) b) c) d) e) f) g) h) i = mx (mx (mx (mx (mx (mx (mx (mx (mx 0 a) d) g) b) e) h) c) f) i := by
  have key : ∀ a b c : Int, mx (mx a b) c = mx (mx a c) b := fun a b c => by unfold mx; repeat' split <;> omega
  rw [key _ c d, key _ b d, key _ f g, key _ e g, key _ c g, key _ b g]
  rw [key _ c e, key _ f h, key _ c h]

/-! boxes -/
def lo3 (a b c : Int) : Int := if c < (if b < (if a < a then a else a) then b else (if a < a then a else a)) then c else (if b < (if a < a then a else a) then b else (if a < a then a else a))
def hi3 (a b c : Int) : Int := if (if (if a < a then a else a) < b then b else (if a < a then a else a)) < c then c else (if (if a < a then a else a) < b then b else (if a < a then a else a))
theorem lo3_le (a b c : Int) : lo3 a b c ≤ a ∧ lo3 a b c ≤ b ∧ lo3 a b c ≤ c := by
  unfold lo3; simp only [Int.lt_irrefl, if_false]; split <;> split at * <;> omega
theorem le_hi3 (a b c : Int) : a ≤ hi3 a b c ∧ b ≤ hi3 a b c ∧ c ≤ hi3 a b c := by
  unfold hi3; simp only [Int.lt_irrefl, if_false]; split <;> split at * <;> omega
theorem lo3_in (a b c : Int) : lo3 a b c = a ∨ lo3 a b c = b ∨ lo3 a b c = c := by
  unfold lo3; simp only [Int.lt_irrefl, if_false]; split <;> split at * <;> omega
theorem hi3_in (a b c : Int) : hi3 a b c = a ∨ hi3 a b c = b ∨ hi3 a b c = c := by
  unfold hi3; simp only [Int.lt_irrefl, if_false]; split <;> split at * <;> omega
def gp (a b c d : Int) : Int := mx (mx 0 (c - b)) (a - d)
theorem gp_nn (a b c d : Int) : 0 ≤ gp a b c d := Int.le_trans (le_mx1 0 _) (le_mx1 _ _)
theorem gp_comm (a b c d : Int) : gp c d a b = gp a b c d := by unfold gp mx; repeat' split <;> omega
def nr (a b c d : P3) : Int := gp a.1 b.1 c.1 d.1 * gp a.1 b.1 c.1 d.1 + gp a.2.1 b.2.1 c.2.1 d.2.1 * gp a.2.1 b.2.1 c.2.1 d.2.1 + gp a.2.2 b.2.2 c.2.2 d.2.2 * gp a.2.2 b.2.2 c.2.2 d.2.2
def blo (c : PN) : P3 := (lo3 c.1.1 c.2.1.1 c.2.2.1, lo3 c.1.2.1 c.2.1.2.1 c.2.2.2.1, lo3 c.1.2.2 c.2.1.2.2 c.2.2.2.2)
def bhi (c : PN) : P3 := (hi3 c.1.1 c.2.1.1 c.2.2.1, hi3 c.1.2.1 c.2.1.2.1 c.2.2.2.1, hi3 c.1.2.2 c.2.1.2.2 c.2.2.2.2)
theorem blo_bd {m : Int} {c : PN} (h : bdP m c) : bd m (blo c) := by
  have h1 := lo3_in c.1.1 c.2.1.1 c.2.2.1; have h2 := lo3_in c.1.2.1 c.2.1.2.1 c.2.2.2.1; have h3 := lo3_in c.1.2.2 c.2.1.2.2 c.2.2.2.2
  have ha := h.1; have hb := h.2.1; have hc := h.2.2
  unfold bd at *; simp only [blo]; omega
theorem bhi_bd {m : Int} {c : PN} (h : bdP m c) : bd m (bhi c) := by
  have h1 := hi3_in c.1.1 c.2.1.1 c.2.2.1; have h2 := hi3_in c.1.2.1 c.2.1.2.1 c.2.2.2.1; have h3 := hi3_in c.1.2.2 c.2.1.2.2 c.2.2.2.2
  have ha := h.1; have hb := h.2.1; have hc := h.2.2
  unfold bd at *; simp only [bhi]; omega
theorem box3 (c : PN) : F197_3 c = (blo c, bhi c) := rfl
theorem gap_f {a b c d : Int} (ha : -5000 ≤ a ∧ a ≤ 5000) (hb : -5000 ≤ b ∧ b ≤ 5000) (hc : -5000 ≤ c ∧ c ≤ 5000) (hd : -5000 ≤ d ∧ d ≤ 5000) : F198 a b c d = gp a b c d := by
  unfold F198
  rw [W_eq (n := c - b) (by omega) (by omega), W_eq (n := a - d) (by omega) (by omega)]; rfl
theorem gp_bd {a b c d : Int} (ha : -5000 ≤ a ∧ a ≤ 5000) (hb : -5000 ≤ b ∧ b ≤ 5000) (hc : -5000 ≤ c ∧ c ≤ 5000) (hd : -5000 ≤ d ∧ d ≤ 5000) : 0 ≤ gp a b c d ∧ gp a b c d ≤ 10000 :=
  ⟨gp_nn _ _ _ _, mx_le (mx_le (by omega) (by omega)) (by omega)⟩
theorem nrF {a b c d : P3} (ha : bd 5000 a) (hb : bd 5000 b) (hc : bd 5000 c) (hd : bd 5000 d) :
    F192 (F198 a.1 b.1 c.1 d.1, F198 a.2.1 b.2.1 c.2.1 d.2.1, F198 a.2.2 b.2.2 c.2.2 d.2.2) (F198 a.1 b.1 c.1 d.1, F198 a.2.1 b.2.1 c.2.1 d.2.1, F198 a.2.2 b.2.2 c.2.2 d.2.2) = nr a b c d := by
  rw [gap_f ha.1 hb.1 hc.1 hd.1, gap_f ha.2.1 hb.2.1 hc.2.1 hd.2.1, gap_f ha.2.2 hb.2.2 hc.2.2 hd.2.2]
  have h1 := gp_bd ha.1 hb.1 hc.1 hd.1; have h2 := gp_bd ha.2.1 hb.2.1 hc.2.1 hd.2.1; have h3 := gp_bd ha.2.2 hb.2.2 hc.2.2 hd.2.2
  have hv : bd 1000000000 (gp a.1 b.1 c.1 d.1, gp a.2.1 b.2.1 c.2.1 d.2.1, gp a.2.2 b.2.2 c.2.2 d.2.2) := by unfold bd; simp only; omega
  rw [fdt hv hv]; rfl
theorem near33 {c q : PN} (hc : bdP 5000 c) (hq : bdP 5000 q) : F139_3_3 c q = nr (blo c) (bhi c) (blo q) (bhi q) := by
  unfold F139_3_3
  rw [box3, box3]
  exact nrF (blo_bd hc) (bhi_bd hc) (blo_bd hq) (bhi_bd hq)
/-! the reference's -/
theorem bounds3 (a b c : Int) : F233_L [a, b, c] = (lo3 a b c, hi3 a b c) := rfl
theorem gap_r {l m : List Int} {a b c d : Int} (hl : F233_L l = (a, b)) (hm : F233_L m = (c, d)) (ha : -5000 ≤ a ∧ a ≤ 5000) (hb : -5000 ≤ b ∧ b ≤ 5000) (hc : -5000 ≤ c ∧ c ≤ 5000) (hd : -5000 ≤ d ∧ d ≤ 5000) :
    F207_L_L l m = gp a b c d * gp a b c d := by
  unfold F207_L_L
  rw [hl, hm]
  simp only
  rw [W_eq (n := a - d) (by omega) (by omega), W_eq (n := c - b) (by omega) (by omega)]
  have e : (if ((if (0 : Int) < a - d then a - d else 0) : Int) < c - b then c - b else (if (0 : Int) < a - d then a - d else 0)) = gp a b c d := gp_comm a b c d
  rw [e]
  have h1 := gp_bd ha hb hc hd
  have h2 := mul_bd (a := 10000) (b := 10000) (x := gp a b c d) (y := gp a b c d) (by omega) (by omega)
  exact W_eq (by omega) (by omega)
theorem sum3 {a b c : Int} (ha : 0 ≤ a ∧ a ≤ 100000000) (hb : 0 ≤ b ∧ b ≤ 100000000) (hc : 0 ≤ c ∧ c ≤ 100000000) : W ((W (a + b)) + c) = a + b + c := by
  rw [W_eq (n := a + b) (by omega) (by omega), W_eq (by omega) (by omega)]
theorem close3 {c q : PN} (hc : bdP 5000 c) (hq : bdP 5000 q) : F147_3 c q = nr (blo c) (bhi c) (blo q) (bhi q) := by
  unfold F147_3
  have hl := blo_bd hc; have hh := bhi_bd hc; have kl := blo_bd hq; have kh := bhi_bd hq
  have g1 := gap_r (l := F208_3 c 0) (m := F208_3 q 0) (bounds3 c.1.1 c.2.1.1 c.2.2.1) (bounds3 q.1.1 q.2.1.1 q.2.2.1) hl.1 hh.1 kl.1 kh.1
  have g2 := gap_r (l := F208_3 c 1) (m := F208_3 q 1) (bounds3 c.1.2.1 c.2.1.2.1 c.2.2.2.1) (bounds3 q.1.2.1 q.2.1.2.1 q.2.2.2.1) hl.2.1 hh.2.1 kl.2.1 kh.2.1
  have g3 := gap_r (l := F208_3 c 2) (m := F208_3 q 2) (bounds3 c.1.2.2 c.2.1.2.2 c.2.2.2.2) (bounds3 q.1.2.2 q.2.1.2.2 q.2.2.2.2) hl.2.2 hh.2.2 kl.2.2 kh.2.2
  have b1 := gp_bd hl.1 hh.1 kl.1 kh.1; have b2 := gp_bd hl.2.1 hh.2.1 kl.2.1 kh.2.1; have b3 := gp_bd hl.2.2 hh.2.2 kl.2.2 kh.2.2
  have m1 := mul_bd (a := 10000) (b := 10000) (by omega) (by omega) (x := gp (blo c).1 (bhi c).1 (blo q).1 (bhi q).1) (y := gp (blo c).1 (bhi c).1 (blo q).1 (bhi q).1)
  have m2 := mul_bd (a := 10000) (b := 10000) (by omega) (by omega) (x := gp (blo c).2.1 (bhi c).2.1 (blo q).2.1 (bhi q).2.1) (y := gp (blo c).2.1 (bhi c).2.1 (blo q).2.1 (bhi q).2.1)
  have m3 := mul_bd (a := 10000) (b := 10000) (by omega) (by omega) (x := gp (blo c).2.2 (bhi c).2.2 (blo q).2.2 (bhi q).2.2) (y := gp (blo c).2.2 (bhi c).2.2 (blo q).2.2 (bhi q).2.2)
  rw [show F207_L_L (F208_3 c 0) (F208_3 q 0) = _ from g1, show F207_L_L (F208_3 c 1) (F208_3 q 1) = _ from g2, show F207_L_L (F208_3 c 2) (F208_3 q 2) = _ from g3]
  exact sum3 ⟨sq_nn _, by have := m1.2; exact this⟩ ⟨sq_nn _, by have := m2.2; exact this⟩ ⟨sq_nn _, by have := m3.2; exact this⟩

end Go.Proofs.YtnbpiejjeeomkaaGreat

namespace Go.Proofs.YtnbpiejjeeomkaaGreat
open Go.Proofs Go.Aw Go.RowKit
set_option maxRecDepth 100000
set_option linter.unusedVariables false
set_option linter.unusedSimpArgs false

/-! ### What is asked -/
open Classical in
noncomputable def pk (p q : PN) (d : Int) : Int := if vp p = 0 then (if vp q = 0 then (if 0 ≤ d ∧ d ≤ 2 then 0 else 1) else vp q) else vp p
theorem pk_aux (v w : Int) (b : Prop) [Decidable b] : (bif (v != 0) then v else (bif (w != 0) then w else (bif (!(decide b)) then (1 : Int) else 0))) = if v = 0 then (if w = 0 then (if b then 0 else 1) else w) else v := by
  by_cases hv : v = 0
  · subst hv
    by_cases hw : w = 0
    · subst hw; by_cases hb : b <;> simp [hb]
    · rw [bne_iff_ne.2 hw, cond_true, if_neg hw]; simp
  · rw [bne_iff_ne.2 hv, cond_true, if_neg hv]
theorem pair_eq (p q : PN) (d : Int) : F83 p q d = pk p q d := by
  unfold F83 pk
  rw [vp_s, vp_s, within_eq, pk_aux]
theorem paired_eq (p q : PN) (d : Int) : F88 p q d = pk p q d := by
  unfold F88 pk
  rw [vp_r, vp_r, within_eq3, pk_aux]
theorem pk_ok {p q : PN} {d : Int} (h : pk p q d = 0) : vp p = 0 ∧ vp q = 0 ∧ 0 ≤ d ∧ d ≤ 2 := by
  unfold pk at h
  split at h
  · rename_i h0
    split at h
    · rename_i h1
      split at h
      · rename_i h2; exact ⟨h0, h1, h2⟩
      · cases h
    · rename_i h1; exact absurd h h1
  · rename_i h0; exact absurd h h0
theorem pair_ok {p q : PN} {d : Int} (h : ((F83 p q d : Int) != 0) = false) : vp p = 0 ∧ vp q = 0 ∧ 0 ≤ d ∧ d ≤ 2 :=
  pk_ok (by rw [← pair_eq]; simpa using h)
theorem pair_vp {p q : PN} {d : Int} (h : ((F83 p q d : Int) != 0) = false) : F81 p = 0 := by
  rw [vp_s]; exact (pair_ok h).1
theorem pair_le {p q : PN} {d : Int} (h : ((F83 p q d : Int) != 0) = false) : 0 ≤ d ∧ d ≤ 3 := by have := pair_ok h; omega
theorem paired_le {p q : PN} {d : Int} (h : ((F88 p q d : Int) != 0) = false) : 0 ≤ d ∧ d ≤ 3 := by
  have := pk_ok (p := p) (q := q) (d := d) (by rw [← paired_eq]; simpa using h); omega
theorem paired_hr {p q : PN} {d : Int} (h : ((F88 p q d : Int) != 0) = false) : W (128 * F204 (F205 (F142 p) (F142 p))) ≠ 0 :=
  rim_neR (by rw [vp_r]; exact (pk_ok (p := p) (q := q) (d := d) (by rw [← paired_eq]; simpa using h)).1)
def F42 (a0 : (Int × Int × Int) × (Int × Int × Int) × Int × Int × Int) (a1 : (Int × Int × Int) × (Int × Int × Int) × Int × Int × Int) (a2 : Int) : (Int × Int) × Int :=
  (bif (((F83 a0 a1 a2) : Int) != 0) then
   ((0, 0), (F83 a0 a1 a2))
  else
   ((F84 a0 ((F85 a1.1 (W (1 * 2 ^ (min (Int.toNat a2) 64)))), (F85 a1.2.1 (W (1 * 2 ^ (min (Int.toNat a2) 64)))), (F85 a1.2.2 (W (1 * 2 ^ (min (Int.toNat a2) 64))))) a2), 0))

theorem C42 (a0 : (Int × Int × Int) × (Int × Int × Int) × Int × Int × Int) (a1 : (Int × Int × Int) × (Int × Int × Int) × Int × Int × Int) (a2 : Int) : Con Tryz.prog 42 [(.a (k9 a0)), (.a (k9 a1)), (iv a2)] [] (.t [(.a (k2 (F42 a0 a1 a2).1)), (iv (F42 a0 a1 a2).2)]) [] := by
  refine con_s Tryz.func42 (by kernel_rfl) fun cx hcx => ?_
  let t0 : List (St Tryz.prog) := [.c [] (C83 a0 a1 a2)]
  cases h0 : (((F83 a0 a1 a2) : Int) != 0) with
  | true =>
   have q0 := bne_iff_ne.1 h0
   have e := Eq.refl (F42 a0 a1 a2); conv at e => rhs; simp only [F42, h0, cond_true, cond_false]
   rw [e]
   exact rt (t0 ++ [.d h0]) [] [] hcx (by kernel_rfl)
  | false =>
   have q0 := bne_eq_false_iff_eq.1 h0
   have e := Eq.refl (F42 a0 a1 a2); conv at e => rhs; simp only [F42, h0, cond_true, cond_false]
   rw [e]
   exact rt (t0 ++ [.d h0, .p (show 0 ≤ (a2 : Int) from by exact (pair_le h0).1), .c [] (C85 a1.1 (W (1 * 2 ^ (min (Int.toNat a2) 64)))), .c [] (C85 a1.2.1 (W (1 * 2 ^ (min (Int.toNat a2) 64)))), .c [] (C85 a1.2.2 (W (1 * 2 ^ (min (Int.toNat a2) 64)))), .c [] (C84 a0 ((F85 a1.1 (W (1 * 2 ^ (min (Int.toNat a2) 64)))), (F85 a1.2.1 (W (1 * 2 ^ (min (Int.toNat a2) 64)))), (F85 a1.2.2 (W (1 * 2 ^ (min (Int.toNat a2) 64))))) a2  (pair_vp h0) (pair_le h0))]) [] [] hcx (by kernel_rfl)

def F44 (a0 : (Int × Int × Int) × (Int × Int × Int) × Int × Int × Int) (a1 : (Int × Int × Int) × (Int × Int × Int) × Int × Int × Int) (a2 : Int) : (Int × Int) × Int :=
  (bif (((F88 a0 a1 a2) : Int) != 0) then
   ((0, 0), (F88 a0 a1 a2))
  else
   ((F89 a0 a2 ((F90 a1.1 (W (1 * 2 ^ (min (Int.toNat (IntKind.wrap .u64 a2)) 64)))), (F90 a1.2.1 (W (1 * 2 ^ (min (Int.toNat (IntKind.wrap .u64 a2)) 64)))), (F90 a1.2.2 (W (1 * 2 ^ (min (Int.toNat (IntKind.wrap .u64 a2)) 64)))))), 0))

theorem C44 (a0 : (Int × Int × Int) × (Int × Int × Int) × Int × Int × Int) (a1 : (Int × Int × Int) × (Int × Int × Int) × Int × Int × Int) (a2 : Int) : Con Tryz.prog 44 [(.a (k9 a0)), (.a (k9 a1)), (iv a2)] [] (.t [(.a (k2 (F44 a0 a1 a2).1)), (iv (F44 a0 a1 a2).2)]) [] := by
  refine con_s Tryz.func44 (by kernel_rfl) fun cx hcx => ?_
  let t0 : List (St Tryz.prog) := [.c [] (C88 a0 a1 a2)]
  cases h0 : (((F88 a0 a1 a2) : Int) != 0) with
  | true =>
   have q0 := bne_iff_ne.1 h0
   have e := Eq.refl (F44 a0 a1 a2); conv at e => rhs; simp only [F44, h0, cond_true, cond_false]
   rw [e]
   exact rt (t0 ++ [.d h0]) [] [] hcx (by kernel_rfl)
  | false =>
   have q0 := bne_eq_false_iff_eq.1 h0
   have e := Eq.refl (F44 a0 a1 a2); conv at e => rhs; simp only [F44, h0, cond_true, cond_false]
   rw [e]
   exact rt (t0 ++ [.d h0, .p (show 0 ≤ ((IntKind.wrap .u64 a2) : Int) from by first | omega | (rw [W_eq] <;> omega) | exact u64_nn _), .c [] (C90 a1.1 (W (1 * 2 ^ (min (Int.toNat (IntKind.wrap .u64 a2)) 64)))), .c [] (C90 a1.2.1 (W (1 * 2 ^ (min (Int.toNat (IntKind.wrap .u64 a2)) 64)))), .c [] (C90 a1.2.2 (W (1 * 2 ^ (min (Int.toNat (IntKind.wrap .u64 a2)) 64)))), .c [] (C89 a0 a2 ((F90 a1.1 (W (1 * 2 ^ (min (Int.toNat (IntKind.wrap .u64 a2)) 64)))), (F90 a1.2.1 (W (1 * 2 ^ (min (Int.toNat (IntKind.wrap .u64 a2)) 64)))), (F90 a1.2.2 (W (1 * 2 ^ (min (Int.toNat (IntKind.wrap .u64 a2)) 64)))))  (paired_le h0) (paired_hr h0))]) [] [] hcx (by kernel_rfl)

end Go.Proofs.YtnbpiejjeeomkaaGreat

namespace Go.Proofs.YtnbpiejjeeomkaaGreat
open Go.Proofs Go.Aw Go.RowKit
set_option maxRecDepth 100000
set_option linter.unusedVariables false
set_option linter.unusedSimpArgs false

/-! ### The parts -/
theorem cutL_len : ∀ (d : Nat) (p : PN), (cutL d p).length = 4 ^ d
  | 0, p => rfl
  | d + 1, p => by
    rw [cutL_quad]
    have : ∀ l : List PN, (l.flatMap quad).length = 4 * l.length := fun l => by
      induction l with
      | nil => rfl
      | cons x l ih => rw [List.flatMap_cons, List.length_append, ih]; show 4 + _ = _; simp only [List.length_cons]; omega
    rw [this, cutL_len d p, Nat.pow_succ]; omega
end Go.Proofs.YtnbpiejjeeomkaaGreat
