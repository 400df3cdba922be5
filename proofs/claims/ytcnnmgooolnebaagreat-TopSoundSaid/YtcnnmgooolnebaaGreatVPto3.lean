/-
  Parts of the proofs of the laws: the executor, what functions of the program compute, and that it is what the statements ask. No premise.
-/
import Derived.Test.YtcnnmgooolnebaaGreatVPto2
import Derived.Test.YtcnnmgooolnebaaGreatRows
import Derived.Shelf.Abstract
import Derived.ProofKit
import Derived.OpenShut
namespace Go.Aw
open Go.RowKit
set_option linter.unusedVariables false
set_option linter.unusedSimpArgs false

def cat : List Ob → List Ob → List Ob
  | [], m => m
  | x :: l, m => x :: cat l m
theorem Obs.cat {P : Program} : ∀ {l m : List Ob}, Obs P l → Obs P m → Obs P (cat l m)
  | [], _, _, h => h
  | _ :: _, _, h, h' => ⟨h.1, Obs.cat h.2 h'⟩
structure St (P : Program) where
  o : List Or
  b : List Ob
  ok : Obs P b
def stO {P : Program} : List (St P) → List Or
  | [] => []
  | x :: l => x.o ++ stO l
def stB {P : Program} : List (St P) → List Ob
  | [] => []
  | x :: l => cat x.b (stB l)
theorem stOk {P : Program} : ∀ l : List (St P), Obs P (stB l)
  | [] => trivial
  | x :: l => Obs.cat x.ok (stOk l)
section
variable {P : Program}
def St.d {c d : Bool} (h : c = d) : St P := ⟨[.d d], [.eq c d], h, trivial⟩
def St.T : St P := St.d (rfl : true = true)
def St.F : St P := St.d (rfl : false = false)
def St.p {p : Prop} (h : p) : St P := ⟨[], [.pr p], h, trivial⟩
def St.i (i : Int) (n : Nat) (h : 0 ≤ i ∧ i < ((n : Nat) : Int) := by omega) : St P := St.p h
def St.c (ks : List Nat) {f : Nat} {args : List SV} {bs : List BK} {res : SV} {nb mb : List BK} (h : Con P f args bs res nb mb) : St P := ⟨[.call ks res nb mb], [.call f args bs res nb mb], h, trivial⟩
def St.u (m : Nat) : St P := ⟨[.un m], [], trivial⟩
def St.l {l : List SV} {o n : Nat} (r : List SV) (h : (l.drop o).take n = r) : St P := ⟨[.ld r], [.pr ((l.drop o).take n = r)], h, trivial⟩
theorem ld_at {α : Type} [Inhabited α] {c : α → List SV} {es : Nat} (hc : ∀ x, (c x).length = es) (l : List α) (i : Int) (o n : Nat) (h : 0 ≤ i ∧ i < (l.length : Int)) (ho : o + n ≤ es) :
    ((flat c l).drop (0 + i.toNat * es + o)).take n = ((c (l.getD i.toNat default)).drop o).take n :=
  ld_part hc default l i o n h ho (by omega) rfl
def St.L {α : Type} [Inhabited α] {c : α → List SV} {es : Nat} (hc : ∀ x, (c x).length = es) (l : List α) (i : Int) (o n : Nat) (h : 0 ≤ i ∧ i < (l.length : Int) := by omega) (ho : o + n ≤ es := by decide) : St P :=
  St.l _ (ld_at hc l i o n h ho)
def St.R {α : Type} [Inhabited α] {c : α → List SV} {es : Nat} (hc : ∀ x, (c x).length = es) (l : List α) (i : Int) (o n : Nat) {raw : List SV} (e : raw = flat c l) (h : 0 ≤ i ∧ i < (l.length : Int) := by first | omega | (simp only [List.length_set]; omega)) (ho : o + n ≤ es := by decide) : St P :=
  St.l (l := raw) (o := 0 + i.toNat * es + o) (n := n) (((c (l.getD i.toNat default)).drop o).take n) (by rw [e]; exact ld_at hc l i o n h ho)

variable {T : Nat → Option TI} {cx : Cx} {D : List Deferred} {r : Option Nat} {n : Nat} {Q : Exit → Act → World → Prop}
def bodyOf (fn : Func) : Code := fn.body.getD .skip
theorem con_s {f : Nat} {fn : Func} {args : List SV} {bs : List BK} {res : SV} {nb mb : List BK} (hf : P.funcs[f]? = some fn)
    (hc : (fn.body.isSome && !(fn.name == "runtime.NumGoroutine") && decide (args.length ≤ fn.ntmps) && bs.all isLive && belowL bs.length args && bs.all (belowB bs.length)) = true)
    (h : ∀ cx : Cx, cx.base = bs.length → Good P none 9 (bodyPost P fn (RR cx res nb mb)) cx [] [.c (bodyOf fn)] (start fn.ntmps args bs)) : Con P f args bs res nb mb := by
  simp only [Bool.and_eq_true, Bool.not_eq_true', decide_eq_true_eq] at hc
  obtain ⟨⟨⟨⟨⟨h1, h2⟩, h3⟩, h4⟩, h5⟩, h6⟩ := hc
  obtain ⟨c, hb⟩ := Option.isSome_iff_exists.1 h1
  have e : bodyOf fn = c := by unfold bodyOf; rw [hb]; rfl
  exact con_of_good (n := 9) hf hb (ent hf h2 hb) h3 (by rw [h4, h5, h6]; rfl) (fun cx hcx => e ▸ h cx hcx)
theorem ret_s (hT : TOk P T) (hm : P.follows .mixedOrders = true) {fn : Func} {f : Nat} {k : List K} {s : LS} (sts : List (St P)) (ads : List Adj) (ks : List Nat) {base : Nat} (hb : cx.base = base) {res : SV} {nb : List BK}
    (h : retOf T fn.results.toList base [] ks (adjO ads (run T f k s (stO sts))) = some (res, nb, [], stB sts)) : Good P none n (bodyPost P fn (RR cx res nb [])) cx [] k s := ret_of hT hm ads [] ks hb h (stOk sts)
theorem enter_s (hT : TOk P T) (hm : P.follows .mixedOrders = true) {f : Nat} {k : List K} {s : LS} (sts : List (St P)) (ads : List Adj) (ts ks : List Nat) {base : Nat} (hb : cx.base = base) (body : Code) (k' : List K) (s' : LS) (m : Nat)
    (h : enterOf base ts ks (adjO ads (run T f k s (stO sts))) = some (body, k', s', stB sts)) (hg : Good P r n Q cx D (.l body m :: k') s') : Good P r n Q cx D k s := enter_of hT hm ads ts ks hb h (stOk sts) ⟨m, hg⟩
theorem back_s (hT : TOk P T) (hm : P.follows .mixedOrders = true) {f m : Nat} {k : List K} {s : LS} (sts : List (St P)) (ads : List Adj) (ts ks : List Nat) {base : Nat} (hb : cx.base = base) (body : Code) (k' : List K) (s' : LS)
    (h : backOf base ts ks (adjO ads (run T f k s (stO sts))) = some (body, m, k', s', stB sts)) (hg : Good P r n Q cx D (.l body m :: k') s') : Good P r n Q cx D k s := back_of hT hm ads ts ks hb h (stOk sts) hg
theorem at_s (hT : TOk P T) (hm : P.follows .mixedOrders = true) {f : Nat} {k : List K} {s : LS} (sts : List (St P)) (ads : List Adj) (ts ks : List Nat) {base : Nat} (hb : cx.base = base) (x : Code) (k' : List K) (s' : LS)
    (h : atOf base ts ks (adjO ads (run T f k s (stO sts))) = some (x, k', s', stB sts)) (hg : Good P r n Q cx D (.c x :: k') s') : Good P r n Q cx D k s := at_of hT hm ads ts ks hb h (stOk sts) hg
end
def slN (n : Nat) : List (Nat × SV) → List SV
  | [] => List.replicate n .u
  | (t, x) :: l => (slN n l).set t x
theorem loopF_s {S R : Type} [Inhabited R] (step : S → S ⊕ R) (n : Nat) (v : S) : loopF step (n + 1) v = thenF step n (step v) := rfl
end Go.Aw

namespace Go.Aw
open Go.RowKit
set_option linter.unusedVariables false
set_option linter.unusedSimpArgs false

section
variable {α β : Type} [DecidableEq α] {kc : α → SV} {vc : β → SV} {l : List (α × β)} {k : α} {T : Nat → Option TI} {kt : Nat}
/-! ### Steps -/
variable {P : Program}
def St.z (id : Nat) : St P := ⟨[.stop id], [], trivial⟩
end

def St.sub {P : Program} (a b : Int) (n : Nat) (h : 0 ≤ a ∧ a ≤ b ∧ b ≤ (n : Int) := by omega) : St P := ⟨[.mp []], [.pr (0 ≤ a ∧ a ≤ b ∧ b ≤ (n : Int))], h, trivial⟩

/-! ### Numbers as keys -/
/-! ### Lists of lists -/
section
variable {P : Program}
theorem d_plain {α : Type} {c : α → List SV} (hc : ∀ x, (c x).all SV.plain = true) (l : List α) : Plain (flat c l) := flat_plain hc
def St.D {α : Type} {c : α → List SV} {c2 : List α → List SV} (es : Nat) (hc2 : ∀ x, c2 x = [.d (flat c x) x.length es]) (l : List (List α)) (i : Int) (h : 0 ≤ i ∧ i < (l.length : Int) := by omega) (hc : ∀ x, (c x).all SV.plain = true := by exact fun _ => rfl) : St P :=
  ⟨[.ld [.d (flat c (l.getD i.toNat default)) (l.getD i.toNat default).length es]], [.pr (((flat c2 l).drop (0 + i.toNat * 1)).take 1 = [.d (flat c (l.getD i.toNat default)) (l.getD i.toNat default).length es]), .pr (Plain (flat c (l.getD i.toNat default)))],
    by
      have h1 : ∀ x, (c2 x).length = 1 := fun x => by rw [hc2]; rfl
      have := ld_at h1 l i 0 1 h (by decide)
      rw [Nat.add_zero] at this
      show _ = _
      rw [this, hc2]; rfl, d_plain hc _, trivial⟩
theorem flat_drop {α : Type} {c : α → List SV} {es : Nat} (hc : ∀ x, (c x).length = es) : ∀ (l : List α) (n : Nat), (flat c l).drop (n * es) = flat c (l.drop n)
  | [], n => by simp [flat]
  | x :: l, 0 => by simp
  | x :: l, n + 1 => by
    rw [flat_cons, Nat.add_mul, Nat.one_mul, Nat.add_comm, ← List.drop_drop, List.drop_left' (hc x), flat_drop hc l n]; simp
theorem flat_take {α : Type} {c : α → List SV} {es : Nat} (hc : ∀ x, (c x).length = es) : ∀ (l : List α) (n : Nat), (flat c l).take (n * es) = flat c (l.take n)
  | [], n => by simp [flat]
  | x :: l, 0 => by simp [flat]
  | x :: l, n + 1 => by
    rw [flat_cons, Nat.add_mul, Nat.one_mul, Nat.add_comm, ← hc x, List.take_length_add_append, hc x, flat_take hc l n]; simp [flat_cons]
def part {α : Type} (l : List α) (a b : Int) : List α := (l.drop a.toNat).take (b.toNat - a.toNat)
theorem part_len {α : Type} {l : List α} {a b : Int} (h : 0 ≤ a ∧ a ≤ b ∧ b ≤ l.length) : (part l a b).length = b.toNat - a.toNat := by
  unfold part; rw [List.length_take, List.length_drop]; omega
def St.S {α : Type} {c : α → List SV} {es : Nat} (hc : ∀ x, (c x).length = es) (l : List α) (a b : Int) (n : Nat) (h : 0 ≤ a ∧ a ≤ b ∧ b ≤ (n : Int) := by omega) : St P :=
  ⟨[.ld (flat c (part l a b))], [.pr (0 ≤ a ∧ a ≤ b ∧ b ≤ (n : Int)), .pr (flat c (part l a b) = ((flat c l).drop (0 + a.toNat * es)).take ((b.toNat - a.toNat) * es))], h, by rw [Nat.zero_add, flat_drop hc, flat_take hc]; rfl, trivial⟩
end
end Go.Aw

namespace Go.Aw
open Go.RowKit
set_option linter.unusedVariables false
set_option linter.unusedSimpArgs false

mutual
def SV.hasB (i : Nat) : SV → Bool
  | .p j _ => j == i
  | .s j _ _ _ => j == i
  | .m j => j == i
  | .f _ caps => SV.hasBl i caps
  | .a l => SV.hasBl i l
  | .t l => SV.hasBl i l
  | _ => false
def SV.hasBl (i : Nat) : List SV → Bool
  | [] => false
  | x :: l => SV.hasB i x || SV.hasBl i l
end
mutual
theorem has_B {i : Nat} : ∀ (x : SV), x.has i → x.hasB i = true
  | .u, h => by simp [SV.has] at h
  | .b _, h => by simp [SV.has] at h
  | .v _, h => by simp [SV.has] at h
  | .d _ _ _, h => by simp [SV.has] at h
  | .p j _, h => by simp only [SV.has] at h; simp [SV.hasB, h]
  | .s j _ _ _, h => by simp only [SV.has] at h; simp [SV.hasB, h]
  | .m j, h => by simp only [SV.has] at h; simp [SV.hasB, h]
  | .f _ caps, h => by simp only [SV.has] at h; simp only [SV.hasB]; exact hasl_B caps h
  | .a l, h => by simp only [SV.has] at h; simp only [SV.hasB]; exact hasl_B l h
  | .t l, h => by simp only [SV.has] at h; simp only [SV.hasB]; exact hasl_B l h
theorem hasl_B {i : Nat} : ∀ (l : List SV), SV.hasl i l → SV.hasBl i l = true
  | [], h => by simp [SV.hasl] at h
  | x :: l, h => by
    simp only [SV.hasl] at h
    simp only [SV.hasBl, Bool.or_eq_true]
    exact h.imp (has_B x) (hasl_B l)
end
def BK.hasB (i : Nat) : BK → Bool
  | .live _ false cells => SV.hasBl i cells
  | .map es => SV.hasBl i (flatE es)
  | _ => false
theorem bk_B {i : Nat} {x : BK} (hpl : x.pl) (h : x.has i) : x.hasB i = true := by
  cases x with
  | un => exact h.elim
  | dead => exact h.elim
  | map es => exact hasl_B _ h
  | live own sym cells =>
    cases sym with
    | true => exact (hpl i h).elim
    | false => exact hasl_B _ h

section
variable {P : Program} {ρ : Env} {W : World} {M : Nat → Prop}

theorem part_rep {α : Type} {c : α → List SV} {es : Nat} (hc : ∀ x, (c x).length = es) {l : List α} {a b : Int} (hab : 0 ≤ a ∧ a ≤ b ∧ b ≤ l.length) {i : Nat} {y : Value}
    (hr : Rel ρ (.s i (0 + a.toNat * es) (b.toNat - a.toNat) es) y) (hb : BRep ρ M W i (.live false true (flat c l))) (hpl : Plain (flat c l)) :
    ∃ q, ∀ (k : Nat) (ρ2 : Env), ρ2 k = q → ρ2.fz = ρ.fz → Rel ρ2 (.s k 0 (part l a b).length es) y ∧ BRep ρ2 M W k (.live false true (flat c (part l a b))) := by
  have hl := part_len hab
  have hf : flat c (part l a b) = ((flat c l).drop (a.toNat * es)).take ((b.toNat - a.toNat) * es) := by rw [flat_drop hc, flat_take hc]; rfl
  simp only [Rel] at hr
  rcases hr with ⟨h1, h2, h3⟩ | ⟨b0, o, N, cap, off', h1, h2, h3, h4, h5⟩
  · refine ⟨none, fun k ρ2 hq hfz => ⟨?_, .inl ⟨hq, ?_⟩⟩⟩
    · simp only [Rel]; exact .inl ⟨hq, by omega, h3⟩
    · rw [hf, h2]; simp
  · refine ⟨some (b0, o + off', cap * es), fun k ρ2 hq hfz => ⟨?_, ?_⟩⟩
    · simp only [Rel]
      exact .inr ⟨b0, o + off', cap * es, cap, 0, hq, by rw [hl, Nat.add_zero]; exact h2, by rw [hl]; exact h3, by omega, fun _ => rfl⟩
    · rcases hb with ⟨e1, _⟩ | ⟨b1, o1, n1, vs, e1, ⟨e2, e3⟩, e4, e5⟩
      · rw [h1] at e1; cases e1
      · rw [h1] at e1
        simp only [Option.some.injEq, Prod.mk.injEq] at e1
        obtain ⟨rfl, rfl, rfl⟩ := e1
        have hle : (b.toNat - a.toNat) * es ≤ cap * es := Nat.mul_le_mul_right _ h3
        refine .inr ⟨b0, o + off', cap * es, (vs.drop (a.toNat * es)).take ((b.toNat - a.toNat) * es), hq, ⟨by rw [List.length_take]; omega, fun hne hM => ?_⟩, ?_, fun t x hx => ?_⟩
        · rw [hfz]
          exact e3 (fun e => hne (by rw [e]; simp)) hM
        · rw [hf]
          have hp2 : Plain (((flat c l).drop (a.toNat * es)).take ((b.toNat - a.toNat) * es)) := fun j hj => hpl j (hasl_drop (hasl_take hj))
          exact Plain.congr (fun b o ho => by rw [hfz]; exact ho) hp2 (Rels.take _ (Rels.drop _ e4))
        · have ht := (List.getElem?_eq_some_iff.1 hx).1
          rw [List.length_take] at ht
          rw [List.getElem?_take_of_lt (by omega), List.getElem?_drop] at hx
          have hcap : cap ≠ 0 := by
            intro e
            rw [e] at hle
            omega
          rw [h5 hcap, show o + (0 + a.toNat * es) + t = o + (a.toNat * es + t) by omega]
          exact e5 _ x hx

theorem rels_mid' {ρ ρ2 : Env} {x y : SV} : ∀ {pre post : List SV} {vs : List Value}, Rels ρ (pre ++ x :: post) vs → ρ.le ρ2 → (∀ j, SV.hasl j pre ∨ SV.hasl j post → ρ2 j = ρ j) → (∃ v, vs[pre.length]? = some v ∧ Rel ρ2 y v) → Rels ρ2 (pre ++ y :: post) vs
  | [], post, [], h, _, _, _ => by simp [Rels] at h
  | [], post, v :: vs, h, hf, hj, hx => by
    simp only [List.nil_append, Rels] at h ⊢
    obtain ⟨v', e, hx⟩ := hx
    simp only [List.length_nil, List.getElem?_cons_zero, Option.some.injEq] at e
    subst e
    exact ⟨hx, Rels.congr hf _ _ (fun j hk => hj j (.inr hk)) h.2⟩
  | z :: pre, post, [], h, _, _, _ => by simp [Rels] at h
  | z :: pre, post, v :: vs, h, hf, hj, hx => by
    simp only [List.cons_append, Rels] at h ⊢
    refine ⟨Rel.congr hf _ _ (fun j hk => hj j (.inl (by simp only [SV.hasl]; exact .inl hk))) h.1, rels_mid' h.2 hf (fun j hk => hj j ?_) ?_⟩
    · rcases hk with hk | hk
      · exact .inl (by simp only [SV.hasl]; exact .inr hk)
      · exact .inr hk
    · obtain ⟨v', e, hx⟩ := hx
      exact ⟨v', by simpa using e, hx⟩
theorem rels_at {x : SV} : ∀ {pre post : List SV} {vs : List Value}, Rels ρ (pre ++ x :: post) vs → ∃ v, vs[pre.length]? = some v ∧ Rel ρ x v
  | [], _, [], h => by simp [Rels] at h
  | [], _, v :: _, h => by simp only [List.nil_append, Rels] at h; exact ⟨v, rfl, h.1⟩
  | _ :: _, _, [], h => by simp [Rels] at h
  | _ :: pre, _, _ :: _, h => by
    simp only [List.cons_append, Rels] at h
    obtain ⟨v, e, hx⟩ := rels_at h.2
    exact ⟨v, by simpa using e, hx⟩

theorem getD_mid {x : BK} {bs1 bs2 : List BK} (j : Nat) : (bs1 ++ x :: bs2).getD j .un = if j = bs1.length then x else if j < bs1.length then bs1.getD j .un else bs2.getD (j - bs1.length - 1) .un := by
  simp only [List.getD_eq_getElem?_getD]
  by_cases h : j = bs1.length
  · subst h; simp
  · rw [if_neg h]
    by_cases h2 : j < bs1.length
    · rw [if_pos h2, List.getElem?_append_left h2]
    · rw [if_neg h2, List.getElem?_append_right (by omega)]
      obtain ⟨k, hk⟩ : ∃ k, j - bs1.length = k + 1 := ⟨j - bs1.length - 1, by omega⟩
      rw [hk]; simp

theorem Con.part {f : Nat} {pre post : List SV} {bs1 bs2 nb : List BK} {res : SV} {α : Type} {c : α → List SV} {es : Nat} {l : List α} {a b : Int} (i : Nat) (hc : ∀ x, (c x).length = es) (hab : 0 ≤ a ∧ a ≤ b ∧ b ≤ l.length) (hi : bs1.length = i)
    (hno : (!SV.hasBl i pre && !SV.hasBl i post && bs1.all (fun x => !x.hasB i) && bs2.all (fun x => !x.hasB i) && nb.all (fun x => !x.hasB i) && !res.hasB i) = true)
    (h : Con P f (pre ++ .s i 0 (Aw.part l a b).length es :: post) (bs1 ++ .live false true (flat c (Aw.part l a b)) :: bs2) res nb) :
    Con P f (pre ++ .s i (0 + a.toNat * es) (b.toNat - a.toNat) es :: post) (bs1 ++ .live false true (flat c l) :: bs2) res nb := by
  subst hi
  simp only [Bool.and_eq_true, Bool.not_eq_true', List.all_eq_true] at hno
  obtain ⟨⟨⟨⟨⟨n1, n2⟩, n3⟩, n4⟩, n5⟩, n6⟩ := hno
  refine ⟨h.1, fun ρ W vs hr hb hpl hap hfz => ?_⟩
  obtain ⟨y, hy, hry⟩ := rels_at hr
  have hbi := hb bs1.length
  have hpi := hpl bs1.length
  rw [getD_mid, if_pos rfl] at hbi hpi
  obtain ⟨q, hq⟩ := part_rep hc hab hry hbi hpi
  have hne : ∀ j, j ≠ bs1.length → (ρ.set bs1.length q) j = ρ j := fun j hj => by rw [Env.set_loc, if_neg hj]
  have hat : (ρ.set bs1.length q) bs1.length = q := by rw [Env.set_loc, if_pos rfl]
  have hown : ownOf (ρ.set bs1.length q) (bs1 ++ .live false true (flat c (Aw.part l a b)) :: bs2) = ownOf ρ (bs1 ++ .live false true (flat c l) :: bs2) := by
    funext b0
    apply propext
    unfold ownOf
    constructor
    · rintro ⟨j, n, h1, h2⟩
      rw [getD_mid] at h1
      by_cases hj : j = bs1.length
      · rw [if_pos hj] at h1; exact h1.elim
      · refine ⟨j, n, ?_, by rw [← hne j hj]; exact h2⟩
        rw [getD_mid, if_neg hj]; rw [if_neg hj] at h1; exact h1
    · rintro ⟨j, n, h1, h2⟩
      rw [getD_mid] at h1
      by_cases hj : j = bs1.length
      · rw [if_pos hj] at h1; exact h1.elim
      · refine ⟨j, n, ?_, by rw [hne j hj]; exact h2⟩
        rw [getD_mid, if_neg hj]; rw [if_neg hj] at h1; exact h1
  have hmine : (callCx (ρ.set bs1.length q) W (bs1 ++ .live false true (flat c (Aw.part l a b)) :: bs2)).mine = (callCx ρ W (bs1 ++ .live false true (flat c l) :: bs2)).mine := by
    funext b0
    unfold Cx.mine callCx
    simp only [hown]
  obtain ⟨g1, g2⟩ := hq bs1.length (ρ.set bs1.length q) hat rfl
  have blk : ∀ j, j ≠ bs1.length → (bs1 ++ BK.live false true (flat c (Aw.part l a b)) :: bs2).getD j .un = (bs1 ++ BK.live false true (flat c l) :: bs2).getD j .un := fun j hj => by rw [getD_mid, getD_mid, if_neg hj, if_neg hj]
  have nohas : ∀ j, j ≠ bs1.length → ¬ ((bs1 ++ BK.live false true (flat c l) :: bs2).getD j .un).has bs1.length := fun j hj hk => by
    have hB := bk_B (hpl j) hk
    rw [getD_mid, if_neg hj] at hB
    split at hB
    · rename_i hlt
      rw [List.getD_eq_getElem?_getD, List.getElem?_eq_getElem hlt, Option.getD_some] at hB
      rw [n3 _ (List.getElem_mem hlt)] at hB; cases hB
    · by_cases hlt : j - bs1.length - 1 < bs2.length
      · rw [List.getD_eq_getElem?_getD, List.getElem?_eq_getElem hlt, Option.getD_some] at hB
        rw [n4 _ (List.getElem_mem hlt)] at hB; cases hB
      · rw [List.getD_eq_getElem?_getD, List.getElem?_eq_none (by omega), Option.getD_none] at hB; cases hB
  have nol : ∀ {m : List SV}, SV.hasBl bs1.length m = false → ∀ j, SV.hasl j m → j ≠ bs1.length := fun hm j hj e => by
    subst e; rw [hasl_B _ hj] at hm; cases hm
  have hcall := h.2 (ρ.set bs1.length q) W vs ?_ ?_ ?_ ?_ ?_
  · refine hcall.mono fun e W' hR => ?_
    obtain ⟨ρ', v, r1, r2, r3, r4, r5, r6, r7, r8, r9⟩ := hR
    have hbase : (callCx (ρ.set bs1.length q) W (bs1 ++ .live false true (flat c (Aw.part l a b)) :: bs2)).base = (callCx ρ W (bs1 ++ .live false true (flat c l) :: bs2)).base := by simp [callCx]
    have hlt : bs1.length < (callCx ρ W (bs1 ++ .live false true (flat c l) :: bs2)).base := by simp [callCx]
    rw [hbase] at r2 r5 r6 r7 r9
    rw [hmine] at r5 r9
    have hnb : ∀ j, ¬ (postB (callCx ρ W (bs1 ++ .live false true (flat c l) :: bs2)).base [] nb j).has bs1.length := fun j hk => by
      have hB := bk_B (r6 j) hk
      unfold postB at hB
      split at hB
      · simp [BK.hasB] at hB
      · rename_i hge
        by_cases hl2 : j - (callCx ρ W (bs1 ++ .live false true (flat c l) :: bs2)).base < nb.length
        · rw [List.getD_eq_getElem?_getD, List.getElem?_eq_getElem hl2, Option.getD_some] at hB
          rw [n5 _ (List.getElem_mem hl2)] at hB; cases hB
        · rw [List.getD_eq_getElem?_getD, List.getElem?_eq_none (by omega), Option.getD_none] at hB; cases hB
    have ho : ∀ j, (postB (callCx ρ W (bs1 ++ .live false true (flat c l) :: bs2)).base [] nb j).own → j ≠ bs1.length := fun j hj e => by
      subst e
      unfold postB at hj
      rw [if_pos hlt] at hj
      exact hj
    have hs : ∀ j, j ≠ bs1.length → (ρ'.set bs1.length (ρ bs1.length)) j = ρ' j := fun j hj => by rw [Env.set_loc, if_neg hj]
    refine ⟨ρ'.set bs1.length (ρ bs1.length), v, r1, fun j hj => ?_, ?_, ?_, fun j => ?_, r6, fun j k b1 m1 b2 m2 hjk o1 o2 e1 e2 => ?_, ?_, fun b0 o0 hf0 => ?_⟩
    · by_cases hji : j = bs1.length
      · subst hji; rw [Env.set_loc, if_pos rfl]; rfl
      · rw [hs j hji, r2 j hj]; exact hne j hji
    · exact Rel.congr (ρ'.le_set _ _) _ _ (fun j hk => hs j (fun e => by subst e; rw [has_B _ hk] at n6; cases n6)) r3
    · have : (callCx (ρ.set bs1.length q) W (bs1 ++ .live false true (flat c (Aw.part l a b)) :: bs2)).own = (callCx ρ W (bs1 ++ .live false true (flat c l) :: bs2)).own := hown
      rw [this] at r4; exact r4
    · by_cases hji : j = bs1.length
      · subst hji
        unfold postB
        rw [if_pos hlt]; trivial
      · exact BRep.congr (ρ'.le_set _ _) (hs j hji) (fun k hk => hs k (fun e => by subst e; exact hnb j hk)) (r5 j)
    · rw [hs j (ho j o1)] at e1
      rw [hs k (ho k o2)] at e2
      exact r7 j k b1 m1 b2 m2 hjk o1 o2 e1 e2
    · exact r8
    · obtain ⟨t1, t2, t3⟩ := r9 b0 o0 hf0
      exact ⟨t1, fun j n hj => by rw [hs j (ho j hj)]; exact t2 j n hj, t3⟩
  · refine rels_mid' hr (ρ.le_set _ _) (fun j hj => hne j ?_) ⟨y, hy, g1⟩
    rcases hj with hj | hj
    · exact nol n1 j hj
    · exact nol n2 j hj
  · intro j
    rw [hmine]
    by_cases hj : j = bs1.length
    · rw [hj, getD_mid, if_pos rfl]; exact g2
    · rw [blk j hj]
      exact BRep.congr (ρ.le_set _ _) (hne j hj) (fun k hk => hne k (fun e => by subst e; exact nohas j hj hk)) (hb j)
  · intro j
    by_cases hj : j = bs1.length
    · rw [hj, getD_mid, if_pos rfl]
      show Plain _
      have hf : flat c (Aw.part l a b) = ((flat c l).drop (a.toNat * es)).take ((b.toNat - a.toNat) * es) := by rw [flat_drop hc, flat_take hc]; rfl
      rw [hf]
      exact fun k hk => hpi k (hasl_drop (hasl_take hk))
    · rw [blk j hj]; exact hpl j
  · intro j k b1 m1 b2 m2 hjk o1 o2 e1 e2
    have hj : j ≠ bs1.length := fun e => by rw [e, getD_mid, if_pos rfl] at o1; exact o1
    have hk : k ≠ bs1.length := fun e => by rw [e, getD_mid, if_pos rfl] at o2; exact o2
    rw [blk j hj] at o1
    rw [blk k hk] at o2
    rw [hne j hj] at e1
    rw [hne k hk] at e2
    exact hap j k b1 m1 b2 m2 hjk o1 o2 e1 e2
  · intro b0 o0 hf0
    obtain ⟨t1, t2⟩ := hfz b0 o0 hf0
    refine ⟨t1, fun j n hj => ?_⟩
    have hji : j ≠ bs1.length := fun e => by rw [e, getD_mid, if_pos rfl] at hj; exact hj
    rw [blk j hji] at hj
    rw [hne j hji]
    exact t2 j n hj
theorem getD_last {x : BK} {bs : List BK} (j : Nat) : (bs ++ [x]).getD j .un = if j = bs.length then x else bs.getD j .un := by
  rw [getD_mid (bs2 := [])]
  by_cases h : j = bs.length
  · rw [if_pos h, if_pos h]
  · rw [if_neg h, if_neg h]
    by_cases h2 : j < bs.length
    · rw [if_pos h2]
    · rw [if_neg h2]
      simp only [List.getD_eq_getElem?_getD]
      rw [List.getElem?_eq_none (by omega : bs.length ≤ j)]; simp

end
end Go.Aw

namespace Go.Proofs.YtcnnmgooolnebaaGreat
open Go.Proofs Go.Aw Go.RowKit
set_option maxRecDepth 100000
set_option linter.unusedVariables false
set_option linter.unusedSimpArgs false

noncomputable def T0 := conv Tryz.prog
theorem hT : TOk Tryz.prog T0 := fun _ _ h => h
theorem hm : Tryz.prog.follows .mixedOrders = true := by kernel_rfl
def W (n : Int) : Int := IntKind.wrap .i64 n
theorem W_def (n : Int) : W n = if n % 18446744073709551616 ≥ 9223372036854775808 then n % 18446744073709551616 - 18446744073709551616 else n % 18446744073709551616 := by
  unfold W IntKind.wrap
  simp [IntKind.bits, IntKind.signed]
theorem W_eq {n : Int} (h1 : -9223372036854775808 ≤ n) (h2 : n < 9223372036854775808) : W n = n := by
  rw [W_def]; split <;> omega
theorem shr_eq (x : Int) (k : Nat) {m : Nat} (hm : (2 : Int) ^ (min (Int.toNat k) 64) = m) : Int.fdiv x (2 ^ (min (Int.toNat k) 64)) = x / m := by
  rw [hm]; exact Int.fdiv_eq_ediv_of_nonneg _ (by omega)
theorem u64_nn (n : Int) : 0 ≤ IntKind.wrap .u64 n := by
  simp only [IntKind.wrap, IntKind.bits, IntKind.signed]
  simp
  omega
theorem bool_tf (b : Bool) : b = true ∨ b = false := by cases b <;> simp
def k9 (x : (Int × Int × Int) × (Int × Int × Int) × Int × Int × Int) : List SV := [(iv x.1.1), (iv x.1.2.1), (iv x.1.2.2), (iv x.2.1.1), (iv x.2.1.2.1), (iv x.2.1.2.2), (iv x.2.2.1), (iv x.2.2.2.1), (iv x.2.2.2.2)]
def k3 (x : Int × Int × Int) : List SV := [(iv x.1), (iv x.2.1), (iv x.2.2)]
def k2 (x : Int × Int) : List SV := [(iv x.1), (iv x.2)]
section
variable {cx : Cx} {k : List K} {s : LS} {base : Nat} {Q : Exit → Act → World → Prop}
theorem rt {fn : Func} (sts : List (St Tryz.prog)) (ads : List Adj) (ks : List Nat) (hb : cx.base = base) {res : SV} {nb : List BK}
    (h : retOf T0 fn.results.toList base [] ks (adjO ads (run T0 5000 k s (stO sts))) = some (res, nb, [], stB sts)) : Aw.Good Tryz.prog none 9 (bodyPost Tryz.prog fn (RR cx res nb [])) cx [] k s := ret_s hT hm sts ads ks hb h
theorem en (sts : List (St Tryz.prog)) (ads : List Adj) (ts ks : List Nat) (hb : cx.base = base) (body : Code) (k' : List K) (s' : LS) (m : Nat)
    (h : enterOf base ts ks (adjO ads (run T0 5000 k s (stO sts))) = some (body, k', s', stB sts)) (hg : Aw.Good Tryz.prog none 9 Q cx [] (.l body m :: k') s') : Aw.Good Tryz.prog none 9 Q cx [] k s := enter_s hT hm sts ads ts ks hb body k' s' m h hg
theorem ba {m : Nat} (sts : List (St Tryz.prog)) (ads : List Adj) (ts ks : List Nat) (hb : cx.base = base) (body : Code) (k' : List K) (s' : LS)
    (h : backOf base ts ks (adjO ads (run T0 5000 k s (stO sts))) = some (body, m, k', s', stB sts)) (hg : Aw.Good Tryz.prog none 9 Q cx [] (.l body m :: k') s') : Aw.Good Tryz.prog none 9 Q cx [] k s := back_s hT hm sts ads ts ks hb body k' s' h hg
theorem ga (sts : List (St Tryz.prog)) (ads : List Adj) (ts ks : List Nat) (hb : cx.base = base) (x : Code) (k' : List K) (s' : LS)
    (h : atOf base ts ks (adjO ads (run T0 5000 k s (stO sts))) = some (x, k', s', stB sts)) (hg : Aw.Good Tryz.prog none 9 Q cx [] (.c x :: k') s') : Aw.Good Tryz.prog none 9 Q cx [] k s := at_s hT hm sts ads ts ks hb x k' s' h hg
end

def F76 (a0 : Int × Int × Int) (a1 : Int) : Int × Int × Int :=
  ((W (a1 * a0.1)), (W (a1 * a0.2.1)), (W (a1 * a0.2.2)))

theorem C76 (a0 : Int × Int × Int) (a1 : Int) : Con Tryz.prog 76 [(.a (k3 a0)), (iv a1)] [] (.a (k3 (F76 a0 a1))) [] := by
  refine con_s Tryz.func76 (by kernel_rfl) fun cx hcx => ?_
  have e := Eq.refl (F76 a0 a1); conv at e => rhs; simp only [F76]
  rw [e]
  exact rt [] [] [] hcx (by kernel_rfl)

def F109 (a0 : Int × Int × Int) (a1 : Int × Int × Int) : Int × Int × Int :=
  ((W (a0.1 + a1.1)), (W (a0.2.1 + a1.2.1)), (W (a0.2.2 + a1.2.2)))

theorem C109 (a0 : Int × Int × Int) (a1 : Int × Int × Int) : Con Tryz.prog 109 [(.a (k3 a0)), (.a (k3 a1))] [] (.a (k3 (F109 a0 a1))) [] := by
  refine con_s Tryz.func109 (by kernel_rfl) fun cx hcx => ?_
  have e := Eq.refl (F109 a0 a1); conv at e => rhs; simp only [F109]
  rw [e]
  exact rt [] [] [] hcx (by kernel_rfl)

def cP (x : (Int × Int × Int) × (Int × Int × Int) × Int × Int × Int) : List SV := [iv x.1.1, iv x.1.2.1, iv x.1.2.2, iv x.2.1.1, iv x.2.1.2.1, iv x.2.1.2.2, iv x.2.2.1, iv x.2.2.2.1, iv x.2.2.2.2]
def encP (x : (Int × Int × Int) × (Int × Int × Int) × Int × Int × Int) : Value := .agg #[.int .i64 x.1.1, .int .i64 x.1.2.1, .int .i64 x.1.2.2, .int .i64 x.2.1.1, .int .i64 x.2.1.2.1, .int .i64 x.2.1.2.2, .int .i64 x.2.2.1, .int .i64 x.2.2.2.1, .int .i64 x.2.2.2.2]
theorem encP_rel (ρ : Env) (x : (Int × Int × Int) × (Int × Int × Int) × Int × Int × Int) : Rel ρ (.a (cP x)) (encP x) := by
  simp only [Rel]; exact ⟨_, rfl, by simp [cP, Rels, Rel, iv]⟩
theorem cP_has (x : (Int × Int × Int) × (Int × Int × Int) × Int × Int × Int) (k : Nat) : ¬ (SV.a (cP x)).has k := by
  simp [cP, SV.has, SV.hasl, iv]
def yv (l : Nat) : Value := .func (.yield l) #[] #[]
def q1 (p : (Int × Int × Int) × (Int × Int × Int) × Int × Int × Int) : (Int × Int × Int) × (Int × Int × Int) × Int × Int × Int := (F76 p.1 2, F109 p.1 p.2.1, F109 p.2.2 p.1)
def q2 (p : (Int × Int × Int) × (Int × Int × Int) × Int × Int × Int) : (Int × Int × Int) × (Int × Int × Int) × Int × Int × Int := (F109 p.1 p.2.1, F76 p.2.1 2, F109 p.2.1 p.2.2)
def q3 (p : (Int × Int × Int) × (Int × Int × Int) × Int × Int × Int) : (Int × Int × Int) × (Int × Int × Int) × Int × Int × Int := (F109 p.2.2 p.1, F109 p.2.1 p.2.2, F76 p.2.2 2)
def q4 (p : (Int × Int × Int) × (Int × Int × Int) × Int × Int × Int) : (Int × Int × Int) × (Int × Int × Int) × Int × Int × Int := (F109 p.1 p.2.1, F109 p.2.1 p.2.2, F109 p.2.2 p.1)
def cutL : Nat → (Int × Int × Int) × (Int × Int × Int) × Int × Int × Int → List ((Int × Int × Int) × (Int × Int × Int) × Int × Int × Int)
  | 0, p => [p]
  | d + 1, p => cutL d (q1 p) ++ (cutL d (q2 p) ++ (cutL d (q3 p) ++ cutL d (q4 p)))
theorem cutL_length : ∀ (d : Nat) (p : (Int × Int × Int) × (Int × Int × Int) × Int × Int × Int), (cutL d p).length = 4 ^ d
  | 0, p => rfl
  | d + 1, p => by simp only [cutL, List.length_append, cutL_length d, Nat.pow_succ]; omega

def VisitAt (l : Nat) (J : Nat → (Nat → Prop) → World → Prop) (Jx : (Nat → Prop) → World → Prop) (xs : List ((Int × Int × Int) × (Int × Int × Int) × Int × Int × Int)) (d : Nat) : Prop :=
  ∀ (p : (Int × Int × Int) × (Int × Int × Int) × Int × Int × Int) (i : Nat) (S : Nat → Prop) (W : World) (ρ : Env) (vs : List Value), Rels ρ [.a (cP p), iv d, .p 0 0, .p 1 0] vs →
    BRep ρ (fun b => W.heap.size ≤ b) W 0 (.live false false [.v (yv l)]) → BRep ρ (fun b => W.heap.size ≤ b) W 1 (.live false false [.f 108 [.p 0 0, .p 1 0]]) →
    (∀ k, k < 2 → ∀ b o n, ρ k = some (b, o, n) → ¬ S b) → J i S W → (∀ j x, (cutL d p)[j]? = some x → xs[i + j]? = some x) →
    Calls Tryz.prog 108 vs.toArray W (VR J Jx (i + (cutL d p).length) S W)

noncomputable def OY : Array Oper := match (codeAtD [1, 0, 1, 0, 0] [] (Tryz.f108.body.getD .skip)).1 with
  | .region _ ops _ => ops
  | _ => #[]
noncomputable def KY : List K := (codeAtD [1, 0, 1, 0, 0] [] (Tryz.f108.body.getD .skip)).2
noncomputable def OV : Array Oper := match (codeAtD [1, 1, 1, 1, 0, 1, 0, 0, 1, 1, 0, 0, 1, 0] [0] (Tryz.f108.body.getD .skip)).1 with
  | .region _ ops _ => ops
  | _ => #[]
noncomputable def KV (m : Nat) : List K := (codeAtD [1, 1, 1, 1, 0, 1, 0, 0, 1, 1, 0, 0, 1, 0] [m] (Tryz.f108.body.getD .skip)).2
noncomputable def oY : Oper := OY.toList.getD 2 default
noncomputable def oV : Oper := OV.toList.getD 4 default
noncomputable def callTs (o : Oper) : Array TypeId := match o.op with
  | .call c => c.argTypes
  | _ => #[]
theorem oY_op : oY.op = .call { callee := .value (.tmp 17), args := #[.tmp 18], argTypes := callTs oY } := by kernel_rfl
theorem oV_op : oV.op = .call { callee := .value (.tmp 66), args := #[.tmp 67, .tmp 69], argTypes := callTs oV } := by kernel_rfl
theorem oY_split : OY.toList = OY.toList.take 2 ++ oY :: OY.toList.drop 3 := by kernel_rfl
theorem oV_split : OV.toList = OV.toList.take 4 ++ oV :: OV.toList.drop 5 := by kernel_rfl
theorem ent108 : Enters Tryz.prog 108 := ent Tryz.func108 (by kernel_rfl) rfl
theorem ent107 : Enters Tryz.prog 107 := ent Tryz.func107 (by kernel_rfl) rfl

def zY (l : Nat) (p : (Int × Int × Int) × (Int × Int × Int) × Int × Int × Int) : LS := ⟨[.u, .u, .p 0 0, .u, .p 2 0, .u, .u, .u, .u, .u, .u, .u, .u, .u, .u, .u, .u, .u, .u, .u, .u, .u, .u, .u, .u, .u, .u, .u, .u, .u, .u, .u, .u, .u, .u, .u, .u, .u, .u, .u, .u, .u, .u, .u, .u, .u, .u, .u, .u, .u, .u, .u, .u, .u, .u, .u, .u, .u, .u, .u, .u, .u, .u, .u, .u, .u, .u, .u, .u, .u, .u, .u, .u], [.live false false [.v (yv l)], .live false false [.f 108 [.p 0 0, .p 1 0]], .live true false (cP p)]⟩
def zY1 (l : Nat) (p : (Int × Int × Int) × (Int × Int × Int) × Int × Int × Int) : LS := ⟨[.u, .u, .p 0 0, .u, .p 2 0, .u, .u, .u, .u, .u, .u, .u, .u, .u, .u, .u, .u, .v (yv l), .a (cP p), .u, .u, .u, .u, .u, .u, .u, .u, .u, .u, .u, .u, .u, .u, .u, .u, .u, .u, .u, .u, .u, .u, .u, .u, .u, .u, .u, .u, .u, .u, .u, .u, .u, .u, .u, .u, .u, .u, .u, .u, .u, .u, .u, .u, .u, .u, .u, .u, .u, .u, .u, .u, .u, .u], [.live false false [.v (yv l)], .live false false [.f 108 [.p 0 0, .p 1 0]], .live true false (cP p)]⟩
def zY3 (l : Nat) (p : (Int × Int × Int) × (Int × Int × Int) × Int × Int × Int) (b : Bool) : LS := ⟨[.u, .u, .p 0 0, .u, .p 2 0, .u, .v (.bool b), .u, .u, .u, .u, .u, .u, .u, .u, .u, .u, .v (yv l), .a (cP p), .v (.bool b), .u, .u, .u, .u, .u, .u, .u, .u, .u, .u, .u, .u, .u, .u, .u, .u, .u, .u, .u, .u, .u, .u, .u, .u, .u, .u, .u, .u, .u, .u, .u, .u, .u, .u, .u, .u, .u, .u, .u, .u, .u, .u, .u, .u, .u, .u, .u, .u, .u, .u, .u, .u, .u], [.live false false [.v (yv l)], .live false false [.f 108 [.p 0 0, .p 1 0]], .live false false (cP p)]⟩

def zV1 (l : Nat) (p : (Int × Int × Int) × (Int × Int × Int) × Int × Int × Int) (d : Int) : LS := ⟨[.u, iv d, .u, .p 1 0, .u, .u, .u, .u, .u, .u, .u, .u, .u, .u, .p 3 0, .u, .u, .u, .u, .u, .u, .u, .u, .u, .u, .u, .u, .u, .u, .u, .u, .u, .u, .u, .u, .u, .u, .u, .u, .u, .u, .u, .u, .u, .u, .u, .u, .u, .u, .u, .u, .u, .u, .u, .u, .u, .u, .u, .u, .u, .s 2 0 4 9, iv 4, iv 0, .u, .u, .u, .u, .u, .u, .u, .u, .u, .u], [.live false false [.v (yv l)], .live false false [.f 108 [.p 0 0, .p 1 0]], .live true false (cP (q1 p) ++ (cP (q2 p) ++ (cP (q3 p) ++ cP (q4 p)))), .live true false (cP (q1 p))]⟩
def zV11 (l : Nat) (p : (Int × Int × Int) × (Int × Int × Int) × Int × Int × Int) (d : Int) : LS := ⟨[.u, iv d, .u, .p 1 0, .u, .u, .u, .u, .u, .u, .u, .u, .u, .u, .p 3 0, .u, .u, .u, .u, .u, .u, .u, .u, .u, .u, .u, .u, .u, .u, .u, .u, .u, .u, .u, .u, .u, .u, .u, .u, .u, .u, .u, .u, .u, .u, .u, .u, .u, .u, .u, .u, .u, .u, .u, .u, .u, .u, .u, .u, .u, .s 2 0 4 9, iv 4, iv 0, .u, .u, .u, .f 108 [.p 0 0, .p 1 0], .a (cP (q1 p)), iv d, iv (W (d - 1)), .u, .u, .u], [.live false false [.v (yv l)], .live false false [.f 108 [.p 0 0, .p 1 0]], .live true false (cP (q1 p) ++ (cP (q2 p) ++ (cP (q3 p) ++ cP (q4 p)))), .live true false (cP (q1 p))]⟩
def zV13 (l : Nat) (p : (Int × Int × Int) × (Int × Int × Int) × Int × Int × Int) (d : Int) (b : Bool) : LS := ⟨[.u, iv d, .u, .p 1 0, .u, .u, .u, .u, .u, .u, .u, .u, .u, .u, .p 3 0, .u, .u, .u, .u, .u, .u, .u, .u, .u, .u, .u, .u, .u, .u, .u, .u, .u, .u, .u, .u, .u, .u, .u, .u, .u, .u, .u, .u, .u, .u, .u, .u, .u, .u, .u, .u, .u, .u, .u, .u, .u, .u, .u, .u, .u, .s 2 0 4 9, iv 4, iv 0, .u, .u, .u, .f 108 [.p 0 0, .p 1 0], .a (cP (q1 p)), iv d, iv (W (d - 1)), .v (.bool b), .v (.bool (!b)), .u], [.live false false [.v (yv l)], .live false false [.f 108 [.p 0 0, .p 1 0]], .live false false (cP (q1 p) ++ (cP (q2 p) ++ (cP (q3 p) ++ cP (q4 p)))), .live false false (cP (q1 p))]⟩

def zV2 (l : Nat) (p : (Int × Int × Int) × (Int × Int × Int) × Int × Int × Int) (d : Int) : LS := ⟨[.u, iv d, .u, .p 1 0, .u, .u, .u, .u, .u, .u, .u, .u, .u, .u, .p 4 0, .u, .u, .u, .u, .u, .u, .u, .u, .u, .u, .u, .u, .u, .u, .u, .u, .u, .u, .u, .u, .u, .u, .u, .u, .u, .u, .u, .u, .u, .u, .u, .u, .u, .u, .u, .u, .u, .u, .u, .u, .u, .u, .u, .u, .u, .s 2 0 4 9, iv 4, iv 1, .u, .u, .u, .u, .u, .u, .u, .u, .u, .u], [.live false false [.v (yv l)], .live false false [.f 108 [.p 0 0, .p 1 0]], .live false false (cP (q1 p) ++ (cP (q2 p) ++ (cP (q3 p) ++ cP (q4 p)))), .live false false (cP (q1 p)), .live true false (cP (q2 p))]⟩
def zV21 (l : Nat) (p : (Int × Int × Int) × (Int × Int × Int) × Int × Int × Int) (d : Int) : LS := ⟨[.u, iv d, .u, .p 1 0, .u, .u, .u, .u, .u, .u, .u, .u, .u, .u, .p 4 0, .u, .u, .u, .u, .u, .u, .u, .u, .u, .u, .u, .u, .u, .u, .u, .u, .u, .u, .u, .u, .u, .u, .u, .u, .u, .u, .u, .u, .u, .u, .u, .u, .u, .u, .u, .u, .u, .u, .u, .u, .u, .u, .u, .u, .u, .s 2 0 4 9, iv 4, iv 1, .u, .u, .u, .f 108 [.p 0 0, .p 1 0], .a (cP (q2 p)), iv d, iv (W (d - 1)), .u, .u, .u], [.live false false [.v (yv l)], .live false false [.f 108 [.p 0 0, .p 1 0]], .live false false (cP (q1 p) ++ (cP (q2 p) ++ (cP (q3 p) ++ cP (q4 p)))), .live false false (cP (q1 p)), .live true false (cP (q2 p))]⟩
def zV23 (l : Nat) (p : (Int × Int × Int) × (Int × Int × Int) × Int × Int × Int) (d : Int) (b : Bool) : LS := ⟨[.u, iv d, .u, .p 1 0, .u, .u, .u, .u, .u, .u, .u, .u, .u, .u, .p 4 0, .u, .u, .u, .u, .u, .u, .u, .u, .u, .u, .u, .u, .u, .u, .u, .u, .u, .u, .u, .u, .u, .u, .u, .u, .u, .u, .u, .u, .u, .u, .u, .u, .u, .u, .u, .u, .u, .u, .u, .u, .u, .u, .u, .u, .u, .s 2 0 4 9, iv 4, iv 1, .u, .u, .u, .f 108 [.p 0 0, .p 1 0], .a (cP (q2 p)), iv d, iv (W (d - 1)), .v (.bool b), .v (.bool (!b)), .u], [.live false false [.v (yv l)], .live false false [.f 108 [.p 0 0, .p 1 0]], .live false false (cP (q1 p) ++ (cP (q2 p) ++ (cP (q3 p) ++ cP (q4 p)))), .live false false (cP (q1 p)), .live false false (cP (q2 p))]⟩

def zV3 (l : Nat) (p : (Int × Int × Int) × (Int × Int × Int) × Int × Int × Int) (d : Int) : LS := ⟨[.u, iv d, .u, .p 1 0, .u, .u, .u, .u, .u, .u, .u, .u, .u, .u, .p 5 0, .u, .u, .u, .u, .u, .u, .u, .u, .u, .u, .u, .u, .u, .u, .u, .u, .u, .u, .u, .u, .u, .u, .u, .u, .u, .u, .u, .u, .u, .u, .u, .u, .u, .u, .u, .u, .u, .u, .u, .u, .u, .u, .u, .u, .u, .s 2 0 4 9, iv 4, iv 2, .u, .u, .u, .u, .u, .u, .u, .u, .u, .u], [.live false false [.v (yv l)], .live false false [.f 108 [.p 0 0, .p 1 0]], .live false false (cP (q1 p) ++ (cP (q2 p) ++ (cP (q3 p) ++ cP (q4 p)))), .live false false (cP (q1 p)), .live false false (cP (q2 p)), .live true false (cP (q3 p))]⟩
def zV31 (l : Nat) (p : (Int × Int × Int) × (Int × Int × Int) × Int × Int × Int) (d : Int) : LS := ⟨[.u, iv d, .u, .p 1 0, .u, .u, .u, .u, .u, .u, .u, .u, .u, .u, .p 5 0, .u, .u, .u, .u, .u, .u, .u, .u, .u, .u, .u, .u, .u, .u, .u, .u, .u, .u, .u, .u, .u, .u, .u, .u, .u, .u, .u, .u, .u, .u, .u, .u, .u, .u, .u, .u, .u, .u, .u, .u, .u, .u, .u, .u, .u, .s 2 0 4 9, iv 4, iv 2, .u, .u, .u, .f 108 [.p 0 0, .p 1 0], .a (cP (q3 p)), iv d, iv (W (d - 1)), .u, .u, .u], [.live false false [.v (yv l)], .live false false [.f 108 [.p 0 0, .p 1 0]], .live false false (cP (q1 p) ++ (cP (q2 p) ++ (cP (q3 p) ++ cP (q4 p)))), .live false false (cP (q1 p)), .live false false (cP (q2 p)), .live true false (cP (q3 p))]⟩
def zV33 (l : Nat) (p : (Int × Int × Int) × (Int × Int × Int) × Int × Int × Int) (d : Int) (b : Bool) : LS := ⟨[.u, iv d, .u, .p 1 0, .u, .u, .u, .u, .u, .u, .u, .u, .u, .u, .p 5 0, .u, .u, .u, .u, .u, .u, .u, .u, .u, .u, .u, .u, .u, .u, .u, .u, .u, .u, .u, .u, .u, .u, .u, .u, .u, .u, .u, .u, .u, .u, .u, .u, .u, .u, .u, .u, .u, .u, .u, .u, .u, .u, .u, .u, .u, .s 2 0 4 9, iv 4, iv 2, .u, .u, .u, .f 108 [.p 0 0, .p 1 0], .a (cP (q3 p)), iv d, iv (W (d - 1)), .v (.bool b), .v (.bool (!b)), .u], [.live false false [.v (yv l)], .live false false [.f 108 [.p 0 0, .p 1 0]], .live false false (cP (q1 p) ++ (cP (q2 p) ++ (cP (q3 p) ++ cP (q4 p)))), .live false false (cP (q1 p)), .live false false (cP (q2 p)), .live false false (cP (q3 p))]⟩

def zV4 (l : Nat) (p : (Int × Int × Int) × (Int × Int × Int) × Int × Int × Int) (d : Int) : LS := ⟨[.u, iv d, .u, .p 1 0, .u, .u, .u, .u, .u, .u, .u, .u, .u, .u, .p 6 0, .u, .u, .u, .u, .u, .u, .u, .u, .u, .u, .u, .u, .u, .u, .u, .u, .u, .u, .u, .u, .u, .u, .u, .u, .u, .u, .u, .u, .u, .u, .u, .u, .u, .u, .u, .u, .u, .u, .u, .u, .u, .u, .u, .u, .u, .s 2 0 4 9, iv 4, iv 3, .u, .u, .u, .u, .u, .u, .u, .u, .u, .u], [.live false false [.v (yv l)], .live false false [.f 108 [.p 0 0, .p 1 0]], .live false false (cP (q1 p) ++ (cP (q2 p) ++ (cP (q3 p) ++ cP (q4 p)))), .live false false (cP (q1 p)), .live false false (cP (q2 p)), .live false false (cP (q3 p)), .live true false (cP (q4 p))]⟩
def zV41 (l : Nat) (p : (Int × Int × Int) × (Int × Int × Int) × Int × Int × Int) (d : Int) : LS := ⟨[.u, iv d, .u, .p 1 0, .u, .u, .u, .u, .u, .u, .u, .u, .u, .u, .p 6 0, .u, .u, .u, .u, .u, .u, .u, .u, .u, .u, .u, .u, .u, .u, .u, .u, .u, .u, .u, .u, .u, .u, .u, .u, .u, .u, .u, .u, .u, .u, .u, .u, .u, .u, .u, .u, .u, .u, .u, .u, .u, .u, .u, .u, .u, .s 2 0 4 9, iv 4, iv 3, .u, .u, .u, .f 108 [.p 0 0, .p 1 0], .a (cP (q4 p)), iv d, iv (W (d - 1)), .u, .u, .u], [.live false false [.v (yv l)], .live false false [.f 108 [.p 0 0, .p 1 0]], .live false false (cP (q1 p) ++ (cP (q2 p) ++ (cP (q3 p) ++ cP (q4 p)))), .live false false (cP (q1 p)), .live false false (cP (q2 p)), .live false false (cP (q3 p)), .live true false (cP (q4 p))]⟩
def zV43 (l : Nat) (p : (Int × Int × Int) × (Int × Int × Int) × Int × Int × Int) (d : Int) (b : Bool) : LS := ⟨[.u, iv d, .u, .p 1 0, .u, .u, .u, .u, .u, .u, .u, .u, .u, .u, .p 6 0, .u, .u, .u, .u, .u, .u, .u, .u, .u, .u, .u, .u, .u, .u, .u, .u, .u, .u, .u, .u, .u, .u, .u, .u, .u, .u, .u, .u, .u, .u, .u, .u, .u, .u, .u, .u, .u, .u, .u, .u, .u, .u, .u, .u, .u, .s 2 0 4 9, iv 4, iv 3, .u, .u, .u, .f 108 [.p 0 0, .p 1 0], .a (cP (q4 p)), iv d, iv (W (d - 1)), .v (.bool b), .v (.bool (!b)), .u], [.live false false [.v (yv l)], .live false false [.f 108 [.p 0 0, .p 1 0]], .live false false (cP (q1 p) ++ (cP (q2 p) ++ (cP (q3 p) ++ cP (q4 p)))), .live false false (cP (q1 p)), .live false false (cP (q2 p)), .live false false (cP (q3 p)), .live false false (cP (q4 p))]⟩

def vb : SV → Bool
  | .v _ | .b _ => true
  | _ => false
theorem rels_plain {ρ ρ' : Env} : ∀ {l : List SV} {vs us : List Value}, l.all vb = true → Rels ρ l vs → Rels ρ' l us → vs = us
  | [], [], [], _, _, _ => rfl
  | [], _ :: _, _, _, h, _ => by simp [Rels] at h
  | [], [], _ :: _, _, _, h => by simp [Rels] at h
  | _ :: _, [], _, _, h, _ => by simp [Rels] at h
  | _ :: _, _ :: _, [], _, _, h => by simp [Rels] at h
  | x :: l, y :: vs, z :: us, hp, h1, h2 => by
    simp only [List.all_cons, Bool.and_eq_true] at hp
    simp only [Rels] at h1 h2
    rw [rels_plain hp.2 h1.2 h2.2]
    have : y = z := by
      cases x <;> simp only [vb, Bool.false_eq_true, false_and] at hp
      · have a1 := h1.1; have a2 := h2.1; simp only [Rel] at a1 a2; rw [a1, a2]
      · have a1 := h1.1; have a2 := h2.1; simp only [Rel] at a1 a2; rw [a1, a2]
    rw [this]
theorem rels_cons {ρ : Env} {x : SV} {l : List SV} {y : Value} {m : List Value} (h : Rel ρ x y) (h' : Rels ρ l m) : Rels ρ (x :: l) (y :: m) := by simp only [Rels]; exact ⟨h, h'⟩
theorem sub_app {α : Type} {xs A B : List α} {i : Nat} (h : ∀ j x, (A ++ B)[j]? = some x → xs[i + j]? = some x) : (∀ j x, A[j]? = some x → xs[i + j]? = some x) ∧ (∀ j x, B[j]? = some x → xs[i + A.length + j]? = some x) :=
  ⟨fun j x hj => h j x (by rw [List.getElem?_append_left (List.getElem?_eq_some_iff.1 hj).1]; exact hj), fun j x hj => by
    have := h (A.length + j) x (by rw [List.getElem?_append_right (by omega), Nat.add_sub_cancel_left]; exact hj)
    rwa [← Nat.add_assoc] at this⟩

section
variable {l : Nat} {J : Nat → (Nat → Prop) → World → Prop} {Jx : (Nat → Prop) → World → Prop} {xs : List ((Int × Int × Int) × (Int × Int × Int) × Int × Int × Int)}

theorem visit_end (hJ : GrowsJ J) (hX : GrowsX Jx) {m m' : Nat} {W0 : World} {S : Nat → Prop} {cx : Cx} {b : Bool} (h1 : b = true → ∃ Sc, Seg J W0 S m' cx Sc) (h2 : b = false → SegX Jx W0 S cx) (hm : m' = m) (Wd : World) (hb : Below cx.w.heap.size cx.w Wd) (hd : cx.w.drawn ≤ Wd.drawn) :
    VR J Jx m S W0 (.returned (.bool b)) Wd := by
  subst hm
  cases b with
  | true =>
    obtain ⟨Sc, h⟩ := h1 rfl
    exact .inl ⟨rfl, Sc, hJ _ _ _ _ h.j hb hd, h.kept.grow hb hd, h.sub⟩
  | false =>
    have h := h2 rfl
    obtain ⟨Sc, hj⟩ := h.j
    exact .inr ⟨rfl, Sc, hX _ _ _ hj hb hd, h.kept.grow hb hd⟩

theorem visit0 (hJ : GrowsJ J) (hX : GrowsX Jx) (hB : BoundJ J) (hY : ∀ i x S W1, xs[i]? = some x → J i S W1 → YieldAt (Fw none) 9 Tryz.prog l #[encP x] W1 (YR J Jx i S W1)) : VisitAt l J Jx xs 0 := by
  intro p i S Wd ρ vs hargs hb0 hb1 hS hj hxs
  have hx : xs[i]? = some p := by have := hxs 0 p rfl; simpa using this
  refine calls_of_good (n := 9) (bs := [.live false false [.v (yv l)], .live false false [.f 108 [.p 0 0, .p 1 0]]]) Tryz.func108 rfl (by show 4 ≤ Tryz.f108.ntmps; decide) (by kernel_rfl) ⟨rfl, rfl, trivial⟩ (by kernel_rfl) (fun i => by rcases i with _ | _ | i <;> simp [BK.own]) (by kernel_rfl) hargs (fun i => by rcases i with _ | _ | i <;> first | exact hb0 | exact hb1 | simp [BRep]) (fun i => by rcases i with _ | _ | i <;> simp [BK.pl]) (fun cx hbase hw hρ hfz hown => ?_)
  subst hw
  have hd : ((((0 : Nat) : Int) : Int) == 0) = true := rfl
  refine at_of (T := T0) hT hm (f := 5000) (orc := [.d true, .stop 2]) [] [2, 4] [2] hbase (x := .region 2 OY false) (k' := KY) (s' := zY l p)
    (obs := [.eq ((((0 : Nat) : Int) : Int) == 0) true]) (by kernel_rfl) ⟨hd, trivial⟩ ?_
  have hseg : Seg J cx.w S i cx S := ⟨hj, Kept.refl _ _, fun b h => .inl h, fun k b o n hk h => hS k (by rw [hbase] at hk; exact hk) b o n ((hρ k).symm.trans h), hown, fun b o ho => by rw [hfz b] at ho; cases ho⟩
  refine visit_of (Jx := Jx) hT hJ hB (m := i + 1) hseg (OY.toList.take 2) oY (OY.toList.drop 3) oY_split (s1 := zY1 l p) (by kernel_rfl) (by kernel_rfl) 19 (by kernel_rfl) (of_decide_eq_true (by kernel_rfl)) 2 hbase (by kernel_rfl) (by kernel_rfl)
    (fun ρ a W2 hrep hsafe hj2 K Q' hK => ?_) (zY3 l p) (fun b => by kernel_rfl) (fun b cx' hb' h1 h2 => ?_)
  · have e1 := hrep.sl 17
    have e2 := hrep.sl 18
    refine op_yield oY_op (l := l) (vs := #[encP p]) ?_ ?_ (hY i p S W2 hx hj2) hK
    · exact e1
    · have : a.eval (.tmp 18) = encP p := by
        have e3 : Rel ρ (.a (cP p)) (a.tmps.getD 18 undef) := e2
        simp only [Rel] at e3
        obtain ⟨vs, hv, hr⟩ := e3
        have h' := encP_rel ρ p
        simp only [Rel] at h'
        obtain ⟨us, hu, hr'⟩ := h'
        show a.tmps.getD 18 undef = encP p
        rw [hv, hu]
        have : vs = us := rels_plain (by simp [cP, vb, iv]) hr hr'
        rw [this]
      simp [this]
  · have hown' : ∀ c, ¬ cx'.own c := by
      cases b with
      | true => obtain ⟨Sc, h⟩ := h1 rfl; exact h.own
      | false => exact (h2 rfl).own
    exact retB_of (T := T0) hT hm (f := 5000) (orc := []) (b := b) (obs := []) (by cases b <;> kernel_rfl) trivial hown' (fun Wd hW hWd => visit_end hJ hX h1 h2 rfl Wd hW hWd)

theorem vcall {d : Nat} (ih : VisitAt l J Jx xs d) {cx : Cx} {N : Nat} {D : List Deferred} {ρ : Env} {s : FS} {a : Act} {Wd : World} (hrep : Rep cx N D ρ s a Wd) {p : (Int × Int × Int) × (Int × Int × Int) × Int × Int × Int} {i : Nat} {S : Nat → Prop}
    (hdl : d < 1000) (e1 : s.sl 66 = .f 108 [.p 0 0, .p 1 0]) (e2 : s.sl 67 = .a (cP p)) (e3 : s.sl 69 = iv (W (((d + 1 : Nat) : Int) - 1))) (e4 : s.bk 0 = .live false false [.v (yv l)]) (e5 : s.bk 1 = .live false false [.f 108 [.p 0 0, .p 1 0]])
    (hS : ∀ k, k < 2 → ∀ b o n, ρ k = some (b, o, n) → ¬ S b) (hj : J i S Wd) (hxs : ∀ j x, (cutL d p)[j]? = some x → xs[i + j]? = some x)
    (K : Act → World → Prop) (Q : Exit → Act → World → Prop) (hK : ∀ e Wd', VR J Jx (i + (cutL d p).length) S Wd e Wd' → ∃ v, e = .returned v ∧ K (a.put oV.dst v) Wd') : oV.wpIn (Fw none) 9 Tryz.prog a Wd K Q := by
  have r1 := hrep.sl 66
  have r2 := hrep.sl 67
  have r3 := hrep.sl 69
  rw [e1] at r1; rw [e2] at r2; rw [e3] at r3
  have hw : W (((d + 1 : Nat) : Int) - 1) = (d : Int) := by rw [W_eq] <;> omega
  rw [hw] at r3
  simp only [Rel] at r1
  obtain ⟨vs, hv, hc⟩ := r1
  have b0 := hrep.bk 0
  have b1 := hrep.bk 1
  rw [e4] at b0; rw [e5] at b1
  refine op_call oV_op (g := 108) (caps := vs) hv ent108 (ih p i S Wd ρ _ ?_ b0.ro b1.ro hS hj hxs) hK
  exact rels_cons r2 (rels_cons r3 hc)

theorem visitS (hJ : GrowsJ J) (hX : GrowsX Jx) (hB : BoundJ J) {d : Nat} (hdl : d < 1000) (ih : VisitAt l J Jx xs d) : VisitAt l J Jx xs (d + 1) := by
  intro p i S Wd ρ vs hargs hb0 hb1 hS hj hxs
  obtain ⟨hx1, hr1⟩ := sub_app hxs
  obtain ⟨hx2, hr2⟩ := sub_app hr1
  obtain ⟨hx3, hx4⟩ := sub_app hr2
  refine calls_of_good (n := 9) (bs := [.live false false [.v (yv l)], .live false false [.f 108 [.p 0 0, .p 1 0]]]) Tryz.func108 rfl (by show 4 ≤ Tryz.f108.ntmps; decide) (by kernel_rfl) ⟨rfl, rfl, trivial⟩ (by kernel_rfl) (fun i => by rcases i with _ | _ | i <;> simp [BK.own]) (by kernel_rfl) hargs (fun i => by rcases i with _ | _ | i <;> first | exact hb0 | exact hb1 | simp [BRep]) (fun i => by rcases i with _ | _ | i <;> simp [BK.pl]) (fun cx hbase hw hρ hfz hown => ?_)
  subst hw
  have hd : ((((d + 1 : Nat) : Int) : Int) == 0) = false := by rw [beq_eq_false_iff_ne]; omega
  have hseg : Seg J cx.w S i cx S := ⟨hj, Kept.refl _ _, fun b h => .inl h, fun k b o n hk h => hS k (by rw [hbase] at hk; exact hk) b o n ((hρ k).symm.trans h), hown, fun b o ho => by rw [hfz b] at ho; cases ho⟩
  refine at_of (T := T0) hT hm (f := 5000) (orc := [.d false, .call [] (.a [(iv (F76 p.1 2).1), (iv (F76 p.1 2).2.1), (iv (F76 p.1 2).2.2)]) [], .call [] (.a [(iv (F76 p.2.1 2).1), (iv (F76 p.2.1 2).2.1), (iv (F76 p.2.1 2).2.2)]) [], .call [] (.a [(iv (F76 p.2.2 2).1), (iv (F76 p.2.2 2).2.1), (iv (F76 p.2.2 2).2.2)]) [], .call [] (.a [(iv (F109 p.1 p.2.1).1), (iv (F109 p.1 p.2.1).2.1), (iv (F109 p.1 p.2.1).2.2)]) [], .call [] (.a [(iv (F109 p.2.1 p.2.2).1), (iv (F109 p.2.1 p.2.2).2.1), (iv (F109 p.2.1 p.2.2).2.2)]) [], .call [] (.a [(iv (F109 p.2.2 p.1).1), (iv (F109 p.2.2 p.1).2.1), (iv (F109 p.2.2 p.1).2.2)]) [], .un 4, .d true, .stop 8]) [] [1, 3, 14, 60, 61, 62] [9, 10] hbase (x := .region 8 OV false) (k' := KV 4) (s' := zV1 l p (d + 1 : Nat))
    (obs := [.eq ((((d + 1 : Nat) : Int) : Int) == 0) false, .call 76 [(.a [(iv p.1.1), (iv p.1.2.1), (iv p.1.2.2)]), (iv 2)] [] (.a [(iv (F76 p.1 2).1), (iv (F76 p.1 2).2.1), (iv (F76 p.1 2).2.2)]) [], .call 76 [(.a [(iv p.2.1.1), (iv p.2.1.2.1), (iv p.2.1.2.2)]), (iv 2)] [] (.a [(iv (F76 p.2.1 2).1), (iv (F76 p.2.1 2).2.1), (iv (F76 p.2.1 2).2.2)]) [], .call 76 [(.a [(iv p.2.2.1), (iv p.2.2.2.1), (iv p.2.2.2.2)]), (iv 2)] [] (.a [(iv (F76 p.2.2 2).1), (iv (F76 p.2.2 2).2.1), (iv (F76 p.2.2 2).2.2)]) [], .call 109 [(.a [(iv p.1.1), (iv p.1.2.1), (iv p.1.2.2)]), (.a [(iv p.2.1.1), (iv p.2.1.2.1), (iv p.2.1.2.2)])] [] (.a [(iv (F109 p.1 p.2.1).1), (iv (F109 p.1 p.2.1).2.1), (iv (F109 p.1 p.2.1).2.2)]) [], .call 109 [(.a [(iv p.2.1.1), (iv p.2.1.2.1), (iv p.2.1.2.2)]), (.a [(iv p.2.2.1), (iv p.2.2.2.1), (iv p.2.2.2.2)])] [] (.a [(iv (F109 p.2.1 p.2.2).1), (iv (F109 p.2.1 p.2.2).2.1), (iv (F109 p.2.1 p.2.2).2.2)]) [], .call 109 [(.a [(iv p.2.2.1), (iv p.2.2.2.1), (iv p.2.2.2.2)]), (.a [(iv p.1.1), (iv p.1.2.1), (iv p.1.2.2)])] [] (.a [(iv (F109 p.2.2 p.1).1), (iv (F109 p.2.2 p.1).2.1), (iv (F109 p.2.2 p.1).2.2)]) [], .eq true true, .pr (0 ≤ (0 : Int) ∧ (0 : Int) < ((4 : Nat) : Int))]) (by kernel_rfl) ⟨hd, (C76 p.1 2), (C76 p.2.1 2), (C76 p.2.2 2), (C109 p.1 p.2.1), (C109 p.2.1 p.2.2), (C109 p.2.2 p.1), rfl, (show 0 ≤ (0 : Int) ∧ (0 : Int) < ((4 : Nat) : Int) from by decide), trivial⟩ ?_
  refine visit_of (Jx := Jx) hT hJ hB (m := i + (cutL d (q1 p)).length) hseg (OV.toList.take 4) oV (OV.toList.drop 5) oV_split (s1 := zV11 l p (d + 1 : Nat)) (by kernel_rfl) (by kernel_rfl) 70 (by kernel_rfl) (of_decide_eq_true (by kernel_rfl)) 2 hbase (by kernel_rfl) (by kernel_rfl)
    (fun ρ a W2 hrep hsafe hj2 K Q' hK => vcall ih hrep hdl rfl rfl rfl rfl rfl (fun k hk b o n h => (match k, hk, h with | 0, _, h => hsafe 0 _ _ _ rfl b o n h | 1, _, h => hsafe 1 _ _ _ rfl b o n h)) hj2 (fun j x hj => hx1 j x hj) K Q' hK) (zV13 l p (d + 1 : Nat)) (fun b => by kernel_rfl) (fun b cx hbase h1 h2 => ?_)
  cases b with
  | false =>
    exact retB_of (T := T0) hT hm (f := 5000) (orc := [.d true]) (b := false) (obs := [.eq (!false) true]) (by kernel_rfl) ⟨rfl, trivial⟩ (h2 rfl).own (fun W hW hWd => visit_end (m' := i + (cutL (d + 1) p).length) hJ hX (fun h => by cases h) h2 rfl W hW hWd)
  | true =>
    obtain ⟨Sc, hseg⟩ := h1 rfl
    refine at_of (T := T0) hT hm (f := 5000) (orc := [.d false, .un 0, .d true, .stop 8]) [] [1, 3, 14, 60, 61, 62] [4] hbase (x := .region 8 OV false) (k' := KV 3) (s' := zV2 l p (d + 1 : Nat))
      (obs := [.eq (!true) false, .eq (decide ((1 : Int) < 4)) true, .pr (0 ≤ (1 : Int) ∧ (1 : Int) < ((4 : Nat) : Int))]) (by kernel_rfl) ⟨rfl, rfl, (show 0 ≤ (1 : Int) ∧ (1 : Int) < ((4 : Nat) : Int) from by decide), trivial⟩ ?_
    refine visit_of (Jx := Jx) hT hJ hB (m := i + (cutL d (q1 p)).length + (cutL d (q2 p)).length) hseg (OV.toList.take 4) oV (OV.toList.drop 5) oV_split (s1 := zV21 l p (d + 1 : Nat)) (by kernel_rfl) (by kernel_rfl) 70 (by kernel_rfl) (of_decide_eq_true (by kernel_rfl)) 4 hbase (by kernel_rfl) (by kernel_rfl)
      (fun ρ a W2 hrep hsafe hj2 K Q' hK => vcall ih hrep hdl rfl rfl rfl rfl rfl (fun k hk b o n h => (match k, hk, h with | 0, _, h => hsafe 0 _ _ _ rfl b o n h | 1, _, h => hsafe 1 _ _ _ rfl b o n h)) hj2 (fun j x hj => hx2 j x hj) K Q' hK) (zV23 l p (d + 1 : Nat)) (fun b => by kernel_rfl) (fun b cx hbase h1 h2 => ?_)
    cases b with
    | false =>
      exact retB_of (T := T0) hT hm (f := 5000) (orc := [.d true]) (b := false) (obs := [.eq (!false) true]) (by kernel_rfl) ⟨rfl, trivial⟩ (h2 rfl).own (fun W hW hWd => visit_end (m' := i + (cutL (d + 1) p).length) hJ hX (fun h => by cases h) h2 rfl W hW hWd)
    | true =>
      obtain ⟨Sc, hseg⟩ := h1 rfl
      refine at_of (T := T0) hT hm (f := 5000) (orc := [.d false, .un 0, .d true, .stop 8]) [] [1, 3, 14, 60, 61, 62] [5] hbase (x := .region 8 OV false) (k' := KV 2) (s' := zV3 l p (d + 1 : Nat))
        (obs := [.eq (!true) false, .eq (decide ((2 : Int) < 4)) true, .pr (0 ≤ (2 : Int) ∧ (2 : Int) < ((4 : Nat) : Int))]) (by kernel_rfl) ⟨rfl, rfl, (show 0 ≤ (2 : Int) ∧ (2 : Int) < ((4 : Nat) : Int) from by decide), trivial⟩ ?_
      refine visit_of (Jx := Jx) hT hJ hB (m := i + (cutL d (q1 p)).length + (cutL d (q2 p)).length + (cutL d (q3 p)).length) hseg (OV.toList.take 4) oV (OV.toList.drop 5) oV_split (s1 := zV31 l p (d + 1 : Nat)) (by kernel_rfl) (by kernel_rfl) 70 (by kernel_rfl) (of_decide_eq_true (by kernel_rfl)) 5 hbase (by kernel_rfl) (by kernel_rfl)
        (fun ρ a W2 hrep hsafe hj2 K Q' hK => vcall ih hrep hdl rfl rfl rfl rfl rfl (fun k hk b o n h => (match k, hk, h with | 0, _, h => hsafe 0 _ _ _ rfl b o n h | 1, _, h => hsafe 1 _ _ _ rfl b o n h)) hj2 (fun j x hj => hx3 j x hj) K Q' hK) (zV33 l p (d + 1 : Nat)) (fun b => by kernel_rfl) (fun b cx hbase h1 h2 => ?_)
      cases b with
      | false =>
        exact retB_of (T := T0) hT hm (f := 5000) (orc := [.d true]) (b := false) (obs := [.eq (!false) true]) (by kernel_rfl) ⟨rfl, trivial⟩ (h2 rfl).own (fun W hW hWd => visit_end (m' := i + (cutL (d + 1) p).length) hJ hX (fun h => by cases h) h2 rfl W hW hWd)
      | true =>
        obtain ⟨Sc, hseg⟩ := h1 rfl
        refine at_of (T := T0) hT hm (f := 5000) (orc := [.d false, .un 0, .d true, .stop 8]) [] [1, 3, 14, 60, 61, 62] [6] hbase (x := .region 8 OV false) (k' := KV 1) (s' := zV4 l p (d + 1 : Nat))
          (obs := [.eq (!true) false, .eq (decide ((3 : Int) < 4)) true, .pr (0 ≤ (3 : Int) ∧ (3 : Int) < ((4 : Nat) : Int))]) (by kernel_rfl) ⟨rfl, rfl, (show 0 ≤ (3 : Int) ∧ (3 : Int) < ((4 : Nat) : Int) from by decide), trivial⟩ ?_
        refine visit_of (Jx := Jx) hT hJ hB (m := i + (cutL d (q1 p)).length + (cutL d (q2 p)).length + (cutL d (q3 p)).length + (cutL d (q4 p)).length) hseg (OV.toList.take 4) oV (OV.toList.drop 5) oV_split (s1 := zV41 l p (d + 1 : Nat)) (by kernel_rfl) (by kernel_rfl) 70 (by kernel_rfl) (of_decide_eq_true (by kernel_rfl)) 6 hbase (by kernel_rfl) (by kernel_rfl)
          (fun ρ a W2 hrep hsafe hj2 K Q' hK => vcall ih hrep hdl rfl rfl rfl rfl rfl (fun k hk b o n h => (match k, hk, h with | 0, _, h => hsafe 0 _ _ _ rfl b o n h | 1, _, h => hsafe 1 _ _ _ rfl b o n h)) hj2 (fun j x hj => hx4 j x hj) K Q' hK) (zV43 l p (d + 1 : Nat)) (fun b => by kernel_rfl) (fun b cx hbase h1 h2 => ?_)
        cases b with
        | false =>
          exact retB_of (T := T0) hT hm (f := 5000) (orc := [.d true]) (b := false) (obs := [.eq (!false) true]) (by kernel_rfl) ⟨rfl, trivial⟩ (h2 rfl).own (fun W hW hWd => visit_end (m' := i + (cutL (d + 1) p).length) hJ hX (fun h => by cases h) h2 rfl W hW hWd)
        | true =>
          exact retB_of (T := T0) hT hm (f := 5000) (orc := [.d false, .un 0, .d false]) (b := true) (obs := [.eq (!true) false, .eq (decide ((4 : Int) < 4)) false]) (by kernel_rfl) ⟨rfl, rfl, trivial⟩ (h1 rfl).choose_spec.own (fun W hW hWd => visit_end hJ hX h1 h2 (by simp only [cutL, List.length_append]; omega) W hW hWd)

theorem visit_all (hJ : GrowsJ J) (hX : GrowsX Jx) (hB : BoundJ J) (hY : ∀ i x S W1, xs[i]? = some x → J i S W1 → YieldAt (Fw none) 9 Tryz.prog l #[encP x] W1 (YR J Jx i S W1)) : ∀ d, d < 1000 → VisitAt l J Jx xs d
  | 0, _ => visit0 hJ hX hB hY
  | d + 1, h => visitS hJ hX hB (by omega) (visit_all hJ hX hB hY d (by omega))
end

noncomputable def O2 : Array Oper := match (codeAtD [1, 1, 1] [] (Tryz.f107.body.getD .skip)).1 with
  | .region _ ops _ => ops
  | _ => #[]
noncomputable def o2 : Oper := O2.toList.getD 3 default
theorem o2_op : o2.op = .call { callee := .value (.tmp 6), args := #[.tmp 7, .tmp 8], argTypes := callTs o2 } := by kernel_rfl
theorem o2_split : O2.toList = O2.toList.take 3 ++ [o2] := by kernel_rfl
def z2 (l : Nat) (p : (Int × Int × Int) × (Int × Int × Int) × Int × Int × Int) (d : Int) : LS := ⟨[.u, .p 0 0, .p 1 0, .u, .p 3 0, .u, .u, .u, .u, .u], [.live false false (cP p), .live false false [iv d], .live true false [.v (yv l)], .live true false [.f 108 [.p 2 0, .p 3 0]]]⟩
def z21 (l : Nat) (p : (Int × Int × Int) × (Int × Int × Int) × Int × Int × Int) (d : Int) : LS := ⟨[.u, .p 0 0, .p 1 0, .u, .p 3 0, .u, .f 108 [.p 2 0, .p 3 0], .a (cP p), iv d, .u], [.live false false (cP p), .live false false [iv d], .live true false [.v (yv l)], .live true false [.f 108 [.p 2 0, .p 3 0]]]⟩

theorem iter_cut (p : (Int × Int × Int) × (Int × Int × Int) × Int × Int × Int) (d : Nat) (hd : d < 1000) : Iter Tryz.prog 107 [.p 0 0, .p 1 0] [.live false false (cP p), .live false false [iv (d : Nat)]] encP (cutL d p) := by
  refine ⟨ent107, fun ρ Wd lb hcaps hbs hpl l J Jx S0 hJ hX hB hY h0 => ?_⟩
  have hcon : Calls Tryz.prog 107 ((Value.func (.yield l) #[] #[]) :: lb).toArray Wd fun e Wd' => (∃ v, e = .returned v) ∧ ∃ S', (J (cutL d p).length S' Wd' ∨ Jx S' Wd') ∧ Kept Wd S0 Wd' := by
    refine calls_of_good (n := 9) (args := [.v (yv l), .p 0 0, .p 1 0]) (bs := [.live false false (cP p), .live false false [iv (d : Nat)]]) Tryz.func107 rfl (by show 3 ≤ Tryz.f107.ntmps; decide) (by kernel_rfl) ⟨rfl, rfl, trivial⟩ (by kernel_rfl) (fun i => by rcases i with _ | _ | i <;> simp [BK.own]) (by kernel_rfl) ⟨rfl, hcaps⟩ hbs hpl (fun cx hbase hw hρ hfz hown => ?_)
    subst hw
    refine at_of (T := T0) hT hm (f := 5000) (orc := [.stop 3]) [] [1, 2, 4] [2, 3] hbase (x := .region 3 O2 false) (k' := []) (s' := z2 l p d)
      (obs := []) (by kernel_rfl) trivial ?_
    intro ρ a Wd hrep
    simp only [cont]
    refine wpIn_region ?_
    have hsz : O2.size = (O2.toList.take 3).length + (0 + 1) := by kernel_rfl
    have hget : ∀ j, O2[j]? = (O2.toList.take 3 ++ [o2])[j]? := fun j => by rw [← o2_split, Array.getElem?_toList]
    rw [hsz, range_split]
    refine ops_pre hT (O2.toList.take 3) 0 (z2 l p d) (z21 l p d) [] [] _ [] (evS_spec (T := T0) (obs := []) (by kernel_rfl)).choose_spec trivial (fun j o' hj => ?_) ρ a Wd hrep (fun ρ1 a1 W1 hrep1 hl1 => ?_)
    · rw [hget, Nat.zero_add, List.getElem?_append_left (List.getElem?_eq_some_iff.1 hj).1]; exact hj
    rw [wpOpsIn_cons]
    unfold wpOpIn
    have ho : O2[(O2.toList.take 3).length]? = some o2 := by rw [hget, List.getElem?_append_right (Nat.le_refl _)]; simp
    rw [ho]
    have hw : Region.wanted o2 (yielded O2 a1.tmps) = true := by
      have hg : o2.guard = none := by kernel_rfl
      unfold Region.wanted; rw [hg]
    simp only [hw, if_true]
    have hbel : Below cx.w.heap.size cx.w W1 := by
      have := hrep1.kept
      exact ⟨this.os, this.tape, this.output, this.size, fun k hk => this.block k hk (hown k)⟩
    have r1 := hrep1.sl 6
    have r2 := hrep1.sl 7
    have r3 := hrep1.sl 8
    have r1' : Rel ρ1 (.f 108 [.p 2 0, .p 3 0]) (a1.tmps.getD 6 undef) := r1
    have r2' : Rel ρ1 (.a (cP p)) (a1.tmps.getD 7 undef) := r2
    have r3' : Rel ρ1 (iv (d : Nat)) (a1.tmps.getD 8 undef) := r3
    simp only [Rel] at r1'
    obtain ⟨vs, hv, hc⟩ := r1'
    have own2 : ∀ b, cx.mine b → cx.w.heap.size ≤ b := fun b hb => hb.elim id (fun h => (hown b h).elim)
    have b2 := (renB_rep (ks := [2, 3]) (i := 0) (m := false) (x := .live true false [.v (yv l)]) (y := .live false false [.v (yv l)]) (M' := fun b => W1.heap.size ≤ b) rfl rfl trivial (hrep1.bk 2) (fun _ h => by cases h) (fun _ b hlt _ hM => absurd hM (Nat.not_le_of_lt hlt))).1
    have b3 := (renB_rep (ks := [2, 3]) (i := 1) (m := false) (x := .live true false [.f 108 [.p 2 0, .p 3 0]]) (y := .live false false [.f 108 [.p 0 0, .p 1 0]]) (M' := fun b => W1.heap.size ≤ b) rfl rfl trivial (hrep1.bk 3) (fun _ h => by cases h) (fun _ b hlt _ hM => absurd hM (Nat.not_le_of_lt hlt))).1
    have hS2 : ∀ k, k < 2 → ∀ b o n, envOf ρ1 [2, 3] k = some (b, o, n) → ¬ S0 b := fun k hk b o n h hSb => by
      have hlt := hB _ _ _ h0 b hSb
      have own : ∀ j, (z21 l p d).fs.bk j ≠ .un → ((z21 l p d).fs.bk j).own → ρ1 j = some (b, o, n) → False := fun j _ hj hρ => by
        have hb := hrep1.bk j
        cases hx : (z21 l p d).fs.bk j with
        | un => rw [hx] at hj; exact hj
        | dead => rw [hx] at hj; exact hj
        | map es =>
          rw [hx] at hb
          obtain ⟨b', n', arr, q1, q2, _⟩ := hb
          rw [hρ] at q1; cases q1
          have := own2 b q2; omega
        | live ow sy cs => cases ow with
          | false => rw [hx] at hj; exact hj
          | true =>
            rw [hx] at hb
            rcases hb with ⟨q, _⟩ | ⟨b', vs, rest, ty, q1, q2, _⟩
            · rw [hρ] at q; cases q
            · rw [hρ] at q1; cases q1
              have := own2 b q2; omega
      match k, hk with
      | 0, _ => exact own 2 (by simp [z21, LS.fs]) (by trivial) h
      | 1, _ => exact own 3 (by simp [z21, LS.fs]) (by trivial) h
    refine op_call o2_op (g := 108) (caps := vs) hv ent108 ((visit_all (l := l) hJ hX hB hY d hd) p 0 S0 W1 (envOf ρ1 [2, 3]) (a1.tmps.getD 7 undef :: a1.tmps.getD 8 undef :: vs) ?_ b2 b3 hS2 (hJ _ _ _ _ h0 hbel hrep1.kept.drawn) (fun j x hj => by rw [Nat.zero_add]; exact hj)) (fun e Wd' hR => ?_)
    · exact rels_cons (ren_rel (ks := [2, 3]) (.a (cP p)) (.a (cP p)) _ rfl r2') (rels_cons (ren_rel (ks := [2, 3]) (iv (d : Nat)) (iv (d : Nat)) _ rfl r3') (renL_rel (ks := [2, 3]) [.p 2 0, .p 3 0] [.p 0 0, .p 1 0] vs rfl hc))
    · have fin : ∀ v : Bool, e = .returned (.bool v) → (∃ S', (J (cutL d p).length S' Wd' ∨ Jx S' Wd') ∧ Kept W1 S0 Wd') → ∃ v, e = .returned v ∧ wpOpsIn (Fw none) 9 Tryz.prog O2 (cont none 9 Tryz.prog (bodyPost Tryz.prog Tryz.f107 (fun e Wd' => (∃ v, e = .returned v) ∧ ∃ S', (J (cutL d p).length S' Wd' ∨ Jx S' Wd') ∧ Kept cx.w S0 Wd')) []) (List.range' ((O2.toList.take 3).length + 1) 0) (a1.put o2.dst v) Wd' := fun v he ⟨S', hj', hk'⟩ => by
        refine ⟨_, he, ?_⟩
        simp only [List.range'_zero, wpOpsIn, cont]
        refine ⟨?_, _, results_nil (by kernel_rfl), ⟨_, rfl⟩, S', hj', ?_⟩
        · exact hrep1.defs
        · exact (Kept.of_below S0 hbel hrep1.kept.drawn).trans hk' (fun b hb _ => hb)
      rcases hR with ⟨he, S', hj', hk', _⟩ | ⟨he, S', hj', hk'⟩
      · exact fin true he ⟨S', .inl (by rwa [Nat.zero_add] at hj'), hk'⟩
      · exact fin false he ⟨S', .inr hj', hk'⟩
  have e : ((Value.func (.yield l) #[] #[]) :: lb).toArray = #[.func (.yield l) #[] #[]] ++ lb.toArray := by apply Array.ext'; simp
  rw [← e]; exact hcon

theorem iter_cutI (p : (Int × Int × Int) × (Int × Int × Int) × Int × Int × Int) (d : Int) (h : 0 ≤ d ∧ d ≤ 3) : Iter Tryz.prog 107 [.p 0 0, .p 1 0] [.live false false (cP p), .live false false [iv d]] encP (cutL (Int.toNat d) p) := by
  have := iter_cut p d.toNat (by omega)
  rwa [Int.toNat_of_nonneg h.1] at this
theorem cut_lt {p : (Int × Int × Int) × (Int × Int × Int) × Int × Int × Int} {d : Int} (h : 0 ≤ d ∧ d ≤ 3) {i : Nat} {x : (Int × Int × Int) × (Int × Int × Int) × Int × Int × Int} (hx : (cutL (Int.toNat d) p)[i]? = some x) : i < 64 := by
  have hl := (List.getElem?_eq_some_iff.1 hx).1
  rw [cutL_length] at hl
  have : Int.toNat d ≤ 3 := by omega
  have : 4 ^ Int.toNat d ≤ 4 ^ 3 := Nat.pow_le_pow_right (by omega) this
  omega

end Go.Proofs.YtcnnmgooolnebaaGreat

namespace Go.Proofs.YtcnnmgooolnebaaGreat
open Go.Proofs Go.Aw Go.RowKit
set_option maxRecDepth 100000
set_option linter.unusedVariables false
set_option linter.unusedSimpArgs false

def F126 (a0 : Int) (a1 : Int) (a2 : Int) : Bool :=
  (bif (decide ((a1 : Int) ≤ a0)) then
   (decide ((a0 : Int) ≤ a2))
  else
   false)

theorem C126 (a0 : Int) (a1 : Int) (a2 : Int) : Con Tryz.prog 126 [(iv a0), (iv a1), (iv a2)] [] (.v (.bool (F126 a0 a1 a2))) [] := by
  refine con_s Tryz.func126 (by kernel_rfl) fun cx hcx => ?_
  cases h0 : (decide ((a1 : Int) ≤ a0)) with
  | true =>
   have q0 := of_decide_eq_true h0
   have e := Eq.refl (F126 a0 a1 a2); conv at e => rhs; simp only [F126, h0, cond_true, cond_false]
   rw [e]
   exact rt [.d h0] [] [] hcx (by kernel_rfl)
  | false =>
   have q0 := of_decide_eq_false h0
   have e := Eq.refl (F126 a0 a1 a2); conv at e => rhs; simp only [F126, h0, cond_true, cond_false]
   rw [e]
   exact rt [.d h0] [] [] hcx (by kernel_rfl)

def F103 (a0 : Int × Int × Int) (a1 : Int) : Bool :=
  (bif (F126 a0.1 (W (0 - a1)) a1) then
   (bif (F126 a0.2.1 (W (0 - a1)) a1) then
    (F126 a0.2.2 (W (0 - a1)) a1)
   else
    false)
  else
   false)

theorem C103 (a0 : Int × Int × Int) (a1 : Int) : Con Tryz.prog 103 [(.a (k3 a0)), (iv a1)] [] (.v (.bool (F103 a0 a1))) [] := by
  refine con_s Tryz.func103 (by kernel_rfl) fun cx hcx => ?_
  let t0 : List (St Tryz.prog) := [.c [] (C126 a0.1 (W (0 - a1)) a1)]
  cases h0 : (F126 a0.1 (W (0 - a1)) a1) with
  | true =>
   let t1 : List (St Tryz.prog) := (t0 ++ [.d h0, .c [] (C126 a0.2.1 (W (0 - a1)) a1)])
   cases h1 : (F126 a0.2.1 (W (0 - a1)) a1) with
   | true =>
    have e := Eq.refl (F103 a0 a1); conv at e => rhs; simp only [F103, h0, h1, cond_true, cond_false]
    rw [e]
    exact rt (t1 ++ [.d h1, .c [] (C126 a0.2.2 (W (0 - a1)) a1)]) [] [] hcx (by kernel_rfl)
   | false =>
    have e := Eq.refl (F103 a0 a1); conv at e => rhs; simp only [F103, h0, h1, cond_true, cond_false]
    rw [e]
    exact rt (t1 ++ [.d h1]) [] [] hcx (by kernel_rfl)
  | false =>
   have e := Eq.refl (F103 a0 a1); conv at e => rhs; simp only [F103, h0, cond_true, cond_false]
   rw [e]
   exact rt (t0 ++ [.d h0]) [] [] hcx (by kernel_rfl)

def F135 (a0 : Int × Int × Int) (a1 : Int) (a2 : Int × Int × Int) : Int × Int × Int :=
  ((W (a0.1 + (W (a1 * a2.1)))), (W (a0.2.1 + (W (a1 * a2.2.1)))), (W (a0.2.2 + (W (a1 * a2.2.2)))))

theorem C135 (a0 : Int × Int × Int) (a1 : Int) (a2 : Int × Int × Int) : Con Tryz.prog 135 [(.a (k3 a0)), (iv a1), (.a (k3 a2))] [] (.a (k3 (F135 a0 a1 a2))) [] := by
  refine con_s Tryz.func135 (by kernel_rfl) fun cx hcx => ?_
  have e := Eq.refl (F135 a0 a1 a2); conv at e => rhs; simp only [F135]
  rw [e]
  exact rt [] [] [] hcx (by kernel_rfl)

def F128 (a0 : Int × Int × Int) (a1 : Int × Int × Int) : Int × Int × Int :=
  (F135 a0 (-1) a1)

theorem C128 (a0 : Int × Int × Int) (a1 : Int × Int × Int) : Con Tryz.prog 128 [(.a (k3 a0)), (.a (k3 a1))] [] (.a (k3 (F128 a0 a1))) [] := by
  refine con_s Tryz.func128 (by kernel_rfl) fun cx hcx => ?_
  have e := Eq.refl (F128 a0 a1); conv at e => rhs; simp only [F128]
  rw [e]
  exact rt [.c [] (C135 a0 (-1) a1)] [] [] hcx (by kernel_rfl)

def F127 (a0 : Int × Int × Int) (a1 : Int × Int × Int) : Int × Int × Int :=
  ((W ((W (a0.2.1 * a1.2.2)) - (W (a0.2.2 * a1.2.1)))), (W ((W (a0.2.2 * a1.1)) - (W (a0.1 * a1.2.2)))), (W ((W (a0.1 * a1.2.1)) - (W (a0.2.1 * a1.1)))))

theorem C127 (a0 : Int × Int × Int) (a1 : Int × Int × Int) : Con Tryz.prog 127 [(.a (k3 a0)), (.a (k3 a1))] [] (.a (k3 (F127 a0 a1))) [] := by
  refine con_s Tryz.func127 (by kernel_rfl) fun cx hcx => ?_
  have e := Eq.refl (F127 a0 a1); conv at e => rhs; simp only [F127]
  rw [e]
  exact rt [] [] [] hcx (by kernel_rfl)

def F104 (a0 : (Int × Int × Int) × (Int × Int × Int) × Int × Int × Int) : Int × Int × Int :=
  (F127 (F128 a0.2.1 a0.1) (F128 a0.2.2 a0.1))

theorem C104 (a0 : (Int × Int × Int) × (Int × Int × Int) × Int × Int × Int) : Con Tryz.prog 104 [(.a (k9 a0))] [] (.a (k3 (F104 a0))) [] := by
  refine con_s Tryz.func104 (by kernel_rfl) fun cx hcx => ?_
  have e := Eq.refl (F104 a0); conv at e => rhs; simp only [F104]
  rw [e]
  exact rt [.c [] (C128 a0.2.1 a0.1), .c [] (C128 a0.2.2 a0.1), .c [] (C127 (F128 a0.2.1 a0.1) (F128 a0.2.2 a0.1))] [] [] hcx (by kernel_rfl)

def F71 (a0 : (Int × Int × Int) × (Int × Int × Int) × Int × Int × Int) : Int :=
  (bif (!(F103 a0.1 64)) then
   1
  else
   (bif (!(F103 a0.2.1 64)) then
    1
   else
    (bif (!(F103 a0.2.2 64)) then
     1
    else
     (bif ((((F104 a0).1 : Int) == 0) && ((((F104 a0).2.1 : Int) == 0) && ((((F104 a0).2.2 : Int) == 0) && true))) then
      6
     else
      0))))

theorem C71 (a0 : (Int × Int × Int) × (Int × Int × Int) × Int × Int × Int) : Con Tryz.prog 71 [(.a (k9 a0))] [] (iv (F71 a0)) [] := by
  refine con_s Tryz.func71 (by kernel_rfl) fun cx hcx => ?_
  let t0 : List (St Tryz.prog) := [.c [] (C103 a0.1 64)]
  cases h0 : (!(F103 a0.1 64)) with
  | true =>
   have e := Eq.refl (F71 a0); conv at e => rhs; simp only [F71, h0, cond_true, cond_false]
   rw [e]
   exact rt (t0 ++ [.d h0]) [] [] hcx (by kernel_rfl)
  | false =>
   let t1 : List (St Tryz.prog) := (t0 ++ [.d h0, .c [] (C103 a0.2.1 64)])
   cases h1 : (!(F103 a0.2.1 64)) with
   | true =>
    have e := Eq.refl (F71 a0); conv at e => rhs; simp only [F71, h0, h1, cond_true, cond_false]
    rw [e]
    exact rt (t1 ++ [.d h1]) [] [] hcx (by kernel_rfl)
   | false =>
    let t2 : List (St Tryz.prog) := (t1 ++ [.d h1, .c [] (C103 a0.2.2 64)])
    cases h2 : (!(F103 a0.2.2 64)) with
    | true =>
     have e := Eq.refl (F71 a0); conv at e => rhs; simp only [F71, h0, h1, h2, cond_true, cond_false]
     rw [e]
     exact rt (t2 ++ [.d h2]) [] [] hcx (by kernel_rfl)
    | false =>
     let t3 : List (St Tryz.prog) := (t2 ++ [.d h2, .c [] (C104 a0)])
     cases h3 : ((((F104 a0).1 : Int) == 0) && ((((F104 a0).2.1 : Int) == 0) && ((((F104 a0).2.2 : Int) == 0) && true))) with
     | true =>
      have e := Eq.refl (F71 a0); conv at e => rhs; simp only [F71, h0, h1, h2, h3, cond_true, cond_false]
      rw [e]
      exact rt (t3 ++ [.d h3]) [] [] hcx (by kernel_rfl)
     | false =>
      have e := Eq.refl (F71 a0); conv at e => rhs; simp only [F71, h0, h1, h2, h3, cond_true, cond_false]
      rw [e]
      exact rt (t3 ++ [.d h3]) [] [] hcx (by kernel_rfl)

def F75 (a0 : Int) (a1 : Int) (a2 : Int) : Bool :=
  (bif (decide ((a0 : Int) ≥ a1)) then
   (decide ((a0 : Int) ≤ a2))
  else
   false)

theorem C75 (a0 : Int) (a1 : Int) (a2 : Int) : Con Tryz.prog 75 [(iv a0), (iv a1), (iv a2)] [] (.v (.bool (F75 a0 a1 a2))) [] := by
  refine con_s Tryz.func75 (by kernel_rfl) fun cx hcx => ?_
  cases h0 : (decide ((a0 : Int) ≥ a1)) with
  | true =>
   have q0 := of_decide_eq_true h0
   have e := Eq.refl (F75 a0 a1 a2); conv at e => rhs; simp only [F75, h0, cond_true, cond_false]
   rw [e]
   exact rt [.d h0] [] [] hcx (by kernel_rfl)
  | false =>
   have q0 := of_decide_eq_false h0
   have e := Eq.refl (F75 a0 a1 a2); conv at e => rhs; simp only [F75, h0, cond_true, cond_false]
   rw [e]
   exact rt [.d h0] [] [] hcx (by kernel_rfl)

def F74 (a0 : Int × Int × Int) : Bool :=
  (bif (F75 a0.1 (-256) 256) then
   (bif (F75 a0.2.1 (-256) 256) then
    (F75 a0.2.2 (-256) 256)
   else
    false)
  else
   false)

theorem C74 (a0 : Int × Int × Int) : Con Tryz.prog 74 [(.a (k3 a0))] [] (.v (.bool (F74 a0))) [] := by
  refine con_s Tryz.func74 (by kernel_rfl) fun cx hcx => ?_
  let t0 : List (St Tryz.prog) := [.c [] (C75 a0.1 (-256) 256)]
  cases h0 : (F75 a0.1 (-256) 256) with
  | true =>
   let t1 : List (St Tryz.prog) := (t0 ++ [.d h0, .c [] (C75 a0.2.1 (-256) 256)])
   cases h1 : (F75 a0.2.1 (-256) 256) with
   | true =>
    have e := Eq.refl (F74 a0); conv at e => rhs; simp only [F74, h0, h1, cond_true, cond_false]
    rw [e]
    exact rt (t1 ++ [.d h1, .c [] (C75 a0.2.2 (-256) 256)]) [] [] hcx (by kernel_rfl)
   | false =>
    have e := Eq.refl (F74 a0); conv at e => rhs; simp only [F74, h0, h1, cond_true, cond_false]
    rw [e]
    exact rt (t1 ++ [.d h1]) [] [] hcx (by kernel_rfl)
  | false =>
   have e := Eq.refl (F74 a0); conv at e => rhs; simp only [F74, h0, cond_true, cond_false]
   rw [e]
   exact rt (t0 ++ [.d h0]) [] [] hcx (by kernel_rfl)

def F51 (a0 : (Int × Int × Int) × (Int × Int × Int) × Int × Int × Int) (a1 : Int × Int × Int) (a2 : Int) : Int :=
  (bif (((F71 a0) : Int) != 0) then
   (F71 a0)
  else
   (bif (!(F74 a1)) then
    1
   else
    (bif (!(F75 a2 0 3)) then
     1
    else
     0)))

theorem C51 (a0 : (Int × Int × Int) × (Int × Int × Int) × Int × Int × Int) (a1 : Int × Int × Int) (a2 : Int) : Con Tryz.prog 51 [(.a (k9 a0)), (.a (k3 a1)), (iv a2)] [] (iv (F51 a0 a1 a2)) [] := by
  refine con_s Tryz.func51 (by kernel_rfl) fun cx hcx => ?_
  let t0 : List (St Tryz.prog) := [.c [] (C71 a0)]
  cases h0 : (((F71 a0) : Int) != 0) with
  | true =>
   have q0 := bne_iff_ne.1 h0
   have e := Eq.refl (F51 a0 a1 a2); conv at e => rhs; simp only [F51, h0, cond_true, cond_false]
   rw [e]
   exact rt (t0 ++ [.d h0]) [] [] hcx (by kernel_rfl)
  | false =>
   have q0 := bne_eq_false_iff_eq.1 h0
   let t1 : List (St Tryz.prog) := (t0 ++ [.d h0, .c [] (C74 a1)])
   cases h1 : (!(F74 a1)) with
   | true =>
    have e := Eq.refl (F51 a0 a1 a2); conv at e => rhs; simp only [F51, h0, h1, cond_true, cond_false]
    rw [e]
    exact rt (t1 ++ [.d h1]) [] [] hcx (by kernel_rfl)
   | false =>
    let t2 : List (St Tryz.prog) := (t1 ++ [.d h1, .c [] (C75 a2 0 3)])
    cases h2 : (!(F75 a2 0 3)) with
    | true =>
     have e := Eq.refl (F51 a0 a1 a2); conv at e => rhs; simp only [F51, h0, h1, h2, cond_true, cond_false]
     rw [e]
     exact rt (t2 ++ [.d h2]) [] [] hcx (by kernel_rfl)
    | false =>
     have e := Eq.refl (F51 a0 a1 a2); conv at e => rhs; simp only [F51, h0, h1, h2, cond_true, cond_false]
     rw [e]
     exact rt (t2 ++ [.d h2]) [] [] hcx (by kernel_rfl)

def F129_3 (a0 : (Int) × (Int) × (Int)) : Int :=
  (W ((W ((W (0 + a0.1)) + a0.2.1)) + a0.2.2))

theorem C129_3 (a0 : (Int) × (Int) × (Int)) : Con Tryz.prog 129 [(.s 0 0 3 1)] [(.live false false (k3 a0))] (iv (F129_3 a0)) [] := by
  refine con_s Tryz.func129 (by kernel_rfl) fun cx hcx => ?_
  have e := Eq.refl (F129_3 a0); conv at e => rhs; simp only [F129_3]
  rw [e]
  exact rt [.u 200, .T, .i 0 3 (by decide), .u 0, .T, .i 1 3 (by decide), .u 0, .T, .i 2 3 (by decide), .u 0, .F] [] [] hcx (by kernel_rfl)

def F112 (a0 : Int × Int × Int) (a1 : Int × Int × Int) : Int :=
  (F129_3 ((W (a0.1 * a1.1)), (W (a0.2.1 * a1.2.1)), (W (a0.2.2 * a1.2.2))))

theorem C112 (a0 : Int × Int × Int) (a1 : Int × Int × Int) : Con Tryz.prog 112 [(.a (k3 a0)), (.a (k3 a1))] [] (iv (F112 a0 a1)) [] := by
  refine con_s Tryz.func112 (by kernel_rfl) fun cx hcx => ?_
  have e := Eq.refl (F112 a0 a1); conv at e => rhs; simp only [F112]
  rw [e]
  exact rt [.c [2] (C129_3 ((W (a0.1 * a1.1)), (W (a0.2.1 * a1.2.1)), (W (a0.2.2 * a1.2.2))))] [] [] hcx (by kernel_rfl)

def F113 (a0 : Int × Int × Int) (a1 : Int × Int × Int) : Int × Int × Int :=
  ((W (a0.1 - a1.1)), (W (a0.2.1 - a1.2.1)), (W (a0.2.2 - a1.2.2)))

theorem C113 (a0 : Int × Int × Int) (a1 : Int × Int × Int) : Con Tryz.prog 113 [(.a (k3 a0)), (.a (k3 a1))] [] (.a (k3 (F113 a0 a1))) [] := by
  refine con_s Tryz.func113 (by kernel_rfl) fun cx hcx => ?_
  have e := Eq.refl (F113 a0 a1); conv at e => rhs; simp only [F113]
  rw [e]
  exact rt [] [] [] hcx (by kernel_rfl)

def F110_3 (a0 : (Int × Int × Int) × (Int × Int × Int) × (Int × Int × Int)) : (Int × Int × Int) × Int × Int × Int :=
  (((if (a0.2.2.1 : Int) < (if (a0.2.1.1 : Int) < (if (a0.1.1 : Int) < a0.1.1 then a0.1.1 else a0.1.1) then a0.2.1.1 else (if (a0.1.1 : Int) < a0.1.1 then a0.1.1 else a0.1.1)) then a0.2.2.1 else (if (a0.2.1.1 : Int) < (if (a0.1.1 : Int) < a0.1.1 then a0.1.1 else a0.1.1) then a0.2.1.1 else (if (a0.1.1 : Int) < a0.1.1 then a0.1.1 else a0.1.1))), (if (a0.2.2.2.1 : Int) < (if (a0.2.1.2.1 : Int) < (if (a0.1.2.1 : Int) < a0.1.2.1 then a0.1.2.1 else a0.1.2.1) then a0.2.1.2.1 else (if (a0.1.2.1 : Int) < a0.1.2.1 then a0.1.2.1 else a0.1.2.1)) then a0.2.2.2.1 else (if (a0.2.1.2.1 : Int) < (if (a0.1.2.1 : Int) < a0.1.2.1 then a0.1.2.1 else a0.1.2.1) then a0.2.1.2.1 else (if (a0.1.2.1 : Int) < a0.1.2.1 then a0.1.2.1 else a0.1.2.1))), (if (a0.2.2.2.2 : Int) < (if (a0.2.1.2.2 : Int) < (if (a0.1.2.2 : Int) < a0.1.2.2 then a0.1.2.2 else a0.1.2.2) then a0.2.1.2.2 else (if (a0.1.2.2 : Int) < a0.1.2.2 then a0.1.2.2 else a0.1.2.2)) then a0.2.2.2.2 else (if (a0.2.1.2.2 : Int) < (if (a0.1.2.2 : Int) < a0.1.2.2 then a0.1.2.2 else a0.1.2.2) then a0.2.1.2.2 else (if (a0.1.2.2 : Int) < a0.1.2.2 then a0.1.2.2 else a0.1.2.2)))), ((if ((if ((if (a0.1.1 : Int) < a0.1.1 then a0.1.1 else a0.1.1) : Int) < a0.2.1.1 then a0.2.1.1 else (if (a0.1.1 : Int) < a0.1.1 then a0.1.1 else a0.1.1)) : Int) < a0.2.2.1 then a0.2.2.1 else (if ((if (a0.1.1 : Int) < a0.1.1 then a0.1.1 else a0.1.1) : Int) < a0.2.1.1 then a0.2.1.1 else (if (a0.1.1 : Int) < a0.1.1 then a0.1.1 else a0.1.1))), (if ((if ((if (a0.1.2.1 : Int) < a0.1.2.1 then a0.1.2.1 else a0.1.2.1) : Int) < a0.2.1.2.1 then a0.2.1.2.1 else (if (a0.1.2.1 : Int) < a0.1.2.1 then a0.1.2.1 else a0.1.2.1)) : Int) < a0.2.2.2.1 then a0.2.2.2.1 else (if ((if (a0.1.2.1 : Int) < a0.1.2.1 then a0.1.2.1 else a0.1.2.1) : Int) < a0.2.1.2.1 then a0.2.1.2.1 else (if (a0.1.2.1 : Int) < a0.1.2.1 then a0.1.2.1 else a0.1.2.1))), (if ((if ((if (a0.1.2.2 : Int) < a0.1.2.2 then a0.1.2.2 else a0.1.2.2) : Int) < a0.2.1.2.2 then a0.2.1.2.2 else (if (a0.1.2.2 : Int) < a0.1.2.2 then a0.1.2.2 else a0.1.2.2)) : Int) < a0.2.2.2.2 then a0.2.2.2.2 else (if ((if (a0.1.2.2 : Int) < a0.1.2.2 then a0.1.2.2 else a0.1.2.2) : Int) < a0.2.1.2.2 then a0.2.1.2.2 else (if (a0.1.2.2 : Int) < a0.1.2.2 then a0.1.2.2 else a0.1.2.2)))))

theorem C110_3 (a0 : (Int × Int × Int) × (Int × Int × Int) × (Int × Int × Int)) : Con Tryz.prog 110 [(.s 0 0 3 3)] [(.live false false (k9 a0))] (.t [(.a (k3 (F110_3 a0).1)), (.a (k3 (F110_3 a0).2))]) [] := by
  refine con_s Tryz.func110 (by kernel_rfl) fun cx hcx => ?_
  have e := Eq.refl (F110_3 a0); conv at e => rhs; simp only [F110_3]
  rw [e]
  exact rt [.i 0 3 (by decide), .i 0 3 (by decide), .u 200, .T, .i 0 3 (by decide), .u 0, .T, .i 1 3 (by decide), .u 0, .T, .i 2 3 (by decide), .u 0, .F] [] [] hcx (by kernel_rfl)

def F110_1 (a0 : Int × Int × Int) : (Int × Int × Int) × Int × Int × Int :=
  (((if (a0.1 : Int) < a0.1 then a0.1 else a0.1), (if (a0.2.1 : Int) < a0.2.1 then a0.2.1 else a0.2.1), (if (a0.2.2 : Int) < a0.2.2 then a0.2.2 else a0.2.2)), ((if (a0.1 : Int) < a0.1 then a0.1 else a0.1), (if (a0.2.1 : Int) < a0.2.1 then a0.2.1 else a0.2.1), (if (a0.2.2 : Int) < a0.2.2 then a0.2.2 else a0.2.2)))

theorem C110_1 (a0 : Int × Int × Int) : Con Tryz.prog 110 [(.s 0 0 1 3)] [(.live false false (k3 a0))] (.t [(.a (k3 (F110_1 a0).1)), (.a (k3 (F110_1 a0).2))]) [] := by
  refine con_s Tryz.func110 (by kernel_rfl) fun cx hcx => ?_
  have e := Eq.refl (F110_1 a0); conv at e => rhs; simp only [F110_1]
  rw [e]
  exact rt [.i 0 1 (by decide), .i 0 1 (by decide), .u 200, .T, .i 0 1 (by decide), .u 0, .F] [] [] hcx (by kernel_rfl)

def F111 (a0 : Int) (a1 : Int) (a2 : Int) (a3 : Int) : Int :=
  (if ((if (0 : Int) < (W (a2 - a1)) then (W (a2 - a1)) else 0) : Int) < (W (a0 - a3)) then (W (a0 - a3)) else (if (0 : Int) < (W (a2 - a1)) then (W (a2 - a1)) else 0))

theorem C111 (a0 : Int) (a1 : Int) (a2 : Int) (a3 : Int) : Con Tryz.prog 111 [(iv a0), (iv a1), (iv a2), (iv a3)] [] (iv (F111 a0 a1 a2 a3)) [] := by
  refine con_s Tryz.func111 (by kernel_rfl) fun cx hcx => ?_
  have e := Eq.refl (F111 a0 a1 a2 a3); conv at e => rhs; simp only [F111]
  rw [e]
  exact rt [] [] [] hcx (by kernel_rfl)

def F79_3_1 (a0 : (Int × Int × Int) × (Int × Int × Int) × (Int × Int × Int)) (a1 : Int × Int × Int) : Int :=
  (F112 ((F111 (F110_3 a0).1.1 (F110_3 a0).2.1 (F110_1 a1).1.1 (F110_1 a1).2.1), (F111 (F110_3 a0).1.2.1 (F110_3 a0).2.2.1 (F110_1 a1).1.2.1 (F110_1 a1).2.2.1), (F111 (F110_3 a0).1.2.2 (F110_3 a0).2.2.2 (F110_1 a1).1.2.2 (F110_1 a1).2.2.2)) ((F111 (F110_3 a0).1.1 (F110_3 a0).2.1 (F110_1 a1).1.1 (F110_1 a1).2.1), (F111 (F110_3 a0).1.2.1 (F110_3 a0).2.2.1 (F110_1 a1).1.2.1 (F110_1 a1).2.2.1), (F111 (F110_3 a0).1.2.2 (F110_3 a0).2.2.2 (F110_1 a1).1.2.2 (F110_1 a1).2.2.2)))

theorem C79_3_1 (a0 : (Int × Int × Int) × (Int × Int × Int) × (Int × Int × Int)) (a1 : Int × Int × Int) : Con Tryz.prog 79 [(.s 0 0 3 3), (.s 1 0 1 3)] [(.live false false (k9 a0)), (.live false false (k3 a1))] (iv (F79_3_1 a0 a1)) [] := by
  refine con_s Tryz.func79 (by kernel_rfl) fun cx hcx => ?_
  have e := Eq.refl (F79_3_1 a0 a1); conv at e => rhs; simp only [F79_3_1]
  rw [e]
  exact rt [.c [0] (C110_3 a0), .c [1] (C110_1 a1), .c [] (C111 (F110_3 a0).1.1 (F110_3 a0).2.1 (F110_1 a1).1.1 (F110_1 a1).2.1), .c [] (C111 (F110_3 a0).1.2.1 (F110_3 a0).2.2.1 (F110_1 a1).1.2.1 (F110_1 a1).2.2.1), .c [] (C111 (F110_3 a0).1.2.2 (F110_3 a0).2.2.2 (F110_1 a1).1.2.2 (F110_1 a1).2.2.2), .c [] (C112 ((F111 (F110_3 a0).1.1 (F110_3 a0).2.1 (F110_1 a1).1.1 (F110_1 a1).2.1), (F111 (F110_3 a0).1.2.1 (F110_3 a0).2.2.1 (F110_1 a1).1.2.1 (F110_1 a1).2.2.1), (F111 (F110_3 a0).1.2.2 (F110_3 a0).2.2.2 (F110_1 a1).1.2.2 (F110_1 a1).2.2.2)) ((F111 (F110_3 a0).1.1 (F110_3 a0).2.1 (F110_1 a1).1.1 (F110_1 a1).2.1), (F111 (F110_3 a0).1.2.1 (F110_3 a0).2.2.1 (F110_1 a1).1.2.1 (F110_1 a1).2.2.1), (F111 (F110_3 a0).1.2.2 (F110_3 a0).2.2.2 (F110_1 a1).1.2.2 (F110_1 a1).2.2.2)))] [] [] hcx (by kernel_rfl)

def c24 (x : Int × Int × Int) : List SV := [(iv x.1), (iv x.2.1), (iv x.2.2)]
theorem c24_len (x : Int × Int × Int) : (c24 x).length = 3 := rfl

noncomputable def B80_L_L_1 : Code := (loopAtD [1, 1, 0, 1, 0, 1, 1, 0, 1, 1] [0] (bodyOf Tryz.f80) []).1
noncomputable def K80_L_L_1 (m0 : Nat) : List K := (loopAtD [1, 1, 0, 1, 0, 1, 1, 0, 1, 1] [m0] (bodyOf Tryz.f80) []).2

def st80_L_L_1 (a0 : List (Int × Int × Int)) (a1 : List (Int × Int × Int)) (v5 : Int) (v6 : Int) (v7 : Int) (v8 : Int) (v9 : Int) (v10 : Int) : LS := ⟨slN 34 [(1, (.s 1 0 a1.length 3)), (5, (iv v5)), (7, (.p 2 0)), (11, (.s 0 0 a0.length 3)), (12, (iv ((a0.length : Nat) : Int))), (13, (iv v6)), (17, (.s 1 0 a1.length 3)), (18, (iv ((a1.length : Nat) : Int))), (19, (iv v7))], [(.live false true (flat c24 a0)), (.live false true (flat c24 a1)), (.live true false [(iv v8), (iv v9), (iv v10)])]⟩

def S80_L_L_1 (a0 : List (Int × Int × Int)) (a1 : List (Int × Int × Int)) : Int × Int × Int × Int × Int × Int → (Int × Int × Int × Int × Int × Int) ⊕ ((Int × Int) ⊕ (Int))
  | (v5, v6, v7, v8, v9, v10) =>
   (bif (decide ((v7 : Int) < ((a1.length : Nat) : Int))) then
    (.inl ((if (v5 : Int) < (F112 (F113 (v8, v9, v10) (a1.getD (Int.toNat v7) default)) (F113 (v8, v9, v10) (a1.getD (Int.toNat v7) default))) then (F112 (F113 (v8, v9, v10) (a1.getD (Int.toNat v7) default)) (F113 (v8, v9, v10) (a1.getD (Int.toNat v7) default))) else v5), v6, (v7 + 1), v8, v9, v10))
   else
    (.inr (.inl (v5, (v6 + 1)))))

noncomputable def B80_L_L_0 : Code := (loopAtD [1, 1, 0, 1] [] (bodyOf Tryz.f80) []).1
noncomputable def K80_L_L_0 : List K := (loopAtD [1, 1, 0, 1] [] (bodyOf Tryz.f80) []).2

def st80_L_L_0 (a0 : List (Int × Int × Int)) (a1 : List (Int × Int × Int)) (v3 : Int) (v4 : Int) : LS := ⟨slN 34 [(1, (.s 1 0 a1.length 3)), (5, (iv v3)), (11, (.s 0 0 a0.length 3)), (12, (iv ((a0.length : Nat) : Int))), (13, (iv v4))], [(.live false true (flat c24 a0)), (.live false true (flat c24 a1))]⟩

def S80_L_L_0 (a0 : List (Int × Int × Int)) (a1 : List (Int × Int × Int)) : Int × Int → (Int × Int) ⊕ (Int)
  | (v3, v4) =>
   (bif (decide ((v4 : Int) < ((a0.length : Nat) : Int))) then
    (loopF (S80_L_L_1 a0 a1) (Int.toNat (((a1.length : Nat) : Int) - 0) + 1) (v3, v4, 0, (a0.getD (Int.toNat v4) default).1, (a0.getD (Int.toNat v4) default).2.1, (a0.getD (Int.toNat v4) default).2.2))
   else
    (.inr v3))

set_option maxHeartbeats 4000000 in
theorem L80_L_L_1 (a0 : List (Int × Int × Int)) (a1 : List (Int × Int × Int)) (l0 : a0.length ≤ 9223372036854775807) (l1 : a1.length ≤ 9223372036854775807) {cx : Cx} (hcx : cx.base = 2)
    (n0 : Nat) (g0 : ∀ (v3 : Int) (v4 : Int), 0 ≤ v4 → Int.toNat (((a0.length : Nat) : Int) - v4) < n0 → Aw.Good Tryz.prog none 9 (bodyPost Tryz.prog Tryz.f80 (RR cx (iv (loopF (S80_L_L_0 a0 a1) n0 (v3, v4))) [] [])) cx [] (.l B80_L_L_0 n0 :: K80_L_L_0) (st80_L_L_0 a0 a1 v3 v4)) : ∀ (n : Nat) (v5 : Int) (v6 : Int) (v7 : Int) (v8 : Int) (v9 : Int) (v10 : Int), (0 ≤ v7) ∧ ((0 ≤ v6)) ∧ (v6 < ((a0.length : Nat) : Int)) ∧ (Int.toNat (((a0.length : Nat) : Int) - v6) < n0 + 1) → Int.toNat (((a1.length : Nat) : Int) - v7) < n → Aw.Good Tryz.prog none 9 (bodyPost Tryz.prog Tryz.f80 (RR cx (iv (thenF (S80_L_L_0 a0 a1) n0 (loopF (S80_L_L_1 a0 a1) n (v5, v6, v7, v8, v9, v10)))) [] [])) cx [] (.l B80_L_L_1 n :: K80_L_L_1 n0) (st80_L_L_1 a0 a1 v5 v6 v7 v8 v9 v10) := by
  intro n
  induction n with
  | zero => intro v5 v6 v7 v8 v9 v10 hi hn; exact absurd hn (Nat.not_lt_zero _)
  | succ n ih =>
    intro v5 v6 v7 v8 v9 v10 hi hn
    refine good_round ?_
    cases h0 : (decide ((v7 : Int) < ((a1.length : Nat) : Int))) with
    | true =>
     have q0 := of_decide_eq_true h0
     have e := Eq.refl (S80_L_L_1 a0 a1 (v5, v6, v7, v8, v9, v10)); conv at e => rhs; simp only [S80_L_L_1, h0, cond_true, cond_false]
     rw [loopF_inl e]
     refine ba [.d h0, .i v7 (a1.length), .L c24_len a1 v7 0 3, .c [] (C113 (v8, v9, v10) (a1.getD (Int.toNat v7) default)), .c [] (C112 (F113 (v8, v9, v10) (a1.getD (Int.toNat v7) default)) (F113 (v8, v9, v10) (a1.getD (Int.toNat v7) default)))] [] [1, 5, 7, 11, 12, 13, 17, 18, 19] [2] hcx (m := n) B80_L_L_1 (K80_L_L_1 n0) (st80_L_L_1 a0 a1 (if (v5 : Int) < (F112 (F113 (v8, v9, v10) (a1.getD (Int.toNat v7) default)) (F113 (v8, v9, v10) (a1.getD (Int.toNat v7) default))) then (F112 (F113 (v8, v9, v10) (a1.getD (Int.toNat v7) default)) (F113 (v8, v9, v10) (a1.getD (Int.toNat v7) default))) else v5) v6 (W (v7 + 1)) v8 v9 v10) (by kernel_rfl) ?_
     have z0 : (W (v7 + 1)) = (v7 + 1) := W_eq (by omega) (by omega)
     rw [z0]
     exact ih (if (v5 : Int) < (F112 (F113 (v8, v9, v10) (a1.getD (Int.toNat v7) default)) (F113 (v8, v9, v10) (a1.getD (Int.toNat v7) default))) then (F112 (F113 (v8, v9, v10) (a1.getD (Int.toNat v7) default)) (F113 (v8, v9, v10) (a1.getD (Int.toNat v7) default))) else v5) v6 (v7 + 1) v8 v9 v10 (by refine ⟨?_, ?_, ?_, ?_⟩ <;> (try simp only [List.length_append, List.length_cons, List.length_nil, Int.toNat_zero]) <;> first | omega | assumption | simp) (by (try simp only [List.length_append, List.length_cons, List.length_nil, Int.toNat_zero]); omega)
    | false =>
     have q0 := of_decide_eq_false h0
     have e := Eq.refl (S80_L_L_1 a0 a1 (v5, v6, v7, v8, v9, v10)); conv at e => rhs; simp only [S80_L_L_1, h0, cond_true, cond_false]
     rw [loopF_s, e]
     refine ba [.d h0] [] [1, 5, 11, 12, 13] [] hcx (m := n0) B80_L_L_0 (K80_L_L_0) (st80_L_L_0 a0 a1 v5 (W (v6 + 1))) (by kernel_rfl) ?_
     have z0 : (W (v6 + 1)) = (v6 + 1) := W_eq (by omega) (by omega)
     rw [z0]
     exact g0 v5 (v6 + 1) (by (try simp only [List.length_append, List.length_cons, List.length_nil, Int.toNat_zero]); omega) (by (try simp only [List.length_append, List.length_cons, List.length_nil, Int.toNat_zero]); omega)

set_option maxHeartbeats 4000000 in
theorem L80_L_L_0 (a0 : List (Int × Int × Int)) (a1 : List (Int × Int × Int)) (l0 : a0.length ≤ 9223372036854775807) (l1 : a1.length ≤ 9223372036854775807) {cx : Cx} (hcx : cx.base = 2) : ∀ (n : Nat) (v3 : Int) (v4 : Int), 0 ≤ v4 → Int.toNat (((a0.length : Nat) : Int) - v4) < n → Aw.Good Tryz.prog none 9 (bodyPost Tryz.prog Tryz.f80 (RR cx (iv (loopF (S80_L_L_0 a0 a1) n (v3, v4))) [] [])) cx [] (.l B80_L_L_0 n :: K80_L_L_0) (st80_L_L_0 a0 a1 v3 v4) := by
  intro n
  induction n with
  | zero => intro v3 v4 hi hn; exact absurd hn (Nat.not_lt_zero _)
  | succ n ih =>
    intro v3 v4 hi hn
    refine good_round ?_
    cases h0 : (decide ((v4 : Int) < ((a0.length : Nat) : Int))) with
    | true =>
     have q0 := of_decide_eq_true h0
     have e := Eq.refl (S80_L_L_0 a0 a1 (v3, v4)); conv at e => rhs; simp only [S80_L_L_0, h0, cond_true, cond_false]
     rw [loopF_s, e]
     refine en [.d h0, .i v4 (a0.length), .L c24_len a0 v4 0 3] [] [1, 5, 7, 11, 12, 13, 17, 18, 19] [2] hcx B80_L_L_1 (K80_L_L_1 n) (st80_L_L_1 a0 a1 v3 v4 0 ((a0.getD (Int.toNat v4) default).1) ((a0.getD (Int.toNat v4) default).2.1) ((a0.getD (Int.toNat v4) default).2.2)) (Int.toNat (((a1.length : Nat) : Int) - 0) + 1) (by kernel_rfl) ?_
     exact L80_L_L_1 a0 a1 l0 l1 hcx n ih (Int.toNat (((a1.length : Nat) : Int) - 0) + 1) v3 v4 0 ((a0.getD (Int.toNat v4) default).1) ((a0.getD (Int.toNat v4) default).2.1) ((a0.getD (Int.toNat v4) default).2.2) (by refine ⟨?_, ?_, ?_, ?_⟩ <;> (try simp only [List.length_append, List.length_cons, List.length_nil, Int.toNat_zero]) <;> first | omega | assumption | simp) (by (try simp only [List.length_append, List.length_cons, List.length_nil, Int.toNat_zero]); omega)
    | false =>
     have q0 := of_decide_eq_false h0
     have e := Eq.refl (S80_L_L_0 a0 a1 (v3, v4)); conv at e => rhs; simp only [S80_L_L_0, h0, cond_true, cond_false]
     rw [loopF_s, e]
     exact rt [.d h0] [] [] hcx (by kernel_rfl)

def F80_L_L (a0 : List (Int × Int × Int)) (a1 : List (Int × Int × Int)) : Int :=
  (loopF (S80_L_L_0 a0 a1) (Int.toNat (((a0.length : Nat) : Int) - 0) + 1) (0, 0))

theorem C80_L_L (a0 : List (Int × Int × Int)) (a1 : List (Int × Int × Int)) (l0 : a0.length ≤ 9223372036854775807) (l1 : a1.length ≤ 9223372036854775807) : Con Tryz.prog 80 [(.s 0 0 a0.length 3), (.s 1 0 a1.length 3)] [(.live false true (flat c24 a0)), (.live false true (flat c24 a1))] (iv (F80_L_L a0 a1)) [] := by
  refine con_s Tryz.func80 (by kernel_rfl) fun cx hcx => ?_
  have e := Eq.refl (F80_L_L a0 a1); conv at e => rhs; simp only [F80_L_L]
  rw [e]
  refine en [] [] [1, 5, 11, 12, 13] [] hcx B80_L_L_0 (K80_L_L_0) (st80_L_L_0 a0 a1 0 0) (Int.toNat (((a0.length : Nat) : Int) - 0) + 1) (by kernel_rfl) ?_
  exact L80_L_L_0 a0 a1 l0 l1 hcx (Int.toNat (((a0.length : Nat) : Int) - 0) + 1) 0 0 (by (try simp only [List.length_append, List.length_cons, List.length_nil, Int.toNat_zero]); omega) (by (try simp only [List.length_append, List.length_cons, List.length_nil, Int.toNat_zero]); omega)

noncomputable def B115_0 : Code := match (codeAtD [1] [] (bodyOf Tryz.f115)).1 with
  | .scope c => c
  | _ => .skip
noncomputable def K115_0 : List K := (codeAtD [1] [] (bodyOf Tryz.f115)).2
noncomputable def R115_0 : Code := (findLabel B115_0 0).getD .skip

def st115_0 (a0 : Int) (v1 : Int) (v2 : Int) : LS := ⟨slN 22 [(0, (iv a0)), (3, (iv v1)), (4, (iv v2))], []⟩

def S115_0 (a0 : Int) : Int × Int → (Int × Int) ⊕ (Int)
  | (v1, v2) =>
   (bif ((v2 : Int) == 0) then
    (.inr v1)
   else
    (bif (decide (((W ((W (v1 + v2)) * (W (v1 + v2)))) : Int) ≤ a0)) then
     (.inl ((W (v1 + v2)), (v2 / 2)))
    else
     (.inl (v1, (v2 / 2)))))

set_option maxHeartbeats 4000000 in
theorem L115_0 (a0 : Int) {cx : Cx} (hcx : cx.base = 0) : ∀ (n : Nat) (v1 : Int) (v2 : Int), 0 ≤ v2 → Int.toNat v2 < n → Aw.Good Tryz.prog none 9 (bodyPost Tryz.prog Tryz.f115 (RR cx (iv (loopF (S115_0 a0) n (v1, v2))) [] [])) cx [] (.c (.goto 0) :: .s B115_0 n :: K115_0) (st115_0 a0 v1 v2) := by
  intro n
  induction n with
  | zero => intro v1 v2 hi hn; exact absurd hn (Nat.not_lt_zero _)
  | succ n ih =>
    intro v1 v2 hi hn
    refine good_jump (rest := R115_0) (by kernel_rfl) ?_
    cases h0 : ((v2 : Int) == 0) with
    | true =>
     have q0 := eq_of_beq h0
     have e := Eq.refl (S115_0 a0 (v1, v2)); conv at e => rhs; simp only [S115_0, h0, cond_true, cond_false]
     rw [loopF_s, e]
     exact rt [.d h0] [] [] hcx (by kernel_rfl)
    | false =>
     have q0 := ne_of_beq_false h0
     let t1 : List (St Tryz.prog) := [.d h0]
     cases h1 : (decide (((W ((W (v1 + v2)) * (W (v1 + v2)))) : Int) ≤ a0)) with
     | true =>
      have q1 := of_decide_eq_true h1
      have e := Eq.refl (S115_0 a0 (v1, v2)); conv at e => rhs; simp only [S115_0, h0, h1, cond_true, cond_false]
      rw [loopF_inl e]
      refine ga (t1 ++ [.d h1, .p (show 0 ≤ (1 : Int) from by decide)]) [] [0, 3, 4] [] hcx (.goto 0) (.s B115_0 n :: K115_0) (st115_0 a0 (W (v1 + v2)) (Int.fdiv v2 (2 ^ (min (Int.toNat 1) 64)))) (by kernel_rfl) ?_
      have z0 : (Int.fdiv v2 (2 ^ (min (Int.toNat 1) 64))) = (v2 / 2) := shr_eq _ 1 (by decide)
      rw [z0]
      exact ih (W (v1 + v2)) (v2 / 2) (by (try simp only [List.length_append, List.length_cons, List.length_nil, Int.toNat_zero]); omega) (by omega)
     | false =>
      have q1 := of_decide_eq_false h1
      have e := Eq.refl (S115_0 a0 (v1, v2)); conv at e => rhs; simp only [S115_0, h0, h1, cond_true, cond_false]
      rw [loopF_inl e]
      refine ga (t1 ++ [.d h1, .p (show 0 ≤ (1 : Int) from by decide)]) [] [0, 3, 4] [] hcx (.goto 0) (.s B115_0 n :: K115_0) (st115_0 a0 v1 (Int.fdiv v2 (2 ^ (min (Int.toNat 1) 64)))) (by kernel_rfl) ?_
      have z0 : (Int.fdiv v2 (2 ^ (min (Int.toNat 1) 64))) = (v2 / 2) := shr_eq _ 1 (by decide)
      rw [z0]
      exact ih v1 (v2 / 2) (by (try simp only [List.length_append, List.length_cons, List.length_nil, Int.toNat_zero]); omega) (by omega)

def F115 (a0 : Int) : Int :=
  (bif (decide ((4611686018427387904 : Int) ≤ a0)) then
   (loopF (S115_0 a0) (Int.toNat 1073741824 + 1) (2147483648, 1073741824))
  else
   (loopF (S115_0 a0) (Int.toNat 1073741824 + 1) (0, 1073741824)))

theorem C115 (a0 : Int) : Con Tryz.prog 115 [(iv a0)] [] (iv (F115 a0)) [] := by
  refine con_s Tryz.func115 (by kernel_rfl) fun cx hcx => ?_
  cases h0 : (decide ((4611686018427387904 : Int) ≤ a0)) with
  | true =>
   have q0 := of_decide_eq_true h0
   have e := Eq.refl (F115 a0); conv at e => rhs; simp only [F115, h0, cond_true, cond_false]
   rw [e]
   refine ga [.u (Int.toNat 1073741824 + 1), .F, .d h0, .p (show 0 ≤ (1 : Int) from by decide)] [] [0, 3, 4] [] hcx (.goto 0) (.s B115_0 (Int.toNat 1073741824 + 1) :: K115_0) (st115_0 a0 2147483648 1073741824) (by kernel_rfl) ?_
   exact L115_0 a0 hcx (Int.toNat 1073741824 + 1) 2147483648 1073741824 (by (try simp only [List.length_append, List.length_cons, List.length_nil, Int.toNat_zero]); omega) (by omega)
  | false =>
   have q0 := of_decide_eq_false h0
   have e := Eq.refl (F115 a0); conv at e => rhs; simp only [F115, h0, cond_true, cond_false]
   rw [e]
   refine ga [.u (Int.toNat 1073741824 + 1), .F, .d h0, .p (show 0 ≤ (1 : Int) from by decide)] [] [0, 3, 4] [] hcx (.goto 0) (.s B115_0 (Int.toNat 1073741824 + 1) :: K115_0) (st115_0 a0 0 1073741824) (by kernel_rfl) ?_
   exact L115_0 a0 hcx (Int.toNat 1073741824 + 1) 0 1073741824 (by (try simp only [List.length_append, List.length_cons, List.length_nil, Int.toNat_zero]); omega) (by omega)

def F56 (a0 : Int × Int) : Bool :=
  (bif (decide ((a0.1 : Int) ≥ (-1099511627776))) then
   (bif (decide ((a0.1 : Int) ≤ a0.2)) then
    (decide ((a0.2 : Int) ≤ 1099511627776))
   else
    false)
  else
   false)

theorem C56 (a0 : Int × Int) : Con Tryz.prog 56 [(.a [(iv a0.1), (iv a0.2)])] [] (.v (.bool (F56 a0))) [] := by
  refine con_s Tryz.func56 (by kernel_rfl) fun cx hcx => ?_
  cases h0 : (decide ((a0.1 : Int) ≥ (-1099511627776))) with
  | true =>
   have q0 := of_decide_eq_true h0
   let t1 : List (St Tryz.prog) := [.d h0]
   cases h1 : (decide ((a0.1 : Int) ≤ a0.2)) with
   | true =>
    have q1 := of_decide_eq_true h1
    have e := Eq.refl (F56 a0); conv at e => rhs; simp only [F56, h0, h1, cond_true, cond_false]
    rw [e]
    exact rt (t1 ++ [.d h1]) [] [] hcx (by kernel_rfl)
   | false =>
    have q1 := of_decide_eq_false h1
    have e := Eq.refl (F56 a0); conv at e => rhs; simp only [F56, h0, h1, cond_true, cond_false]
    rw [e]
    exact rt (t1 ++ [.d h1]) [] [] hcx (by kernel_rfl)
  | false =>
   have q0 := of_decide_eq_false h0
   have e := Eq.refl (F56 a0); conv at e => rhs; simp only [F56, h0, cond_true, cond_false]
   rw [e]
   exact rt [.d h0] [] [] hcx (by kernel_rfl)

def F34 (a0 : Int) (a1 : Int) : (Int × Int) × Int :=
  (bif (!(F56 (a0, a1))) then
   ((0, 0), 4)
  else
   ((a0, a1), 0))

theorem C34 (a0 : Int) (a1 : Int) : Con Tryz.prog 34 [(iv a0), (iv a1)] [] (.t [(.a (k2 (F34 a0 a1).1)), (iv (F34 a0 a1).2)]) [] := by
  refine con_s Tryz.func34 (by kernel_rfl) fun cx hcx => ?_
  let t0 : List (St Tryz.prog) := [.c [] (C56 (a0, a1))]
  cases h0 : (!(F56 (a0, a1))) with
  | true =>
   have e := Eq.refl (F34 a0 a1); conv at e => rhs; simp only [F34, h0, cond_true, cond_false]
   rw [e]
   exact rt (t0 ++ [.d h0]) [] [] hcx (by kernel_rfl)
  | false =>
   have e := Eq.refl (F34 a0 a1); conv at e => rhs; simp only [F34, h0, cond_true, cond_false]
   rw [e]
   exact rt (t0 ++ [.d h0]) [] [] hcx (by kernel_rfl)

def F82 (a0 : Int) (a1 : Int) : (Int × Int) × Int :=
  (bif (((W ((W ((F115 (W (Int.tdiv a0 a1))) * (F115 (W (Int.tdiv a0 a1))))) * a1)) : Int) == a0) then
   ((F34 (F115 (W (Int.tdiv a0 a1))) (F115 (W (Int.tdiv a0 a1)))).1, (F34 (F115 (W (Int.tdiv a0 a1))) (F115 (W (Int.tdiv a0 a1)))).2)
  else
   ((F34 (F115 (W (Int.tdiv a0 a1))) (W ((F115 (W (Int.tdiv a0 a1))) + 1))).1, (F34 (F115 (W (Int.tdiv a0 a1))) (W ((F115 (W (Int.tdiv a0 a1))) + 1))).2))

theorem C82 (a0 : Int) (a1 : Int) (ha : a1 ≠ 0) : Con Tryz.prog 82 [(iv a0), (iv a1)] [] (.t [(.a (k2 (F82 a0 a1).1)), (iv (F82 a0 a1).2)]) [] := by
  refine con_s Tryz.func82 (by kernel_rfl) fun cx hcx => ?_
  let t0 : List (St Tryz.prog) := [.p (show (a1 : Int) ≠ 0 from by first | omega | (rw [W_eq] <;> omega) | exact u64_nn _), .c [] (C115 (W (Int.tdiv a0 a1)))]
  cases h0 : (((W ((W ((F115 (W (Int.tdiv a0 a1))) * (F115 (W (Int.tdiv a0 a1))))) * a1)) : Int) == a0) with
  | true =>
   have q0 := eq_of_beq h0
   have e := Eq.refl (F82 a0 a1); conv at e => rhs; simp only [F82, h0, cond_true, cond_false]
   rw [e]
   exact rt (t0 ++ [.d h0, .c [] (C34 (F115 (W (Int.tdiv a0 a1))) (F115 (W (Int.tdiv a0 a1))))]) [] [] hcx (by kernel_rfl)
  | false =>
   have q0 := ne_of_beq_false h0
   have e := Eq.refl (F82 a0 a1); conv at e => rhs; simp only [F82, h0, cond_true, cond_false]
   rw [e]
   exact rt (t0 ++ [.d h0, .c [] (C34 (F115 (W (Int.tdiv a0 a1))) (W ((F115 (W (Int.tdiv a0 a1))) + 1)))]) [] [] hcx (by kernel_rfl)

def F53 (a0 : Int) (a1 : Int) : (Int × Int) × Int :=
  (bif (decide ((a0 : Int) < 1)) then
   ((0, 0), 1)
  else
   (bif (decide ((a0 : Int) > 1099511627776)) then
    ((0, 0), 1)
   else
    (bif (decide ((a1 : Int) < 1)) then
     ((0, 0), 1)
    else
     (bif (decide ((a1 : Int) > 8)) then
      ((0, 0), 1)
     else
      ((F82 (W ((W (a1 * a1)) * 2 ^ (min (Int.toNat 40) 64))) a0).1, (F82 (W ((W (a1 * a1)) * 2 ^ (min (Int.toNat 40) 64))) a0).2)))))

theorem C53 (a0 : Int) (a1 : Int) : Con Tryz.prog 53 [(iv a0), (iv a1)] [] (.t [(.a (k2 (F53 a0 a1).1)), (iv (F53 a0 a1).2)]) [] := by
  refine con_s Tryz.func53 (by kernel_rfl) fun cx hcx => ?_
  cases h0 : (decide ((a0 : Int) < 1)) with
  | true =>
   have q0 := of_decide_eq_true h0
   have e := Eq.refl (F53 a0 a1); conv at e => rhs; simp only [F53, h0, cond_true, cond_false]
   rw [e]
   exact rt [.d h0] [] [] hcx (by kernel_rfl)
  | false =>
   have q0 := of_decide_eq_false h0
   let t1 : List (St Tryz.prog) := [.d h0]
   cases h1 : (decide ((a0 : Int) > 1099511627776)) with
   | true =>
    have q1 := of_decide_eq_true h1
    have e := Eq.refl (F53 a0 a1); conv at e => rhs; simp only [F53, h0, h1, cond_true, cond_false]
    rw [e]
    exact rt (t1 ++ [.d h1]) [] [] hcx (by kernel_rfl)
   | false =>
    have q1 := of_decide_eq_false h1
    let t2 : List (St Tryz.prog) := (t1 ++ [.d h1])
    cases h2 : (decide ((a1 : Int) < 1)) with
    | true =>
     have q2 := of_decide_eq_true h2
     have e := Eq.refl (F53 a0 a1); conv at e => rhs; simp only [F53, h0, h1, h2, cond_true, cond_false]
     rw [e]
     exact rt (t2 ++ [.d h2]) [] [] hcx (by kernel_rfl)
    | false =>
     have q2 := of_decide_eq_false h2
     let t3 : List (St Tryz.prog) := (t2 ++ [.d h2])
     cases h3 : (decide ((a1 : Int) > 8)) with
     | true =>
      have q3 := of_decide_eq_true h3
      have e := Eq.refl (F53 a0 a1); conv at e => rhs; simp only [F53, h0, h1, h2, h3, cond_true, cond_false]
      rw [e]
      exact rt (t3 ++ [.d h3]) [] [] hcx (by kernel_rfl)
     | false =>
      have q3 := of_decide_eq_false h3
      have e := Eq.refl (F53 a0 a1); conv at e => rhs; simp only [F53, h0, h1, h2, h3, cond_true, cond_false]
      rw [e]
      exact rt (t3 ++ [.d h3, .p (show 0 ≤ (40 : Int) from by decide), .c [] (C82 (W ((W (a1 * a1)) * 2 ^ (min (Int.toNat 40) 64))) a0  (by (try simp only [List.length_append, List.length_cons, List.length_nil, Int.toNat_zero]); omega))]) [] [] hcx (by kernel_rfl)

def F45_1 (a0 : Int × Int) : Int :=
  (bif (!(F56 a0)) then
   1
  else
   0)

theorem C45_1 (a0 : Int × Int) : Con Tryz.prog 45 [(.s 0 0 1 2)] [(.live false false [(iv a0.1), (iv a0.2)])] (iv (F45_1 a0)) [] := by
  refine con_s Tryz.func45 (by kernel_rfl) fun cx hcx => ?_
  let t0 : List (St Tryz.prog) := [.u 200, .T, .i 0 1 (by decide), .c [] (C56 a0)]
  cases h0 : (!(F56 a0)) with
  | true =>
   have e := Eq.refl (F45_1 a0); conv at e => rhs; simp only [F45_1, h0, cond_true, cond_false]
   rw [e]
   exact rt (t0 ++ [.d h0]) [] [] hcx (by kernel_rfl)
  | false =>
   have e := Eq.refl (F45_1 a0); conv at e => rhs; simp only [F45_1, h0, cond_true, cond_false]
   rw [e]
   exact rt (t0 ++ [.d h0, .u 0, .F]) [] [] hcx (by kernel_rfl)

def F117 (a0 : Int) (a1 : Int) : Int :=
  (bif (((Int.tmod a0 a1) : Int) != 0) then
   (bif (!((decide ((a0 : Int) < 0)) == (decide ((a1 : Int) < 0)))) then
    (W ((W (Int.tdiv a0 a1)) - 1))
   else
    (W (Int.tdiv a0 a1)))
  else
   (W (Int.tdiv a0 a1)))

theorem C117 (a0 : Int) (a1 : Int) (ha : a1 ≠ 0) : Con Tryz.prog 117 [(iv a0), (iv a1)] [] (iv (F117 a0 a1)) [] := by
  refine con_s Tryz.func117 (by kernel_rfl) fun cx hcx => ?_
  let t0 : List (St Tryz.prog) := [.p (show (a1 : Int) ≠ 0 from by first | omega | (rw [W_eq] <;> omega) | exact u64_nn _), .p (show (a1 : Int) ≠ 0 from by first | omega | (rw [W_eq] <;> omega) | exact u64_nn _)]
  cases h0 : (((Int.tmod a0 a1) : Int) != 0) with
  | true =>
   have q0 := bne_iff_ne.1 h0
   let t1 : List (St Tryz.prog) := (t0 ++ [.d h0])
   cases h1 : (!((decide ((a0 : Int) < 0)) == (decide ((a1 : Int) < 0)))) with
   | true =>
    have e := Eq.refl (F117 a0 a1); conv at e => rhs; simp only [F117, h0, h1, cond_true, cond_false]
    rw [e]
    exact rt (t1 ++ [.d h1]) [] [] hcx (by kernel_rfl)
   | false =>
    have e := Eq.refl (F117 a0 a1); conv at e => rhs; simp only [F117, h0, h1, cond_true, cond_false]
    rw [e]
    exact rt (t1 ++ [.d h1]) [] [] hcx (by kernel_rfl)
  | false =>
   have q0 := bne_eq_false_iff_eq.1 h0
   have e := Eq.refl (F117 a0 a1); conv at e => rhs; simp only [F117, h0, cond_true, cond_false]
   rw [e]
   exact rt (t0 ++ [.d h0]) [] [] hcx (by kernel_rfl)

def F118 (a0 : Int) (a1 : Int) : Int :=
  (W (0 - (F117 (W (0 - a0)) a1)))

theorem C118 (a0 : Int) (a1 : Int) (ha : a1 ≠ 0) : Con Tryz.prog 118 [(iv a0), (iv a1)] [] (iv (F118 a0 a1)) [] := by
  refine con_s Tryz.func118 (by kernel_rfl) fun cx hcx => ?_
  have e := Eq.refl (F118 a0 a1); conv at e => rhs; simp only [F118]
  rw [e]
  exact rt [.c [] (C117 (W (0 - a0)) a1  (by (try simp only [List.length_append, List.length_cons, List.length_nil, Int.toNat_zero]); omega))] [] [] hcx (by kernel_rfl)

def F114 (a0 : Int × Int) (a1 : Int) : (Int × Int) × Int :=
  (bif (((F45_1 a0) : Int) != 0) then
   ((0, 0), (F45_1 a0))
  else
   (bif (decide ((a1 : Int) < 1)) then
    ((0, 0), 1)
   else
    (bif (decide ((a1 : Int) > 1099511627776)) then
     ((0, 0), 1)
    else
     ((F34 (F117 a0.1 a1) (F118 a0.2 a1)).1, (F34 (F117 a0.1 a1) (F118 a0.2 a1)).2))))

theorem C114 (a0 : Int × Int) (a1 : Int) : Con Tryz.prog 114 [(.a [(iv a0.1), (iv a0.2)]), (iv a1)] [] (.t [(.a (k2 (F114 a0 a1).1)), (iv (F114 a0 a1).2)]) [] := by
  refine con_s Tryz.func114 (by kernel_rfl) fun cx hcx => ?_
  let t0 : List (St Tryz.prog) := [.c [2] (C45_1 a0)]
  cases h0 : (((F45_1 a0) : Int) != 0) with
  | true =>
   have q0 := bne_iff_ne.1 h0
   have e := Eq.refl (F114 a0 a1); conv at e => rhs; simp only [F114, h0, cond_true, cond_false]
   rw [e]
   exact rt (t0 ++ [.d h0]) [] [] hcx (by kernel_rfl)
  | false =>
   have q0 := bne_eq_false_iff_eq.1 h0
   let t1 : List (St Tryz.prog) := (t0 ++ [.d h0])
   cases h1 : (decide ((a1 : Int) < 1)) with
   | true =>
    have q1 := of_decide_eq_true h1
    have e := Eq.refl (F114 a0 a1); conv at e => rhs; simp only [F114, h0, h1, cond_true, cond_false]
    rw [e]
    exact rt (t1 ++ [.d h1]) [] [] hcx (by kernel_rfl)
   | false =>
    have q1 := of_decide_eq_false h1
    let t2 : List (St Tryz.prog) := (t1 ++ [.d h1])
    cases h2 : (decide ((a1 : Int) > 1099511627776)) with
    | true =>
     have q2 := of_decide_eq_true h2
     have e := Eq.refl (F114 a0 a1); conv at e => rhs; simp only [F114, h0, h1, h2, cond_true, cond_false]
     rw [e]
     exact rt (t2 ++ [.d h2]) [] [] hcx (by kernel_rfl)
    | false =>
     have q2 := of_decide_eq_false h2
     have e := Eq.refl (F114 a0 a1); conv at e => rhs; simp only [F114, h0, h1, h2, cond_true, cond_false]
     rw [e]
     exact rt (t2 ++ [.d h2, .c [] (C117 a0.1 a1  (by (try simp only [List.length_append, List.length_cons, List.length_nil, Int.toNat_zero]); omega)), .c [] (C118 a0.2 a1  (by (try simp only [List.length_append, List.length_cons, List.length_nil, Int.toNat_zero]); omega)), .c [] (C34 (F117 a0.1 a1) (F118 a0.2 a1))]) [] [] hcx (by kernel_rfl)

def c34 (x : Int × Int) : List SV := [(iv x.1), (iv x.2)]
theorem c34_len (x : Int × Int) : (c34 x).length = 2 := rfl

noncomputable def B45_L_0 : Code := (loopAtD [1, 0, 1] [] (bodyOf Tryz.f45) []).1
noncomputable def K45_L_0 : List K := (loopAtD [1, 0, 1] [] (bodyOf Tryz.f45) []).2

def st45_L_0 (a0 : List (Int × Int)) (v1 : Int) : LS := ⟨slN 15 [(5, (.s 0 0 a0.length 2)), (6, (iv ((a0.length : Nat) : Int))), (7, (iv v1))], [(.live false true (flat c34 a0))]⟩

def S45_L_0 (a0 : List (Int × Int)) : Int → (Int) ⊕ (Int)
  | v1 =>
   (bif (decide ((v1 : Int) < ((a0.length : Nat) : Int))) then
    (bif (!(F56 (a0.getD (Int.toNat v1) default))) then
     (.inr 1)
    else
     (.inl (v1 + 1)))
   else
    (.inr 0))

set_option maxHeartbeats 4000000 in
theorem L45_L_0 (a0 : List (Int × Int)) (l0 : a0.length ≤ 9223372036854775807) {cx : Cx} (hcx : cx.base = 1) : ∀ (n : Nat) (v1 : Int), 0 ≤ v1 → Int.toNat (((a0.length : Nat) : Int) - v1) < n → Aw.Good Tryz.prog none 9 (bodyPost Tryz.prog Tryz.f45 (RR cx (iv (loopF (S45_L_0 a0) n v1)) [] [])) cx [] (.l B45_L_0 n :: K45_L_0) (st45_L_0 a0 v1) := by
  intro n
  induction n with
  | zero => intro v1 hi hn; exact absurd hn (Nat.not_lt_zero _)
  | succ n ih =>
    intro v1 hi hn
    refine good_round ?_
    cases h0 : (decide ((v1 : Int) < ((a0.length : Nat) : Int))) with
    | true =>
     have q0 := of_decide_eq_true h0
     let t1 : List (St Tryz.prog) := [.d h0, .i v1 (a0.length), .L c34_len a0 v1 0 2, .c [] (C56 (a0.getD (Int.toNat v1) default))]
     cases h1 : (!(F56 (a0.getD (Int.toNat v1) default))) with
     | true =>
      have e := Eq.refl (S45_L_0 a0 v1); conv at e => rhs; simp only [S45_L_0, h0, h1, cond_true, cond_false]
      rw [loopF_s, e]
      exact rt (t1 ++ [.d h1]) [] [] hcx (by kernel_rfl)
     | false =>
      have e := Eq.refl (S45_L_0 a0 v1); conv at e => rhs; simp only [S45_L_0, h0, h1, cond_true, cond_false]
      rw [loopF_inl e]
      refine ba (t1 ++ [.d h1]) [] [5, 6, 7] [] hcx (m := n) B45_L_0 (K45_L_0) (st45_L_0 a0 (W (v1 + 1))) (by kernel_rfl) ?_
      have z0 : (W (v1 + 1)) = (v1 + 1) := W_eq (by omega) (by omega)
      rw [z0]
      exact ih (v1 + 1) (by (try simp only [List.length_append, List.length_cons, List.length_nil, Int.toNat_zero]); omega) (by (try simp only [List.length_append, List.length_cons, List.length_nil, Int.toNat_zero]); omega)
    | false =>
     have q0 := of_decide_eq_false h0
     have e := Eq.refl (S45_L_0 a0 v1); conv at e => rhs; simp only [S45_L_0, h0, cond_true, cond_false]
     rw [loopF_s, e]
     exact rt [.d h0] [] [] hcx (by kernel_rfl)

def F45_L (a0 : List (Int × Int)) : Int :=
  (loopF (S45_L_0 a0) (Int.toNat (((a0.length : Nat) : Int) - 0) + 1) 0)

theorem C45_L (a0 : List (Int × Int)) (l0 : a0.length ≤ 9223372036854775807) : Con Tryz.prog 45 [(.s 0 0 a0.length 2)] [(.live false true (flat c34 a0))] (iv (F45_L a0)) [] := by
  refine con_s Tryz.func45 (by kernel_rfl) fun cx hcx => ?_
  have e := Eq.refl (F45_L a0); conv at e => rhs; simp only [F45_L]
  rw [e]
  refine en [] [] [5, 6, 7] [] hcx B45_L_0 (K45_L_0) (st45_L_0 a0 0) (Int.toNat (((a0.length : Nat) : Int) - 0) + 1) (by kernel_rfl) ?_
  exact L45_L_0 a0 l0 hcx (Int.toNat (((a0.length : Nat) : Int) - 0) + 1) 0 (by (try simp only [List.length_append, List.length_cons, List.length_nil, Int.toNat_zero]); omega) (by (try simp only [List.length_append, List.length_cons, List.length_nil, Int.toNat_zero]); omega)

noncomputable def B33_L_0 : Code := (loopAtD [1, 1, 1, 0, 1] [] (bodyOf Tryz.f33) []).1
noncomputable def K33_L_0 : List K := (loopAtD [1, 1, 1, 0, 1] [] (bodyOf Tryz.f33) []).2

def st33_L_0 (a0 : List (Int × Int)) (v1 : Int) (v2 : Int) (v3 : Int) : LS := ⟨slN 33 [(2, (iv v1)), (3, (iv v2)), (16, (.s 0 0 a0.length 2)), (17, (iv ((a0.length : Nat) : Int))), (18, (iv v3))], [(.live false true (flat c34 a0))]⟩

def S33_L_0 (a0 : List (Int × Int)) : Int × Int × Int → (Int × Int × Int) ⊕ (Int × Int × Int)
  | (v1, v2, v3) =>
   (bif (decide ((v3 : Int) < ((a0.length : Nat) : Int))) then
    (.inl ((W (v1 + (a0.getD (Int.toNat v3) default).1)), (W (v2 + (a0.getD (Int.toNat v3) default).2)), (v3 + 1)))
   else
    (.inr (v1, v2, 0)))

set_option maxHeartbeats 4000000 in
theorem L33_L_0 (a0 : List (Int × Int)) (l0 : a0.length ≤ 9223372036854775807) {cx : Cx} (hcx : cx.base = 1) : ∀ (n : Nat) (v1 : Int) (v2 : Int) (v3 : Int), 0 ≤ v3 → Int.toNat (((a0.length : Nat) : Int) - v3) < n → Aw.Good Tryz.prog none 9 (bodyPost Tryz.prog Tryz.f33 (RR cx (.t (k3 (loopF (S33_L_0 a0) n (v1, v2, v3)))) [] [])) cx [] (.l B33_L_0 n :: K33_L_0) (st33_L_0 a0 v1 v2 v3) := by
  intro n
  induction n with
  | zero => intro v1 v2 v3 hi hn; exact absurd hn (Nat.not_lt_zero _)
  | succ n ih =>
    intro v1 v2 v3 hi hn
    refine good_round ?_
    cases h0 : (decide ((v3 : Int) < ((a0.length : Nat) : Int))) with
    | true =>
     have q0 := of_decide_eq_true h0
     have e := Eq.refl (S33_L_0 a0 (v1, v2, v3)); conv at e => rhs; simp only [S33_L_0, h0, cond_true, cond_false]
     rw [loopF_inl e]
     refine ba [.d h0, .i v3 (a0.length), .L c34_len a0 v3 0 2] [] [2, 3, 16, 17, 18] [] hcx (m := n) B33_L_0 (K33_L_0) (st33_L_0 a0 (W (v1 + (a0.getD (Int.toNat v3) default).1)) (W (v2 + (a0.getD (Int.toNat v3) default).2)) (W (v3 + 1))) (by kernel_rfl) ?_
     have z0 : (W (v3 + 1)) = (v3 + 1) := W_eq (by omega) (by omega)
     rw [z0]
     exact ih (W (v1 + (a0.getD (Int.toNat v3) default).1)) (W (v2 + (a0.getD (Int.toNat v3) default).2)) (v3 + 1) (by (try simp only [List.length_append, List.length_cons, List.length_nil, Int.toNat_zero]); omega) (by (try simp only [List.length_append, List.length_cons, List.length_nil, Int.toNat_zero]); omega)
    | false =>
     have q0 := of_decide_eq_false h0
     have e := Eq.refl (S33_L_0 a0 (v1, v2, v3)); conv at e => rhs; simp only [S33_L_0, h0, cond_true, cond_false]
     rw [loopF_s, e]
     exact rt [.d h0] [] [] hcx (by kernel_rfl)

def F33_L (a0 : List (Int × Int)) : Int × Int × Int :=
  (bif (decide ((((a0.length : Nat) : Int) : Int) > 10000)) then
   (0, 0, 4)
  else
   (bif (((F45_L a0) : Int) != 0) then
    (0, 0, (F45_L a0))
   else
    (loopF (S33_L_0 a0) (Int.toNat (((a0.length : Nat) : Int) - 0) + 1) (0, 0, 0))))

theorem C33_L (a0 : List (Int × Int)) (l0 : a0.length ≤ 9223372036854775807) : Con Tryz.prog 33 [(.s 0 0 a0.length 2)] [(.live false true (flat c34 a0))] (.t (k3 (F33_L a0))) [] := by
  refine con_s Tryz.func33 (by kernel_rfl) fun cx hcx => ?_
  cases h0 : (decide ((((a0.length : Nat) : Int) : Int) > 10000)) with
  | true =>
   have q0 := of_decide_eq_true h0
   have e := Eq.refl (F33_L a0); conv at e => rhs; simp only [F33_L, h0, cond_true, cond_false]
   rw [e]
   exact rt [.d h0] [] [] hcx (by kernel_rfl)
  | false =>
   have q0 := of_decide_eq_false h0
   let t1 : List (St Tryz.prog) := [.d h0, .c [0] (C45_L a0 (by (try simp only [List.length_append, List.length_cons, List.length_nil, Int.toNat_zero]); omega))]
   cases h1 : (((F45_L a0) : Int) != 0) with
   | true =>
    have q1 := bne_iff_ne.1 h1
    have e := Eq.refl (F33_L a0); conv at e => rhs; simp only [F33_L, h0, h1, cond_true, cond_false]
    rw [e]
    exact rt (t1 ++ [.d h1]) [] [] hcx (by kernel_rfl)
   | false =>
    have q1 := bne_eq_false_iff_eq.1 h1
    have e := Eq.refl (F33_L a0); conv at e => rhs; simp only [F33_L, h0, h1, cond_true, cond_false]
    rw [e]
    refine en (t1 ++ [.d h1]) [] [2, 3, 16, 17, 18] [] hcx B33_L_0 (K33_L_0) (st33_L_0 a0 0 0 0) (Int.toNat (((a0.length : Nat) : Int) - 0) + 1) (by kernel_rfl) ?_
    exact L33_L_0 a0 l0 hcx (Int.toNat (((a0.length : Nat) : Int) - 0) + 1) 0 0 0 (by (try simp only [List.length_append, List.length_cons, List.length_nil, Int.toNat_zero]); omega) (by (try simp only [List.length_append, List.length_cons, List.length_nil, Int.toNat_zero]); omega)

def F10_L (a0 : List (Int × Int)) : (Int × Int) × Int :=
  (bif (((F33_L a0).2.2 : Int) != 0) then
   ((0, 0), (F33_L a0).2.2)
  else
   ((F34 (F33_L a0).1 (F33_L a0).2.1).1, (F34 (F33_L a0).1 (F33_L a0).2.1).2))

theorem C10_L (a0 : List (Int × Int)) (l0 : a0.length ≤ 9223372036854775807) : Con Tryz.prog 10 [(.s 0 0 a0.length 2)] [(.live false true (flat c34 a0))] (.t [(.a (k2 (F10_L a0).1)), (iv (F10_L a0).2)]) [] := by
  refine con_s Tryz.func10 (by kernel_rfl) fun cx hcx => ?_
  let t0 : List (St Tryz.prog) := [.c [0] (C33_L a0 (by (try simp only [List.length_append, List.length_cons, List.length_nil, Int.toNat_zero]); omega))]
  cases h0 : (((F33_L a0).2.2 : Int) != 0) with
  | true =>
   have q0 := bne_iff_ne.1 h0
   have e := Eq.refl (F10_L a0); conv at e => rhs; simp only [F10_L, h0, cond_true, cond_false]
   rw [e]
   exact rt (t0 ++ [.d h0]) [] [] hcx (by kernel_rfl)
  | false =>
   have q0 := bne_eq_false_iff_eq.1 h0
   have e := Eq.refl (F10_L a0); conv at e => rhs; simp only [F10_L, h0, cond_true, cond_false]
   rw [e]
   exact rt (t0 ++ [.d h0, .c [] (C34 (F33_L a0).1 (F33_L a0).2.1)]) [] [] hcx (by kernel_rfl)

def F85_L (a0 : List (Int × Int)) : (Int × Int) × Int :=
  (bif (((F33_L a0).2.2 : Int) != 0) then
   ((0, 0), (F33_L a0).2.2)
  else
   (bif ((((a0.length : Nat) : Int) : Int) == 0) then
    ((0, 0), 1)
   else
    ((F34 (F117 (F33_L a0).1 ((a0.length : Nat) : Int)) (F118 (F33_L a0).2.1 ((a0.length : Nat) : Int))).1, (F34 (F117 (F33_L a0).1 ((a0.length : Nat) : Int)) (F118 (F33_L a0).2.1 ((a0.length : Nat) : Int))).2)))

theorem C85_L (a0 : List (Int × Int)) (l0 : a0.length ≤ 9223372036854775807) : Con Tryz.prog 85 [(.s 0 0 a0.length 2)] [(.live false true (flat c34 a0))] (.t [(.a (k2 (F85_L a0).1)), (iv (F85_L a0).2)]) [] := by
  refine con_s Tryz.func85 (by kernel_rfl) fun cx hcx => ?_
  let t0 : List (St Tryz.prog) := [.c [0] (C33_L a0 (by (try simp only [List.length_append, List.length_cons, List.length_nil, Int.toNat_zero]); omega))]
  cases h0 : (((F33_L a0).2.2 : Int) != 0) with
  | true =>
   have q0 := bne_iff_ne.1 h0
   have e := Eq.refl (F85_L a0); conv at e => rhs; simp only [F85_L, h0, cond_true, cond_false]
   rw [e]
   exact rt (t0 ++ [.d h0]) [] [] hcx (by kernel_rfl)
  | false =>
   have q0 := bne_eq_false_iff_eq.1 h0
   let t1 : List (St Tryz.prog) := (t0 ++ [.d h0])
   cases h1 : ((((a0.length : Nat) : Int) : Int) == 0) with
   | true =>
    have q1 := eq_of_beq h1
    have e := Eq.refl (F85_L a0); conv at e => rhs; simp only [F85_L, h0, h1, cond_true, cond_false]
    rw [e]
    exact rt (t1 ++ [.d h1]) [] [] hcx (by kernel_rfl)
   | false =>
    have q1 := ne_of_beq_false h1
    have e := Eq.refl (F85_L a0); conv at e => rhs; simp only [F85_L, h0, h1, cond_true, cond_false]
    rw [e]
    exact rt (t1 ++ [.d h1, .c [] (C117 (F33_L a0).1 ((a0.length : Nat) : Int)  (by (try simp only [List.length_append, List.length_cons, List.length_nil, Int.toNat_zero]); omega)), .c [] (C118 (F33_L a0).2.1 ((a0.length : Nat) : Int)  (by (try simp only [List.length_append, List.length_cons, List.length_nil, Int.toNat_zero]); omega)), .c [] (C34 (F117 (F33_L a0).1 ((a0.length : Nat) : Int)) (F118 (F33_L a0).2.1 ((a0.length : Nat) : Int)))]) [] [] hcx (by kernel_rfl)

def F45_2 (a0 : (Int × Int) × (Int × Int)) : Int :=
  (bif (!(F56 a0.1)) then
   1
  else
   (bif (!(F56 a0.2)) then
    1
   else
    0))

theorem C45_2 (a0 : (Int × Int) × (Int × Int)) : Con Tryz.prog 45 [(.s 0 0 2 2)] [(.live false false [(iv a0.1.1), (iv a0.1.2), (iv a0.2.1), (iv a0.2.2)])] (iv (F45_2 a0)) [] := by
  refine con_s Tryz.func45 (by kernel_rfl) fun cx hcx => ?_
  let t0 : List (St Tryz.prog) := [.u 200, .T, .i 0 2 (by decide), .c [] (C56 a0.1)]
  cases h0 : (!(F56 a0.1)) with
  | true =>
   have e := Eq.refl (F45_2 a0); conv at e => rhs; simp only [F45_2, h0, cond_true, cond_false]
   rw [e]
   exact rt (t0 ++ [.d h0]) [] [] hcx (by kernel_rfl)
  | false =>
   let t1 : List (St Tryz.prog) := (t0 ++ [.d h0, .u 0, .T, .i 1 2 (by decide), .c [] (C56 a0.2)])
   cases h1 : (!(F56 a0.2)) with
   | true =>
    have e := Eq.refl (F45_2 a0); conv at e => rhs; simp only [F45_2, h0, h1, cond_true, cond_false]
    rw [e]
    exact rt (t1 ++ [.d h1]) [] [] hcx (by kernel_rfl)
   | false =>
    have e := Eq.refl (F45_2 a0); conv at e => rhs; simp only [F45_2, h0, h1, cond_true, cond_false]
    rw [e]
    exact rt (t1 ++ [.d h1, .u 0, .F]) [] [] hcx (by kernel_rfl)

def F35 (a0 : Int × Int) (a1 : Int × Int) : (Int × Int) × Bool × Int :=
  (bif (((F45_2 (a0, a1)) : Int) != 0) then
   ((0, 0), false, (F45_2 (a0, a1)))
  else
   (bif (decide (((if (a0.1 : Int) < a1.1 then a1.1 else a0.1) : Int) > (if (a1.2 : Int) < a0.2 then a1.2 else a0.2))) then
    ((0, 0), false, 0)
   else
    (((if (a0.1 : Int) < a1.1 then a1.1 else a0.1), (if (a1.2 : Int) < a0.2 then a1.2 else a0.2)), true, 0)))

theorem C35 (a0 : Int × Int) (a1 : Int × Int) : Con Tryz.prog 35 [(.a [(iv a0.1), (iv a0.2)]), (.a [(iv a1.1), (iv a1.2)])] [] (.t [(.a (k2 (F35 a0 a1).1)), (.v (.bool (F35 a0 a1).2.1)), (iv (F35 a0 a1).2.2)]) [] := by
  refine con_s Tryz.func35 (by kernel_rfl) fun cx hcx => ?_
  let t0 : List (St Tryz.prog) := [.c [3] (C45_2 (a0, a1))]
  cases h0 : (((F45_2 (a0, a1)) : Int) != 0) with
  | true =>
   have q0 := bne_iff_ne.1 h0
   have e := Eq.refl (F35 a0 a1); conv at e => rhs; simp only [F35, h0, cond_true, cond_false]
   rw [e]
   exact rt (t0 ++ [.d h0]) [] [] hcx (by kernel_rfl)
  | false =>
   have q0 := bne_eq_false_iff_eq.1 h0
   let t1 : List (St Tryz.prog) := (t0 ++ [.d h0])
   cases h1 : (decide (((if (a0.1 : Int) < a1.1 then a1.1 else a0.1) : Int) > (if (a1.2 : Int) < a0.2 then a1.2 else a0.2))) with
   | true =>
    have q1 := of_decide_eq_true h1
    have e := Eq.refl (F35 a0 a1); conv at e => rhs; simp only [F35, h0, h1, cond_true, cond_false]
    rw [e]
    exact rt (t1 ++ [.d h1]) [] [] hcx (by kernel_rfl)
   | false =>
    have q1 := of_decide_eq_false h1
    have e := Eq.refl (F35 a0 a1); conv at e => rhs; simp only [F35, h0, h1, cond_true, cond_false]
    rw [e]
    exact rt (t1 ++ [.d h1]) [] [] hcx (by kernel_rfl)

def F47 (a0 : Int) (a1 : Int) : Int :=
  (bif ((a0 : Int) != 0) then
   (bif ((a1 : Int) != 0) then
    (bif (decide (((if (a1 : Int) < (W (0 - a1)) then (W (0 - a1)) else a1) : Int) > (W (Int.tdiv 1099511627776 (if (a0 : Int) < (W (0 - a0)) then (W (0 - a0)) else a0))))) then
     (bif (!((decide ((a0 : Int) < 0)) == (decide ((a1 : Int) < 0)))) then
      (-1099511627777)
     else
      1099511627777)
    else
     (W (a0 * a1)))
   else
    (W (a0 * a1)))
  else
   (W (a0 * a1)))

theorem C47 (a0 : Int) (a1 : Int) (ha : -1099511627776 ≤ a0 ∧ a0 ≤ 1099511627776) : Con Tryz.prog 47 [(iv a0), (iv a1)] [] (iv (F47 a0 a1)) [] := by
  refine con_s Tryz.func47 (by kernel_rfl) fun cx hcx => ?_
  cases h0 : ((a0 : Int) != 0) with
  | true =>
   have q0 := bne_iff_ne.1 h0
   let t1 : List (St Tryz.prog) := [.d h0]
   cases h1 : ((a1 : Int) != 0) with
   | true =>
    have q1 := bne_iff_ne.1 h1
    let t2 : List (St Tryz.prog) := (t1 ++ [.d h1, .p (show ((if (a0 : Int) < (W (0 - a0)) then (W (0 - a0)) else a0) : Int) ≠ 0 from by (have hw := W_eq (n := 0 - a0) (by omega) (by omega); rw [hw]; split <;> omega))])
    cases h2 : (decide (((if (a1 : Int) < (W (0 - a1)) then (W (0 - a1)) else a1) : Int) > (W (Int.tdiv 1099511627776 (if (a0 : Int) < (W (0 - a0)) then (W (0 - a0)) else a0))))) with
    | true =>
     have q2 := of_decide_eq_true h2
     let t3 : List (St Tryz.prog) := (t2 ++ [.d h2])
     cases h3 : (!((decide ((a0 : Int) < 0)) == (decide ((a1 : Int) < 0)))) with
     | true =>
      have e := Eq.refl (F47 a0 a1); conv at e => rhs; simp only [F47, h0, h1, h2, h3, cond_true, cond_false]
      rw [e]
      exact rt (t3 ++ [.d h3]) [] [] hcx (by kernel_rfl)
     | false =>
      have e := Eq.refl (F47 a0 a1); conv at e => rhs; simp only [F47, h0, h1, h2, h3, cond_true, cond_false]
      rw [e]
      exact rt (t3 ++ [.d h3]) [] [] hcx (by kernel_rfl)
    | false =>
     have q2 := of_decide_eq_false h2
     have e := Eq.refl (F47 a0 a1); conv at e => rhs; simp only [F47, h0, h1, h2, cond_true, cond_false]
     rw [e]
     exact rt (t2 ++ [.d h2]) [] [] hcx (by kernel_rfl)
   | false =>
    have q1 := bne_eq_false_iff_eq.1 h1
    have e := Eq.refl (F47 a0 a1); conv at e => rhs; simp only [F47, h0, h1, cond_true, cond_false]
    rw [e]
    exact rt (t1 ++ [.d h1]) [] [] hcx (by kernel_rfl)
  | false =>
   have q0 := bne_eq_false_iff_eq.1 h0
   have e := Eq.refl (F47 a0 a1); conv at e => rhs; simp only [F47, h0, cond_true, cond_false]
   rw [e]
   exact rt [.d h0] [] [] hcx (by kernel_rfl)

end Go.Proofs.YtcnnmgooolnebaaGreat

namespace Go.Proofs.YtcnnmgooolnebaaGreat
open Go.Proofs Go.Aw Go.RowKit
set_option maxRecDepth 100000
set_option linter.unusedVariables false
set_option linter.unusedSimpArgs false

def F133 (a0 : Int × Int × Int) (a1 : Int × Int × Int) : Int × Int × Int :=
  ((W (a0.1 - a1.1)), (W (a0.2.1 - a1.2.1)), (W (a0.2.2 - a1.2.2)))

theorem C133 (a0 : Int × Int × Int) (a1 : Int × Int × Int) : Con Tryz.prog 133 [(.a (k3 a0)), (.a (k3 a1))] [] (.a (k3 (F133 a0 a1))) [] := by
  refine con_s Tryz.func133 (by kernel_rfl) fun cx hcx => ?_
  have e := Eq.refl (F133 a0 a1); conv at e => rhs; simp only [F133]
  rw [e]
  exact rt [] [] [] hcx (by kernel_rfl)

def F132 (a0 : Int × Int × Int) (a1 : Int × Int × Int) : Int × Int × Int :=
  ((W ((W (a0.2.1 * a1.2.2)) - (W (a0.2.2 * a1.2.1)))), (W ((W (a0.2.2 * a1.1)) - (W (a0.1 * a1.2.2)))), (W ((W (a0.1 * a1.2.1)) - (W (a0.2.1 * a1.1)))))

theorem C132 (a0 : Int × Int × Int) (a1 : Int × Int × Int) : Con Tryz.prog 132 [(.a (k3 a0)), (.a (k3 a1))] [] (.a (k3 (F132 a0 a1))) [] := by
  refine con_s Tryz.func132 (by kernel_rfl) fun cx hcx => ?_
  have e := Eq.refl (F132 a0 a1); conv at e => rhs; simp only [F132]
  rw [e]
  exact rt [] [] [] hcx (by kernel_rfl)

def F120 (a0 : (Int × Int × Int) × (Int × Int × Int) × Int × Int × Int) : Int × Int × Int :=
  (F132 (F133 a0.2.1 a0.1) (F133 a0.2.2 a0.1))

theorem C120 (a0 : (Int × Int × Int) × (Int × Int × Int) × Int × Int × Int) : Con Tryz.prog 120 [(.a (k9 a0))] [] (.a (k3 (F120 a0))) [] := by
  refine con_s Tryz.func120 (by kernel_rfl) fun cx hcx => ?_
  have e := Eq.refl (F120 a0); conv at e => rhs; simp only [F120]
  rw [e]
  exact rt [.c [] (C133 a0.2.1 a0.1), .c [] (C133 a0.2.2 a0.1), .c [] (C132 (F133 a0.2.1 a0.1) (F133 a0.2.2 a0.1))] [] [] hcx (by kernel_rfl)

def F131 (a0 : Int) (a1 : Int) (a2 : Int) : Bool :=
  (bif (decide ((a0 : Int) ≥ a1)) then
   (decide ((a0 : Int) ≤ a2))
  else
   false)

theorem C131 (a0 : Int) (a1 : Int) (a2 : Int) : Con Tryz.prog 131 [(iv a0), (iv a1), (iv a2)] [] (.v (.bool (F131 a0 a1 a2))) [] := by
  refine con_s Tryz.func131 (by kernel_rfl) fun cx hcx => ?_
  cases h0 : (decide ((a0 : Int) ≥ a1)) with
  | true =>
   have q0 := of_decide_eq_true h0
   have e := Eq.refl (F131 a0 a1 a2); conv at e => rhs; simp only [F131, h0, cond_true, cond_false]
   rw [e]
   exact rt [.d h0] [] [] hcx (by kernel_rfl)
  | false =>
   have q0 := of_decide_eq_false h0
   have e := Eq.refl (F131 a0 a1 a2); conv at e => rhs; simp only [F131, h0, cond_true, cond_false]
   rw [e]
   exact rt [.d h0] [] [] hcx (by kernel_rfl)

def F119 (a0 : Int × Int × Int) (a1 : Int) : Bool :=
  (bif (F131 a0.1 (W (0 - a1)) a1) then
   (bif (F131 a0.2.1 (W (0 - a1)) a1) then
    (F131 a0.2.2 (W (0 - a1)) a1)
   else
    false)
  else
   false)

theorem C119 (a0 : Int × Int × Int) (a1 : Int) : Con Tryz.prog 119 [(.a (k3 a0)), (iv a1)] [] (.v (.bool (F119 a0 a1))) [] := by
  refine con_s Tryz.func119 (by kernel_rfl) fun cx hcx => ?_
  let t0 : List (St Tryz.prog) := [.c [] (C131 a0.1 (W (0 - a1)) a1)]
  cases h0 : (F131 a0.1 (W (0 - a1)) a1) with
  | true =>
   let t1 : List (St Tryz.prog) := (t0 ++ [.d h0, .c [] (C131 a0.2.1 (W (0 - a1)) a1)])
   cases h1 : (F131 a0.2.1 (W (0 - a1)) a1) with
   | true =>
    have e := Eq.refl (F119 a0 a1); conv at e => rhs; simp only [F119, h0, h1, cond_true, cond_false]
    rw [e]
    exact rt (t1 ++ [.d h1, .c [] (C131 a0.2.2 (W (0 - a1)) a1)]) [] [] hcx (by kernel_rfl)
   | false =>
    have e := Eq.refl (F119 a0 a1); conv at e => rhs; simp only [F119, h0, h1, cond_true, cond_false]
    rw [e]
    exact rt (t1 ++ [.d h1]) [] [] hcx (by kernel_rfl)
  | false =>
   have e := Eq.refl (F119 a0 a1); conv at e => rhs; simp only [F119, h0, cond_true, cond_false]
   rw [e]
   exact rt (t0 ++ [.d h0]) [] [] hcx (by kernel_rfl)

def F86 (a0 : (Int × Int × Int) × (Int × Int × Int) × Int × Int × Int) : Int :=
  (bif (!(F119 a0.1 64)) then
   1
  else
   (bif (!(F119 a0.2.1 64)) then
    1
   else
    (bif (!(F119 a0.2.2 64)) then
     1
    else
     (bif ((((F120 a0).1 : Int) == 0) && ((((F120 a0).2.1 : Int) == 0) && ((((F120 a0).2.2 : Int) == 0) && true))) then
      6
     else
      0))))

theorem C86 (a0 : (Int × Int × Int) × (Int × Int × Int) × Int × Int × Int) : Con Tryz.prog 86 [(.a (k9 a0))] [] (iv (F86 a0)) [] := by
  refine con_s Tryz.func86 (by kernel_rfl) fun cx hcx => ?_
  let t0 : List (St Tryz.prog) := [.c [] (C119 a0.1 64)]
  cases h0 : (!(F119 a0.1 64)) with
  | true =>
   have e := Eq.refl (F86 a0); conv at e => rhs; simp only [F86, h0, cond_true, cond_false]
   rw [e]
   exact rt (t0 ++ [.d h0]) [] [] hcx (by kernel_rfl)
  | false =>
   let t1 : List (St Tryz.prog) := (t0 ++ [.d h0, .c [] (C119 a0.2.1 64)])
   cases h1 : (!(F119 a0.2.1 64)) with
   | true =>
    have e := Eq.refl (F86 a0); conv at e => rhs; simp only [F86, h0, h1, cond_true, cond_false]
    rw [e]
    exact rt (t1 ++ [.d h1]) [] [] hcx (by kernel_rfl)
   | false =>
    let t2 : List (St Tryz.prog) := (t1 ++ [.d h1, .c [] (C119 a0.2.2 64)])
    cases h2 : (!(F119 a0.2.2 64)) with
    | true =>
     have e := Eq.refl (F86 a0); conv at e => rhs; simp only [F86, h0, h1, h2, cond_true, cond_false]
     rw [e]
     exact rt (t2 ++ [.d h2]) [] [] hcx (by kernel_rfl)
    | false =>
     let t3 : List (St Tryz.prog) := (t2 ++ [.d h2, .c [] (C120 a0)])
     cases h3 : ((((F120 a0).1 : Int) == 0) && ((((F120 a0).2.1 : Int) == 0) && ((((F120 a0).2.2 : Int) == 0) && true))) with
     | true =>
      have e := Eq.refl (F86 a0); conv at e => rhs; simp only [F86, h0, h1, h2, h3, cond_true, cond_false]
      rw [e]
      exact rt (t3 ++ [.d h3]) [] [] hcx (by kernel_rfl)
     | false =>
      have e := Eq.refl (F86 a0); conv at e => rhs; simp only [F86, h0, h1, h2, h3, cond_true, cond_false]
      rw [e]
      exact rt (t3 ++ [.d h3]) [] [] hcx (by kernel_rfl)

end Go.Proofs.YtcnnmgooolnebaaGreat

namespace Go.Proofs.YtcnnmgooolnebaaGreat
open Go.Proofs Go.Aw Go.RowKit
set_option maxRecDepth 100000
set_option linter.unusedVariables false
set_option linter.unusedSimpArgs false

/-! ### Roots -/
theorem sq_unique {n a b : Int} (ha : 0 ≤ a) (hb : 0 ≤ b) (h1 : a * a ≤ n) (h2 : n < (a + 1) * (a + 1)) (h3 : b * b ≤ n) (h4 : n < (b + 1) * (b + 1)) : a = b := by
  rcases Int.lt_trichotomy a b with h | h | h
  · have : (a + 1) * (a + 1) ≤ b * b := Int.mul_le_mul (by omega) (by omega) (by omega) hb
    omega
  · exact h
  · have : (b + 1) * (b + 1) ≤ a * a := Int.mul_le_mul (by omega) (by omega) (by omega) ha
    omega
def IsRt (n r : Int) : Prop := 0 ≤ r ∧ r * r ≤ n ∧ n < (r + 1) * (r + 1)
theorem IsRt.eq {n a b : Int} (h : IsRt n a) (h' : IsRt n b) : a = b := sq_unique h.1 h'.1 h.2.1 h.2.2 h'.2.1 h'.2.2
theorem IsRt.le {n r m : Int} (h : IsRt n r) (hm : 0 ≤ m) (hn : n < (m + 1) * (m + 1)) : r ≤ m := by
  rcases Int.lt_or_le m r with hlt | hle
  · have : (m + 1) * (m + 1) ≤ r * r := Int.mul_le_mul (by omega) (by omega) (by omega) h.1
    have := h.2.1; omega
  · exact hle
theorem IsRt.ge {n r m : Int} (h : IsRt n r) (hm : 0 ≤ m) (hn : m * m ≤ n) : m ≤ r := by
  rcases Int.lt_or_le r m with hlt | hle
  · have : (r + 1) * (r + 1) ≤ m * m := Int.mul_le_mul (by omega) (by omega) (by have := h.1; omega) hm
    have := h.2.2; omega
  · exact hle
theorem IsRt.mono {n m a b : Int} (h : IsRt n a) (h' : IsRt m b) (hnm : n ≤ m) : a ≤ b := h'.ge h.1 (Int.le_trans h.2.1 hnm)

theorem bits_spec {n : Int} {S : Int × Int → (Int × Int) ⊕ Int} (hS : ∀ k b, 0 ≤ k → 0 < b → k + b ≤ 2147483648 → S (k, b) = if (k + b) * (k + b) ≤ n then .inl (k + b, b / 2) else .inl (k, b / 2)) (h0 : ∀ k, S (k, 0) = .inr k) :
    ∀ (j f : Nat) (k : Int), j + 2 ≤ f → 0 ≤ k → k + 2 * 2 ^ j ≤ 2147483648 → k * k ≤ n → n < (k + 2 * 2 ^ j) * (k + 2 * 2 ^ j) → IsRt n (loopF S f (k, 2 ^ j)) := by
  intro j
  induction j with
  | zero =>
    intro f k hf hk hb h1 h2
    obtain ⟨f, rfl⟩ : ∃ g, f = g + 2 := ⟨f - 2, by omega⟩
    simp only [Int.pow_zero] at h2 hb ⊢
    have hs := hS k 1 hk (by omega) (by omega)
    by_cases hc : (k + 1) * (k + 1) ≤ n
    · rw [if_pos hc] at hs
      rw [loopF_inl hs, show ((1 : Int) / 2) = 0 by omega, loopF_inr (h0 _)]
      refine ⟨by omega, hc, ?_⟩
      rw [show k + 1 + 1 = k + 2 * 1 by omega]; exact h2
    · rw [if_neg hc] at hs
      rw [loopF_inl hs, show ((1 : Int) / 2) = 0 by omega, loopF_inr (h0 _)]
      exact ⟨hk, h1, by omega⟩
  | succ j ih =>
    intro f k hf hk hb h1 h2
    obtain ⟨f, rfl⟩ : ∃ g, f = g + 1 := ⟨f - 1, by omega⟩
    have hp : (0 : Int) < 2 ^ j := Int.pow_pos (by omega)
    rw [Int.pow_succ] at h2 hb ⊢
    have hs := hS k (2 ^ j * 2) hk (by omega) (by omega)
    have hd : (2 : Int) ^ j * 2 / 2 = 2 ^ j := Int.mul_ediv_cancel _ (by omega)
    rw [hd] at hs
    by_cases hc : (k + 2 ^ j * 2) * (k + 2 ^ j * 2) ≤ n
    · rw [if_pos hc] at hs
      rw [loopF_inl hs]
      refine ih f _ (by omega) (by omega) (by omega) hc ?_
      rw [show k + 2 ^ j * 2 + 2 * 2 ^ j = k + 2 * ((2 : Int) ^ j * 2) by omega]; exact h2
    · rw [if_neg hc] at hs
      rw [loopF_inl hs]
      refine ih f _ (by omega) hk (by omega) h1 ?_
      rw [show k + 2 * (2 : Int) ^ j = k + 2 ^ j * 2 by omega]; omega

theorem sq_bd {a : Int} (h : 0 ≤ a) (h' : a ≤ 2147483648) : 0 ≤ a * a ∧ a * a ≤ 4611686018427387904 := ⟨Int.mul_nonneg h h, Int.le_trans (Int.mul_le_mul h' h' h (by omega)) (by omega)⟩

theorem rtSpan {n : Int} (h0 : 0 ≤ n) (h : n < 4611686018427387904) : IsRt n (F115 n) := by
  unfold F115
  rw [show decide ((4611686018427387904 : Int) ≤ n) = false by simpa using h]
  simp only [cond_false]
  refine bits_spec (n := n) (fun k b hk hb hkb => ?_) (fun k => ?_) 30 _ 0 (by decide) (by omega) (by decide) (by omega) (by simpa using h)
  · have h2 : ((b : Int) == 0) = false := by rw [beq_eq_false_iff_ne]; omega
    have hw : W (k + b) = k + b := W_eq (by omega) (by omega)
    have hq := sq_bd (a := k + b) (by omega) hkb
    have hw2 : W ((k + b) * (k + b)) = (k + b) * (k + b) := W_eq (by omega) (by omega)
    simp only [S115_0, h2, cond_false, hw, hw2]
    by_cases hc : (k + b) * (k + b) ≤ n <;> simp [hc]
  · simp [S115_0]

/-! ### Points, in whole numbers -/
abbrev P3 := Int × Int × Int
abbrev PN := P3 × P3 × P3
def bd (m : Int) (p : P3) : Prop := (-m ≤ p.1 ∧ p.1 ≤ m) ∧ (-m ≤ p.2.1 ∧ p.2.1 ≤ m) ∧ (-m ≤ p.2.2 ∧ p.2.2 ≤ m)
def bdP (m : Int) (p : PN) : Prop := bd m p.1 ∧ bd m p.2.1 ∧ bd m p.2.2
def sb (p q : P3) : P3 := (p.1 - q.1, p.2.1 - q.2.1, p.2.2 - q.2.2)
def dt (p q : P3) : Int := p.1 * q.1 + p.2.1 * q.2.1 + p.2.2 * q.2.2
def cr (p q : P3) : P3 := (p.2.1 * q.2.2 - p.2.2 * q.2.1, p.2.2 * q.1 - p.1 * q.2.2, p.1 * q.2.1 - p.2.1 * q.1)
def nrm (p : PN) : P3 := cr (sb p.2.1 p.1) (sb p.2.2 p.1)

theorem mul_bd {a b x y : Int} (hx : -a ≤ x ∧ x ≤ a) (hy : -b ≤ y ∧ y ≤ b) : -(a * b) ≤ x * y ∧ x * y ≤ a * b := by
  have h1 := Int.mul_nonneg (show 0 ≤ a - x by omega) (show 0 ≤ b - y by omega)
  have h2 := Int.mul_nonneg (show 0 ≤ a + x by omega) (show 0 ≤ b + y by omega)
  have h3 := Int.mul_nonneg (show 0 ≤ a - x by omega) (show 0 ≤ b + y by omega)
  have h4 := Int.mul_nonneg (show 0 ≤ a + x by omega) (show 0 ≤ b - y by omega)
  rw [Int.sub_mul, Int.mul_sub, Int.mul_sub] at h1
  rw [Int.add_mul, Int.mul_add, Int.mul_add] at h2
  rw [Int.sub_mul, Int.mul_add, Int.mul_add] at h3
  rw [Int.add_mul, Int.mul_sub, Int.mul_sub] at h4
  omega

theorem bd_sb {a b : Int} {p q : P3} (hp : bd a p) (hq : bd b q) : bd (a + b) (sb p q) := by
  unfold bd at *; simp only [sb]; omega
theorem sq_nn (x : Int) : 0 ≤ x * x := by
  rcases Int.le_total 0 x with h | h
  · exact Int.mul_nonneg h h
  · exact Int.mul_nonneg_of_nonpos_of_nonpos h h
theorem dt_self (p : P3) : 0 ≤ dt p p := by
  have := sq_nn p.1; have := sq_nn p.2.1; have := sq_nn p.2.2
  simp only [dt]; omega
theorem dt_pos {p : P3} (h : ¬ (p.1 = 0 ∧ p.2.1 = 0 ∧ p.2.2 = 0)) : 1 ≤ dt p p := by
  have := sq_nn p.1; have := sq_nn p.2.1; have := sq_nn p.2.2
  have key : ∀ x : Int, x ≠ 0 → 1 ≤ x * x := fun x hx => by
    have h0 := sq_nn x
    have : x * x ≠ 0 := Int.mul_ne_zero hx hx
    omega
  simp only [dt]
  by_cases h1 : p.1 = 0
  · by_cases h2 : p.2.1 = 0
    · have := key p.2.2 (fun h3 => h ⟨h1, h2, h3⟩); omega
    · have := key _ h2; omega
  · have := key _ h1; omega
theorem dt_bd {a : Int} {p q : P3} (hp : bd a p) (hq : bd a q) : -(3 * (a * a)) ≤ dt p q ∧ dt p q ≤ 3 * (a * a) := by
  have := mul_bd hp.1 hq.1; have := mul_bd hp.2.1 hq.2.1; have := mul_bd hp.2.2 hq.2.2
  simp only [dt]; omega
theorem W0 {n : Int} (h : -9223372036854775808 ≤ n ∧ n < 9223372036854775808) : W n = n := W_eq h.1 h.2
theorem fsb {p q : P3} (hp : bd 100000 p) (hq : bd 100000 q) : F113 p q = sb p q := by
  unfold bd at *; simp only [F113, sb]
  rw [W_eq (by omega) (by omega), W_eq (by omega) (by omega), W_eq (by omega) (by omega)]
theorem fdt {p q : P3} (hp : bd 1000000000 p) (hq : bd 1000000000 q) : F112 p q = dt p q := by
  have h1 := mul_bd hp.1 hq.1; have h2 := mul_bd hp.2.1 hq.2.1; have h3 := mul_bd hp.2.2 hq.2.2
  simp only [F112, F129_3, dt]
  rw [W_eq (n := p.1 * q.1) (by omega) (by omega), W_eq (n := p.2.1 * q.2.1) (by omega) (by omega), W_eq (n := p.2.2 * q.2.2) (by omega) (by omega), Int.zero_add, W_eq (n := p.1 * q.1) (by omega) (by omega), W_eq (n := p.1 * q.1 + p.2.1 * q.2.1) (by omega) (by omega), W_eq (by omega) (by omega)]
theorem rsb {p q : P3} (hp : bd 100000 p) (hq : bd 100000 q) : F133 p q = sb p q := by
  unfold bd at *; simp only [F133, sb]
  rw [W_eq (by omega) (by omega), W_eq (by omega) (by omega), W_eq (by omega) (by omega)]
theorem cr_W {p q : P3} (hp : bd 1000000000 p) (hq : bd 1000000000 q) :
    ((W ((W (p.2.1 * q.2.2)) - (W (p.2.2 * q.2.1)))), (W ((W (p.2.2 * q.1)) - (W (p.1 * q.2.2)))), (W ((W (p.1 * q.2.1)) - (W (p.2.1 * q.1))))) = cr p q := by
  have h1 := mul_bd hp.2.1 hq.2.2; have h2 := mul_bd hp.2.2 hq.2.1; have h3 := mul_bd hp.2.2 hq.1; have h4 := mul_bd hp.1 hq.2.2; have h5 := mul_bd hp.1 hq.2.1; have h6 := mul_bd hp.2.1 hq.1
  simp only [cr]
  rw [W_eq (n := p.2.1 * q.2.2) (by omega) (by omega), W_eq (n := p.2.2 * q.2.1) (by omega) (by omega), W_eq (n := p.2.2 * q.1) (by omega) (by omega), W_eq (n := p.1 * q.2.2) (by omega) (by omega), W_eq (n := p.1 * q.2.1) (by omega) (by omega), W_eq (n := p.2.1 * q.1) (by omega) (by omega),
    W_eq (by omega) (by omega), W_eq (by omega) (by omega), W_eq (by omega) (by omega)]
theorem scr {p q : P3} (hp : bd 1000000000 p) (hq : bd 1000000000 q) : F127 p q = cr p q := cr_W hp hq
theorem rcr {p q : P3} (hp : bd 1000000000 p) (hq : bd 1000000000 q) : F132 p q = cr p q := cr_W hp hq
theorem ssb {p q : P3} (hp : bd 100000 p) (hq : bd 100000 q) : F128 p q = sb p q := by
  unfold bd at *; simp only [F128, F135, sb]
  rw [W_eq (n := -1 * q.1) (by omega) (by omega), W_eq (n := -1 * q.2.1) (by omega) (by omega), W_eq (n := -1 * q.2.2) (by omega) (by omega), W_eq (by omega) (by omega), W_eq (by omega) (by omega), W_eq (by omega) (by omega)]
  refine Prod.ext (by simp only; omega) (Prod.ext (by simp only; omega) (by simp only; omega))
theorem bd.mono {a b : Int} {p : P3} (h : bd a p) (hab : a ≤ b) : bd b p := by unfold bd at *; omega
theorem bdP.mono {a b : Int} {p : PN} (h : bdP a p) (hab : a ≤ b) : bdP b p := ⟨h.1.mono hab, h.2.1.mono hab, h.2.2.mono hab⟩

/-! ### Valid panels -/
theorem within_eq (n a b : Int) : F75 n a b = decide (a ≤ n ∧ n ≤ b) := by
  unfold F75
  by_cases h1 : n ≥ a <;> by_cases h2 : n ≤ b <;> simp [h1, h2] <;> omega
theorem within_eq2 (n a b : Int) : F131 n a b = decide (a ≤ n ∧ n ≤ b) := by
  unfold F131
  by_cases h1 : n ≥ a <;> by_cases h2 : n ≤ b <;> simp [h1, h2] <;> omega
theorem from_eq (n a b : Int) : F126 n a b = decide (a ≤ n ∧ n ≤ b) := by
  unfold F126
  by_cases h1 : a ≤ n <;> by_cases h2 : n ≤ b <;> simp [h1, h2]
theorem and3 {a b c d : Prop} [Decidable a] [Decidable b] [Decidable c] [Decidable d] (h : (a ∧ b ∧ c) ↔ d) : (bif decide a then (bif decide b then decide c else false) else false) = decide d := by
  by_cases h1 : a
  · by_cases h2 : b
    · rw [decide_eq_true h1, decide_eq_true h2, cond_true, cond_true]
      by_cases h3 : c
      · rw [decide_eq_true h3, decide_eq_true (h.1 ⟨h1, h2, h3⟩)]
      · rw [decide_eq_false h3, decide_eq_false (fun hd => h3 (h.2 hd).2.2)]
    · rw [decide_eq_true h1, decide_eq_false h2, cond_true, cond_false, decide_eq_false (fun hd => h2 (h.2 hd).2.1)]
  · rw [decide_eq_false h1, cond_false, decide_eq_false (fun hd => h1 (h.2 hd).1)]
theorem eq3 (x y z a b : Int) : (bif (((x : Int) == 0) && (((y : Int) == 0) && (((z : Int) == 0) && true))) then a else b) = if x = 0 ∧ y = 0 ∧ z = 0 then a else b := by
  have key : ∀ t : Int, (t == 0) = decide (t = 0) := fun t => by
    by_cases h : t = 0
    · rw [decide_eq_true h]; simpa using h
    · rw [decide_eq_false h]; simpa using h
  rw [key, key, key, Bool.and_true, ← Bool.decide_and, ← Bool.decide_and]
  by_cases h : x = 0 ∧ y = 0 ∧ z = 0
  · rw [if_pos h, decide_eq_true h, cond_true]
  · rw [if_neg h, decide_eq_false h, cond_false]
open Classical in
theorem inRange_eq (p : P3) : F103 p 64 = decide (bd 64 p) := by
  unfold F103
  rw [from_eq, from_eq, from_eq, W_eq (by omega) (by omega)]
  exact and3 (by unfold bd; omega)
open Classical in
theorem near02_eq (p : P3) : F119 p 64 = decide (bd 64 p) := by
  unfold F119
  rw [within_eq2, within_eq2, within_eq2, W_eq (by omega) (by omega)]
  exact and3 (by unfold bd; omega)
open Classical in
noncomputable def vp (p : PN) : Int := if bdP 64 p then (if (nrm p).1 = 0 ∧ (nrm p).2.1 = 0 ∧ (nrm p).2.2 = 0 then 6 else 0) else 1
theorem nrm_s {p : PN} (h : bdP 64 p) : F104 p = nrm p := by
  have h1 := h.1.mono (show (64 : Int) ≤ 100000 by omega); have h2 := h.2.1.mono (show (64 : Int) ≤ 100000 by omega); have h3 := h.2.2.mono (show (64 : Int) ≤ 100000 by omega)
  unfold F104 nrm
  rw [ssb h2 h1, ssb h3 h1]
  exact scr ((bd_sb h.2.1 h.1).mono (by omega)) ((bd_sb h.2.2 h.1).mono (by omega))
theorem nrm_r {p : PN} (h : bdP 64 p) : F120 p = nrm p := by
  have h1 := h.1.mono (show (64 : Int) ≤ 100000 by omega); have h2 := h.2.1.mono (show (64 : Int) ≤ 100000 by omega); have h3 := h.2.2.mono (show (64 : Int) ≤ 100000 by omega)
  unfold F120 nrm
  rw [rsb h2 h1, rsb h3 h1]
  exact rcr ((bd_sb h.2.1 h.1).mono (by omega)) ((bd_sb h.2.2 h.1).mono (by omega))
theorem vp_s (p : PN) : F71 p = vp p := by
  unfold F71 vp
  rw [inRange_eq, inRange_eq, inRange_eq]
  by_cases h1 : bd 64 p.1
  · by_cases h2 : bd 64 p.2.1
    · by_cases h3 : bd 64 p.2.2
      · have hb : bdP 64 p := ⟨h1, h2, h3⟩
        rw [nrm_s hb, if_pos hb]
        rw [eq3]; simp [h1, h2, h3]
      · simp [h1, h2, h3, bdP]
    · simp [h1, h2, bdP]
  · simp [h1, bdP]
theorem vp_r (p : PN) : F86 p = vp p := by
  unfold F86 vp
  rw [near02_eq, near02_eq, near02_eq]
  by_cases h1 : bd 64 p.1
  · by_cases h2 : bd 64 p.2.1
    · by_cases h3 : bd 64 p.2.2
      · have hb : bdP 64 p := ⟨h1, h2, h3⟩
        rw [nrm_r hb, if_pos hb]
        rw [eq3]; simp [h1, h2, h3]
      · simp [h1, h2, h3, bdP]
    · simp [h1, h2, bdP]
  · simp [h1, bdP]
theorem vp_ok {p : PN} (h : vp p = 0) : bdP 64 p ∧ 1 ≤ dt (nrm p) (nrm p) := by
  unfold vp at h
  split at h
  · rename_i hb
    split at h
    · cases h
    · rename_i hn; exact ⟨hb, dt_pos hn⟩
  · cases h
end Go.Proofs.YtcnnmgooolnebaaGreat

namespace Go.Proofs.YtcnnmgooolnebaaGreat
open Go.Proofs Go.Aw Go.RowKit
set_option maxRecDepth 100000
set_option linter.unusedVariables false
set_option linter.unusedSimpArgs false

/-! ### The reference's list of parts -/
/-! ### It is the program's -/
def quad (x : PN) : List PN := [q1 x, q2 x, q3 x, q4 x]
theorem times_f {p : P3} (h : bd 100000 p) : F76 p 2 = (2 * p.1, 2 * p.2.1, 2 * p.2.2) := by
  unfold bd at h; simp only [F76]; rw [W_eq (by omega) (by omega), W_eq (by omega) (by omega), W_eq (by omega) (by omega)]
theorem mid_f {p q : P3} (hp : bd 100000 p) (hq : bd 100000 q) : F109 p q = (p.1 + q.1, p.2.1 + q.2.1, p.2.2 + q.2.2) := by
  unfold bd at hp hq; simp only [F109]; rw [W_eq (by omega) (by omega), W_eq (by omega) (by omega), W_eq (by omega) (by omega)]
theorem quad_bd {m : Int} {x y : PN} (h : bdP m x) (hm : m ≤ 100000) (hy : y ∈ quad x) : bdP (2 * m) y := by
  have h1 := h.1.mono hm; have h2 := h.2.1.mono hm; have h3 := h.2.2.mono hm
  unfold quad q1 q2 q3 q4 at hy
  rw [mid_f h1 h2, mid_f h3 h1, mid_f h2 h3, times_f h1, times_f h2, times_f h3] at hy
  have ha := h.1; have hb := h.2.1; have hc := h.2.2
  unfold bd at ha hb hc
  simp only [List.mem_cons, List.mem_nil_iff, or_false] at hy
  unfold bdP bd
  rcases hy with rfl | rfl | rfl | rfl <;> simp only <;> omega
theorem cutL_quad : ∀ (d : Nat) (p : PN), cutL (d + 1) p = (cutL d p).flatMap quad
  | 0, p => by simp [cutL, quad]
  | d + 1, p => by
    rw [show cutL (d + 1 + 1) p = cutL (d + 1) (q1 p) ++ (cutL (d + 1) (q2 p) ++ (cutL (d + 1) (q3 p) ++ cutL (d + 1) (q4 p))) from rfl]
    rw [cutL_quad d (q1 p), cutL_quad d (q2 p), cutL_quad d (q3 p), cutL_quad d (q4 p)]
    simp only [cutL, List.flatMap_append]
theorem cutL_bd : ∀ (d : Nat) {m : Int} {p x : PN}, bdP m p → m * 2 ^ d ≤ 100000 → 0 ≤ m → x ∈ cutL d p → bdP (m * 2 ^ d) x
  | 0, m, p, x, h, _, _, hx => by simp [cutL] at hx; subst hx; simpa using h
  | d + 1, m, p, x, h, hm, h0, hx => by
    rw [cutL_quad, List.mem_flatMap] at hx
    obtain ⟨y, hy, hx⟩ := hx
    have hp : (0 : Int) < 2 ^ d := Int.pow_pos (by omega)
    have hle : m * 2 ^ d ≤ m * 2 ^ (d + 1) := Int.mul_le_mul_of_nonneg_left (by rw [Int.pow_succ]; omega) h0
    have := quad_bd (cutL_bd d h (by omega) h0 hy) (by omega) hx
    rw [Int.pow_succ, ← Int.mul_assoc, Int.mul_comm]; exact this
end Go.Proofs.YtcnnmgooolnebaaGreat

namespace Go.Proofs.YtcnnmgooolnebaaGreat
open Go.Proofs Go.Aw Go.RowKit
set_option maxRecDepth 100000
set_option linter.unusedVariables false
set_option linter.unusedSimpArgs false

theorem C77 (a0 : (Int × Int × Int) × (Int × Int × Int) × Int × Int × Int) (a1 : Int) : Con Tryz.prog 77 [(.a (k9 a0)), (iv a1)] [] (.f 107 [(.p 0 0), (.p 1 0)]) [(.live true false (k9 a0)), (.live true false [(iv a1)])] := by
  refine con_s Tryz.func77 (by kernel_rfl) fun cx hcx => ?_
  exact rt [] [] [0, 1] hcx (by kernel_rfl)

def c61 (x : (Int × Int × Int) × (Int × Int × Int) × Int × Int × Int) : List SV := [(iv x.1.1), (iv x.1.2.1), (iv x.1.2.2), (iv x.2.1.1), (iv x.2.1.2.1), (iv x.2.1.2.2), (iv x.2.2.1), (iv x.2.2.2.1), (iv x.2.2.2.2)]
theorem c61_len (x : (Int × Int × Int) × (Int × Int × Int) × Int × Int × Int) : (c61 x).length = 9 := rfl

noncomputable def RA130_n_c107 : Code := match (codeAtD [1, 0, 1, 0] [] (Tryz.f130.body.getD .skip)).1 with
  | .rangeFunc _ _ a b => a
  | _ => .skip

noncomputable def RB130_n_c107 : Code := match (codeAtD [1, 0, 1, 0] [] (Tryz.f130.body.getD .skip)).1 with
  | .rangeFunc _ _ a b => b
  | _ => .skip

noncomputable def RK130_n_c107 : List K := (codeAtD [1, 0, 1, 0] [] (Tryz.f130.body.getD .skip)).2

def st130_n_c107 (a1_0 : (Int × Int × Int) × (Int × Int × Int) × Int × Int × Int) (a1_1 : Int) : List ((Int × Int × Int) × (Int × Int × Int) × Int × Int × Int) → LS
  | v1 => ⟨[.u, .u, (.p 2 0), .u, .u, .u, (.f 107 [(.p 0 0), (.p 1 0)]), .u, .u, .u, .u, .u, .u], [(.live false false (k9 a1_0)), (.live false false [(iv a1_1)]), (.live true false [(.s 3 0 v1.length 9)]), (.live true true (flat c61 v1))]⟩

def sA130_n_c107 (a1_0 : (Int × Int × Int) × (Int × Int × Int) × Int × Int × Int) (a1_1 : Int) : List ((Int × Int × Int) × (Int × Int × Int) × Int × Int × Int) → (Int × Int × Int) × (Int × Int × Int) × Int × Int × Int → LS
  | v1, x => ⟨[.u, .u, (.p 2 0), .u, .u, (.p 3 0), .u, .u, .u, .u, .u, .u, .u], [(.live false false (k9 a1_0)), (.live false false [(iv a1_1)]), (.live true false [(.s 4 0 v1.length 9)]), (.live true false (k9 x)), (.live true true (flat c61 v1))]⟩

def S130_n_c107_r (a1_0 : (Int × Int × Int) × (Int × Int × Int) × Int × Int × Int) (a1_1 : Int) : List ((Int × Int × Int) × (Int × Int × Int) × Int × Int × Int) → (Int × Int × Int) × (Int × Int × Int) × Int × Int × Int → List ((Int × Int × Int) × (Int × Int × Int) × Int × Int × Int)
  | v1, x =>
   (v1 ++ [x])

def G130_n_c107 (a1_0 : (Int × Int × Int) × (Int × Int × Int) × Int × Int × Int) (a1_1 : Int) : List ((Int × Int × Int) × (Int × Int × Int) × Int × Int × Int) → List ((Int × Int × Int) × (Int × Int × Int) × Int × Int × Int)
  | v1 =>
   v1

def inv130_n_c107 (a1_0 : (Int × Int × Int) × (Int × Int × Int) × Int × Int × Int) (a1_1 : Int) : Nat → List ((Int × Int × Int) × (Int × Int × Int) × Int × Int × Int) → Prop
  | i, v1 => (v1.length = i)

def F130_n_c107 (a1_0 : (Int × Int × Int) × (Int × Int × Int) × Int × Int × Int) (a1_1 : Int) : List ((Int × Int × Int) × (Int × Int × Int) × Int × Int × Int) :=
  (G130_n_c107 a1_0 a1_1 ((cutL (Int.toNat a1_1) a1_0).foldl (S130_n_c107_r a1_0 a1_1) ([] : List ((Int × Int × Int) × (Int × Int × Int) × Int × Int × Int))))

theorem C130_n_c107 (a1_0 : (Int × Int × Int) × (Int × Int × Int) × Int × Int × Int) (a1_1 : Int) (ha : 0 ≤ a1_1 ∧ a1_1 ≤ 3) : Con Tryz.prog 130 [(.v (.slice none 0 0)), (.f 107 [(.p 0 0), (.p 1 0)])] [(.live false false (k9 a1_0)), (.live false false [(iv a1_1)])] (.s 2 0 (F130_n_c107 a1_0 a1_1).length 9) [(.live true true (flat c61 (F130_n_c107 a1_0 a1_1)))] := by
  have e : (F130_n_c107 a1_0 a1_1) = (G130_n_c107 a1_0 a1_1 ((cutL (Int.toNat a1_1) a1_0).foldl (S130_n_c107_r a1_0 a1_1) ([] : List ((Int × Int × Int) × (Int × Int × Int) × Int × Int × Int)))) := by simp only [F130_n_c107]
  rw [e]
  refine con_of_mark (n := 9) Tryz.func130 rfl (ent Tryz.func130 (by kernel_rfl) rfl) (by show 2 ≤ Tryz.f130.ntmps; decide) (by kernel_rfl) ⟨rfl, rfl, trivial⟩ (fun cx hcx => ?_)
  refine at_of (T := T0) hT hm (f := 5000) (orc := []) [.cell 2 0 9] [2, 6] [2, 3] hcx (x := .rangeFunc (.tmp 6) #[7] RA130_n_c107 RB130_n_c107) (k' := RK130_n_c107) (s' := st130_n_c107 a1_0 a1_1 ([] : List ((Int × Int × Int) × (Int × Int × Int) × Int × Int × Int)))
    (obs := []) (by kernel_rfl) trivial ?_
  refine range_of (xs := cutL (Int.toNat a1_1) a1_0) (enc := encP) (V := List ((Int × Int × Int) × (Int × Int × Int) × Int × Int × Int)) (R' := Empty) hcx rfl (by decide) [0, 1] [(.p 0 0), (.p 1 0)] [(.live false false (k9 a1_0)), (.live false false [(iv a1_1)])] rfl rfl (iter_cutI a1_0 a1_1 (by first | omega | exact pair_le h0)) (fun x => SV.a (cP x)) encP_rel cP_has 3 (Nat.le_of_ble_eq_true rfl) (of_decide_eq_true (by kernel_rfl))
    (st130_n_c107 a1_0 a1_1) ([] : List ((Int × Int × Int) × (Int × Int × Int) × Int × Int × Int)) rfl (fun v1 => (by kernel_rfl)) (by kernel_rfl) (fun v v' => (roSub_ro (roSub_ro (roSub_own (roSub_own roSub_nil))))) (fun v1 => (by kernel_rfl)) (fun v1 => (by kernel_rfl)) (fun v1 => (Nat.le_of_ble_eq_true (by kernel_rfl)))
    (fun v x => .inl (S130_n_c107_r a1_0 a1_1 v x)) (fun r => r.elim) (fun v r => r.elim) (fun r => r.elim)
    (inv130_n_c107 a1_0 a1_1) (by simp [inv130_n_c107]) (sA130_n_c107 a1_0 a1_1) (fun v1 x => (by kernel_rfl)) (fun v1 x => (by kernel_rfl)) (fun v1 x => (Nat.le_of_ble_eq_true (by kernel_rfl)))
    (fun cx' l i v1 x QA hcx' hx hinv hg => norm_of (T := T0) hT hm (f := 5000) (orc := []) [] [2, 5] [4, 3] hcx' (obs := []) (by kernel_rfl) trivial hg)
    (fun cx' l i v1 x QB hcx' hx hinv hb1 hb2 => ?_) (fun cx' d v1 hh hv hinv => ?_) (fun cx' d r hh hv => ?_)
  · show Aw.Good _ _ _ _ _ _ _ (sA130_n_c107 a1_0 a1_1 v1 x)
    simp only [inv130_n_c107] at hinv
    have hlt := cut_lt ha hx
    have e : (Sum.inl (S130_n_c107_r a1_0 a1_1 v1 x) : (List ((Int × Int × Int) × (Int × Int × Int) × Int × Int × Int)) ⊕ Empty) = .inl (v1 ++ [x]) := by simp only [S130_n_c107_r]
    refine norm_of (T := T0) hT hm (f := 5000) (orc := []) [] [] [6] hcx' (s' := ⟨List.replicate 13 .u, [(.live false false (k9 a1_0)), (.live false false [(iv a1_1)]), (.live true false [(.s 3 0 (v1.length + 1) 9)]), (.live true true (flat c61 v1 ++ (k9 x)))]⟩)
      (obs := [.pr ((flat c61 v1).length = v1.length * 9 ∧ v1.length + 1 ≤ 2 ^ 40 ∧ (v1.length + 1) * 72 ≤ 2 ^ 47)]) (by kernel_rfl) ⟨(show ((flat c61 v1).length = v1.length * 9 ∧ v1.length + 1 ≤ 2 ^ 40 ∧ (v1.length + 1) * 72 ≤ 2 ^ 47) from app_ok c61_len (by omega) (by omega)), trivial⟩ ?_
    have z0 : (flat c61 v1 ++ (k9 x)) = (flat c61 (v1 ++ [x])) := (flat_append (c := c61) (l := v1) (m := [x])).symm
    have z1 : (v1.length + 1) = (v1 ++ [x]).length := len_app v1 [x] rfl
    rw [z0, z1]
    exact hb1 _ e (by simp only [inv130_n_c107, List.length_append, List.length_cons, List.length_nil]; omega)
  · rw [runL_foldl, Sum.inl.injEq] at hv; rw [hv]
    show Aw.Good _ _ _ _ _ _ _ (st130_n_c107 a1_0 a1_1 v1)
    simp only [inv130_n_c107] at hinv
    have e : G130_n_c107 a1_0 a1_1 v1 = v1 := by simp only [G130_n_c107]
    rw [e]
    exact retH_of (T := T0) hT hm (f := 5000) (orc := []) [] [] [3] hh hcx
      (obs := []) (by kernel_rfl) trivial
  · exact r.elim

def F116_c107 (a0_0 : (Int × Int × Int) × (Int × Int × Int) × Int × Int × Int) (a0_1 : Int) : List ((Int × Int × Int) × (Int × Int × Int) × Int × Int × Int) :=
  (F130_n_c107 a0_0 a0_1)

theorem C116_c107 (a0_0 : (Int × Int × Int) × (Int × Int × Int) × Int × Int × Int) (a0_1 : Int) (ha : 0 ≤ a0_1 ∧ a0_1 ≤ 3) : Con Tryz.prog 116 [(.f 107 [(.p 0 0), (.p 1 0)])] [(.live false false (k9 a0_0)), (.live false false [(iv a0_1)])] (.s 2 0 (F116_c107 a0_0 a0_1).length 9) [(.live true true (flat c61 (F116_c107 a0_0 a0_1)))] := by
  refine con_s Tryz.func116 (by kernel_rfl) fun cx hcx => ?_
  have e := Eq.refl (F116_c107 a0_0 a0_1); conv at e => rhs; simp only [F116_c107]
  rw [e]
  exact rt [.c [0, 1] (C130_n_c107 a0_0 a0_1  (by (try simp only [List.length_append, List.length_cons, List.length_nil, Int.toNat_zero]); omega))] [] [2] hcx (by kernel_rfl)

def F78 (a0 : (Int × Int × Int) × (Int × Int × Int) × Int × Int × Int) : (Int × Int × Int) × (Int × Int × Int) × Int × Int × Int :=
  a0

theorem C78 (a0 : (Int × Int × Int) × (Int × Int × Int) × Int × Int × Int) : Con Tryz.prog 78 [(.a (k9 a0))] [] (.a (k9 (F78 a0))) [] := by
  refine con_s Tryz.func78 (by kernel_rfl) fun cx hcx => ?_
  have e := Eq.refl (F78 a0); conv at e => rhs; simp only [F78]
  rw [e]
  exact rt [] [] [] hcx (by kernel_rfl)

def F81 (a0 : Int) (a1 : Int) (a2 : Int) : Int × Int :=
  (F114 (a0, a1) a2).1

theorem C81 (a0 : Int) (a1 : Int) (a2 : Int) : Con Tryz.prog 81 [(iv a0), (iv a1), (iv a2)] [] (.a (k2 (F81 a0 a1 a2))) [] := by
  refine con_s Tryz.func81 (by kernel_rfl) fun cx hcx => ?_
  have e := Eq.refl (F81 a0 a1 a2); conv at e => rhs; simp only [F81]
  rw [e]
  exact rt [.c [] (C114 (a0, a1) a2)] [] [] hcx (by kernel_rfl)

noncomputable def RA52_f53 : Code := match (codeAtD [1, 1, 1, 1, 0, 1, 0] [] (Tryz.f52.body.getD .skip)).1 with
  | .rangeFunc _ _ a b => a
  | _ => .skip

noncomputable def RB52_f53 : Code := match (codeAtD [1, 1, 1, 1, 0, 1, 0] [] (Tryz.f52.body.getD .skip)).1 with
  | .rangeFunc _ _ a b => b
  | _ => .skip

noncomputable def RK52_f53 : List K := (codeAtD [1, 1, 1, 1, 0, 1, 0] [] (Tryz.f52.body.getD .skip)).2

def st52_f53 (a0 : (Int × Int × Int) × (Int × Int × Int) × Int × Int × Int) (a1 : Int × Int × Int) (a2 : Int) : Int × Int → LS
  | (v1, v2) => ⟨[.u, .u, (iv a2), .u, .u, .u, .u, (.p 0 0), (.p 1 0), (.p 2 0), (.p 3 0), (.p 4 0), (.p 5 0), (.p 6 0), .u, .u, .u, .u, .u, .u, .u, .u, .u, .u, .u, .u, .u, .u, .u, (.f 107 [(.p 7 0), (.p 8 0)]), .u, .u, .u, .u, .u, .u, .u, .u, .u, .u, .u, .u, .u, .u, .u, .u, .u, .u, .u, .u, .u, .u, .u, .u, .u, .u, .u, .u, .u, .u, .u, .u, .u, .u, .u, .u, .u, .u, .u], [(.live true false [(.v (.func (.func 53) #[] #[]))]), (.live true false [(iv 0), (iv 0)]), (.live true false [(iv 0)]), (.live true false [(iv (W (1 * 2 ^ (min (Int.toNat a2) 64))))]), (.live true false [(.s 9 0 1 3)]), (.live true false [(iv v1)]), (.live true false [(iv v2)]), (.live true false (k9 a0)), (.live true false [(iv a2)]), (.live true false (k3 (F76 a1 (W (1 * 2 ^ (min (Int.toNat a2) 64))))))]⟩

def sA52_f53 (a0 : (Int × Int × Int) × (Int × Int × Int) × Int × Int × Int) (a1 : Int × Int × Int) (a2 : Int) : Int × Int → (Int × Int × Int) × (Int × Int × Int) × Int × Int × Int → LS
  | (v1, v2), x => ⟨[.u, .u, .u, .u, .u, .u, .u, (.p 0 0), (.p 1 0), (.p 2 0), (.p 3 0), (.p 4 0), (.p 5 0), (.p 6 0), (.p 10 0), .u, .u, .u, .u, .u, .u, .u, .u, .u, .u, .u, .u, .u, .u, .u, .u, .u, .u, .u, .u, .u, .u, .u, .u, .u, .u, .u, .u, .u, .u, .u, .u, .u, .u, .u, .u, .u, .u, .u, .u, .u, .u, .u, .u, .u, .u, .u, .u, .u, .u, .u, .u, .u, .u], [(.live true false [(.v (.func (.func 53) #[] #[]))]), (.live true false [(iv 0), (iv 0)]), (.live true false [(iv 0)]), (.live true false [(iv (W (1 * 2 ^ (min (Int.toNat a2) 64))))]), (.live true false [(.s 9 0 1 3)]), (.live true false [(iv v1)]), (.live true false [(iv v2)]), (.live true false (k9 a0)), (.live true false [(iv a2)]), (.live true false (k3 (F76 a1 (W (1 * 2 ^ (min (Int.toNat a2) 64)))))), (.live true false (k9 x))]⟩

def str52_f53 (a0 : (Int × Int × Int) × (Int × Int × Int) × Int × Int × Int) (a1 : Int × Int × Int) (a2 : Int) (r : (Int × Int) × Int) : LS := ⟨[], [.dead, (.live true false [(iv r.1.1), (iv r.1.2)]), (.live true false [(iv r.2)]), .dead, .dead, .dead, .dead, .dead, .dead, .dead]⟩

def S52_f53_r (a0 : (Int × Int × Int) × (Int × Int × Int) × Int × Int × Int) (a1 : Int × Int × Int) (a2 : Int) : Int × Int → (Int × Int × Int) × (Int × Int × Int) × Int × Int × Int → (Int × Int) ⊕ ((Int × Int) × Int)
  | (v1, v2), x =>
   (bif (((F79_3_1 (F78 x) (F76 a1 (W (1 * 2 ^ (min (Int.toNat a2) 64))))) : Int) == 0) then
    (.inr ((0, 0), 10))
   else
    (.inl ((W (v1 + (F53 (F80_L_L ([(F78 x).1, (F78 x).2.1, (F78 x).2.2] : List (Int × Int × Int)) ([(F76 a1 (W (1 * 2 ^ (min (Int.toNat a2) 64))))] : List (Int × Int × Int))) (W (1 * 2 ^ (min (Int.toNat a2) 64)))).1.1)), (W (v2 + (F53 (F79_3_1 (F78 x) (F76 a1 (W (1 * 2 ^ (min (Int.toNat a2) 64))))) (W (1 * 2 ^ (min (Int.toNat a2) 64)))).1.2)))))

def G52_f53 (a0 : (Int × Int × Int) × (Int × Int × Int) × Int × Int × Int) (a1 : Int × Int × Int) (a2 : Int) : Int × Int → (Int × Int) × Int
  | (v1, v2) =>
   ((F81 v1 v2 (W (1 * 2 ^ (min (Int.toNat (W (2 * a2))) 64)))), 0)

def F52_f53 (a0 : (Int × Int × Int) × (Int × Int × Int) × Int × Int × Int) (a1 : Int × Int × Int) (a2 : Int) : (Int × Int) × Int :=
  (thenL (G52_f53 a0 a1 a2) (runL (S52_f53_r a0 a1 a2) (cutL (Int.toNat a2) a0) (0, 0)))

theorem C52_f53 (a0 : (Int × Int × Int) × (Int × Int × Int) × Int × Int × Int) (a1 : Int × Int × Int) (a2 : Int) (ha : 0 ≤ a2 ∧ a2 ≤ 3) : Con Tryz.prog 52 [(.a (k9 a0)), (.a (k3 a1)), (iv a2), (.v (.func (.func 53) #[] #[]))] [] (.t [(.a (k2 (F52_f53 a0 a1 a2).1)), (iv (F52_f53 a0 a1 a2).2)]) [] := by
  have e : (F52_f53 a0 a1 a2) = (thenL (G52_f53 a0 a1 a2) (runL (S52_f53_r a0 a1 a2) (cutL (Int.toNat a2) a0) (0, 0))) := by simp only [F52_f53]
  rw [e]
  refine con_of_mark (n := 9) Tryz.func52 rfl (ent Tryz.func52 (by kernel_rfl) rfl) (by show 4 ≤ Tryz.f52.ntmps; decide) (by kernel_rfl) trivial (fun cx hcx => ?_)
  refine at_of (T := T0) hT hm (f := 5000) (orc := [.call [] (.a (k3 (F76 a1 (W (1 * 2 ^ (min (Int.toNat a2) 64)))))) [], .call [] (.f 107 [(.p 0 0), (.p 1 0)]) [(.live true false (k9 a0)), (.live true false [(iv a2)])]]) [] [2, 7, 8, 9, 10, 11, 12, 13, 29] [2, 3, 4, 5, 7, 8, 9, 10, 11, 6] hcx (x := .rangeFunc (.tmp 29) #[30] RA52_f53 RB52_f53) (k' := RK52_f53) (s' := st52_f53 a0 a1 a2 (0, 0))
    (obs := [.pr (0 ≤ (a2 : Int)), .call 76 [(.a (k3 a1)), (iv (W (1 * 2 ^ (min (Int.toNat a2) 64))))] [] (.a (k3 (F76 a1 (W (1 * 2 ^ (min (Int.toNat a2) 64)))))) [], .call 77 [(.a (k9 a0)), (iv a2)] [] (.f 107 [(.p 0 0), (.p 1 0)]) [(.live true false (k9 a0)), (.live true false [(iv a2)])]]) (by kernel_rfl) ⟨(show 0 ≤ (a2 : Int) from by first | omega | (rw [W_eq] <;> omega) | exact u64_nn _), (C76 a1 (W (1 * 2 ^ (min (Int.toNat a2) 64)))), (C77 a0 a2), trivial⟩ ?_
  refine range_of (xs := cutL (Int.toNat a2) a0) (enc := encP) (V := Int × Int) (R' := ((Int × Int) × Int)) hcx rfl (by decide) [7, 8] [(.p 0 0), (.p 1 0)] [(.live false false (k9 a0)), (.live false false [(iv a2)])] rfl rfl (iter_cutI a0 a2 (by first | omega | exact pair_le h0)) (fun x => SV.a (cP x)) encP_rel cP_has 10 (Nat.le_of_ble_eq_true rfl) (of_decide_eq_true (by kernel_rfl))
    (st52_f53 a0 a1 a2) (0, 0) rfl (fun ⟨v1, v2⟩ => (by kernel_rfl)) (by kernel_rfl) (fun v v' => (roSub_own (roSub_own (roSub_own (roSub_own (roSub_own (roSub_own (roSub_own (roSub_own (roSub_own (roSub_own roSub_nil))))))))))) (fun ⟨v1, v2⟩ => (by kernel_rfl)) (fun ⟨v1, v2⟩ => (by kernel_rfl)) (fun ⟨v1, v2⟩ => (Nat.le_of_ble_eq_true (by kernel_rfl)))
    (S52_f53_r a0 a1 a2) (str52_f53 a0 a1 a2) (fun v r => (roSub_dead (roSub_own (roSub_own (roSub_dead (roSub_dead (roSub_dead (roSub_dead (roSub_dead (roSub_dead (roSub_dead roSub_nil))))))))))) (fun r => (by kernel_rfl))
    (fun _ _ => True) trivial (sA52_f53 a0 a1 a2) (fun ⟨v1, v2⟩ x => (by kernel_rfl)) (fun ⟨v1, v2⟩ x => (by kernel_rfl)) (fun ⟨v1, v2⟩ x => (Nat.le_of_ble_eq_true (by kernel_rfl)))
    (fun cx' l i ⟨v1, v2⟩ x QA hcx' hx hinv hg => norm_of (T := T0) hT hm (f := 5000) (orc := []) [] [7, 8, 9, 10, 11, 12, 13, 14] [10] hcx' (obs := []) (by kernel_rfl) trivial hg)
    (fun cx' l i ⟨v1, v2⟩ x QB hcx' hx hinv hb1 hb2 => ?_) (fun cx' d ⟨v1, v2⟩ hh hv hinv => ?_) (fun cx' d r hh hv => ?_)
  · show Aw.Good _ _ _ _ _ _ _ (sA52_f53 a0 a1 a2 (v1, v2) x)
    cases h0 : (((F79_3_1 (F78 x) (F76 a1 (W (1 * 2 ^ (min (Int.toNat a2) 64))))) : Int) == 0) with
    | true =>
      have q0 := eq_of_beq h0
      have e : S52_f53_r a0 a1 a2 (v1, v2) x = (.inr ((0, 0), 10)) := by simp only [S52_f53_r, h0, cond_true, cond_false]
      exact rets_of (T := T0) hT hm (f := 5000) (orc := [.call [] (.a (k9 (F78 x))) [], .call [11, 9] (iv (F79_3_1 (F78 x) (F76 a1 (W (1 * 2 ^ (min (Int.toNat a2) 64)))))) [], .d true]) [.kill 0, .kill 3, .kill 4, .kill 5, .kill 6, .kill 7, .kill 8, .kill 9] [] [] hcx' (s' := ⟨List.replicate 69 .u, (str52_f53 a0 a1 a2 ((0, 0), 10)).bk⟩)
        (obs := [.call 78 [(.a (k9 x))] [] (.a (k9 (F78 x))) [], .call 79 [(.s 0 0 3 3), (.s 1 0 1 3)] [(.live false false (k9 (F78 x))), (.live false false (k3 (F76 a1 (W (1 * 2 ^ (min (Int.toNat a2) 64))))))] (iv (F79_3_1 (F78 x) (F76 a1 (W (1 * 2 ^ (min (Int.toNat a2) 64)))))) [], .eq (((F79_3_1 (F78 x) (F76 a1 (W (1 * 2 ^ (min (Int.toNat a2) 64))))) : Int) == 0) true]) (by kernel_rfl) ⟨(C78 x), (C79_3_1 (F78 x) (F76 a1 (W (1 * 2 ^ (min (Int.toNat a2) 64))))), h0, trivial⟩ (hb2 _ e)
    | false =>
      have q0 := ne_of_beq_false h0
      have e : S52_f53_r a0 a1 a2 (v1, v2) x = (.inl ((W (v1 + (F53 (F80_L_L ([(F78 x).1, (F78 x).2.1, (F78 x).2.2] : List (Int × Int × Int)) ([(F76 a1 (W (1 * 2 ^ (min (Int.toNat a2) 64))))] : List (Int × Int × Int))) (W (1 * 2 ^ (min (Int.toNat a2) 64)))).1.1)), (W (v2 + (F53 (F79_3_1 (F78 x) (F76 a1 (W (1 * 2 ^ (min (Int.toNat a2) 64))))) (W (1 * 2 ^ (min (Int.toNat a2) 64)))).1.2)))) := by simp only [S52_f53_r, h0, cond_true, cond_false]
      refine norm_of (T := T0) hT hm (f := 5000) (orc := [.call [] (.a (k9 (F78 x))) [], .call [11, 9] (iv (F79_3_1 (F78 x) (F76 a1 (W (1 * 2 ^ (min (Int.toNat a2) 64)))))) [], .d false, .call [11, 9] (iv (F80_L_L ([(F78 x).1, (F78 x).2.1, (F78 x).2.2] : List (Int × Int × Int)) ([(F76 a1 (W (1 * 2 ^ (min (Int.toNat a2) 64))))] : List (Int × Int × Int)))) [], .call [] (.t [(.a (k2 (F53 (F80_L_L ([(F78 x).1, (F78 x).2.1, (F78 x).2.2] : List (Int × Int × Int)) ([(F76 a1 (W (1 * 2 ^ (min (Int.toNat a2) 64))))] : List (Int × Int × Int))) (W (1 * 2 ^ (min (Int.toNat a2) 64)))).1)), (iv (F53 (F80_L_L ([(F78 x).1, (F78 x).2.1, (F78 x).2.2] : List (Int × Int × Int)) ([(F76 a1 (W (1 * 2 ^ (min (Int.toNat a2) 64))))] : List (Int × Int × Int))) (W (1 * 2 ^ (min (Int.toNat a2) 64)))).2)]) [], .call [] (.t [(.a (k2 (F53 (F79_3_1 (F78 x) (F76 a1 (W (1 * 2 ^ (min (Int.toNat a2) 64))))) (W (1 * 2 ^ (min (Int.toNat a2) 64)))).1)), (iv (F53 (F79_3_1 (F78 x) (F76 a1 (W (1 * 2 ^ (min (Int.toNat a2) 64))))) (W (1 * 2 ^ (min (Int.toNat a2) 64)))).2)]) []]) [] [] [] hcx' (s' := ⟨List.replicate 69 .u, [(.live true false [(.v (.func (.func 53) #[] #[]))]), (.live true false [(iv 0), (iv 0)]), (.live true false [(iv 0)]), (.live true false [(iv (W (1 * 2 ^ (min (Int.toNat a2) 64))))]), (.live true false [(.s 9 0 1 3)]), (.live true false [(iv (W (v1 + (F53 (F80_L_L ([(F78 x).1, (F78 x).2.1, (F78 x).2.2] : List (Int × Int × Int)) ([(F76 a1 (W (1 * 2 ^ (min (Int.toNat a2) 64))))] : List (Int × Int × Int))) (W (1 * 2 ^ (min (Int.toNat a2) 64)))).1.1)))]), (.live true false [(iv (W (v2 + (F53 (F79_3_1 (F78 x) (F76 a1 (W (1 * 2 ^ (min (Int.toNat a2) 64))))) (W (1 * 2 ^ (min (Int.toNat a2) 64)))).1.2)))]), (.live true false (k9 a0)), (.live true false [(iv a2)]), (.live true false (k3 (F76 a1 (W (1 * 2 ^ (min (Int.toNat a2) 64))))))]⟩)
        (obs := [.call 78 [(.a (k9 x))] [] (.a (k9 (F78 x))) [], .call 79 [(.s 0 0 3 3), (.s 1 0 1 3)] [(.live false false (k9 (F78 x))), (.live false false (k3 (F76 a1 (W (1 * 2 ^ (min (Int.toNat a2) 64))))))] (iv (F79_3_1 (F78 x) (F76 a1 (W (1 * 2 ^ (min (Int.toNat a2) 64)))))) [], .eq (((F79_3_1 (F78 x) (F76 a1 (W (1 * 2 ^ (min (Int.toNat a2) 64))))) : Int) == 0) false, .call 80 [(.s 0 0 3 3), (.s 1 0 1 3)] [(.live false false (k9 (F78 x))), (.live false false (k3 (F76 a1 (W (1 * 2 ^ (min (Int.toNat a2) 64))))))] (iv (F80_L_L ([(F78 x).1, (F78 x).2.1, (F78 x).2.2] : List (Int × Int × Int)) ([(F76 a1 (W (1 * 2 ^ (min (Int.toNat a2) 64))))] : List (Int × Int × Int)))) [], .call 53 [(iv (F80_L_L ([(F78 x).1, (F78 x).2.1, (F78 x).2.2] : List (Int × Int × Int)) ([(F76 a1 (W (1 * 2 ^ (min (Int.toNat a2) 64))))] : List (Int × Int × Int)))), (iv (W (1 * 2 ^ (min (Int.toNat a2) 64))))] [] (.t [(.a (k2 (F53 (F80_L_L ([(F78 x).1, (F78 x).2.1, (F78 x).2.2] : List (Int × Int × Int)) ([(F76 a1 (W (1 * 2 ^ (min (Int.toNat a2) 64))))] : List (Int × Int × Int))) (W (1 * 2 ^ (min (Int.toNat a2) 64)))).1)), (iv (F53 (F80_L_L ([(F78 x).1, (F78 x).2.1, (F78 x).2.2] : List (Int × Int × Int)) ([(F76 a1 (W (1 * 2 ^ (min (Int.toNat a2) 64))))] : List (Int × Int × Int))) (W (1 * 2 ^ (min (Int.toNat a2) 64)))).2)]) [], .call 53 [(iv (F79_3_1 (F78 x) (F76 a1 (W (1 * 2 ^ (min (Int.toNat a2) 64)))))), (iv (W (1 * 2 ^ (min (Int.toNat a2) 64))))] [] (.t [(.a (k2 (F53 (F79_3_1 (F78 x) (F76 a1 (W (1 * 2 ^ (min (Int.toNat a2) 64))))) (W (1 * 2 ^ (min (Int.toNat a2) 64)))).1)), (iv (F53 (F79_3_1 (F78 x) (F76 a1 (W (1 * 2 ^ (min (Int.toNat a2) 64))))) (W (1 * 2 ^ (min (Int.toNat a2) 64)))).2)]) []]) (by kernel_rfl) ⟨(C78 x), (C79_3_1 (F78 x) (F76 a1 (W (1 * 2 ^ (min (Int.toNat a2) 64))))), h0, (Con.flags (bs' := [(.live false false (k9 (F78 x))), (.live false false (k3 (F76 a1 (W (1 * 2 ^ (min (Int.toNat a2) 64))))))]) (C80_L_L ([(F78 x).1, (F78 x).2.1, (F78 x).2.2] : List (Int × Int × Int)) ([(F76 a1 (W (1 * 2 ^ (min (Int.toNat a2) 64))))] : List (Int × Int × Int)) (by (try simp only [List.length_append, List.length_cons, List.length_nil, Int.toNat_zero]); omega) (by (try simp only [List.length_append, List.length_cons, List.length_nil, Int.toNat_zero]); omega)) rfl ⟨flat_plain (fun _ => rfl), flat_plain (fun _ => rfl), trivial⟩), (C53 (F80_L_L ([(F78 x).1, (F78 x).2.1, (F78 x).2.2] : List (Int × Int × Int)) ([(F76 a1 (W (1 * 2 ^ (min (Int.toNat a2) 64))))] : List (Int × Int × Int))) (W (1 * 2 ^ (min (Int.toNat a2) 64)))), (C53 (F79_3_1 (F78 x) (F76 a1 (W (1 * 2 ^ (min (Int.toNat a2) 64))))) (W (1 * 2 ^ (min (Int.toNat a2) 64)))), trivial⟩ ?_
      exact hb1 _ e trivial
  · rw [hv]
    show Aw.Good _ _ _ _ _ _ _ (st52_f53 a0 a1 a2 (v1, v2))
    have e : thenL (G52_f53 a0 a1 a2) (Sum.inl (v1, v2)) = ((F81 v1 v2 (W (1 * 2 ^ (min (Int.toNat (W (2 * a2))) 64)))), 0) := by simp only [thenL, G52_f53]
    rw [e]
    exact retH_of (T := T0) hT hm (f := 5000) (orc := [.call [] (.a (k2 (F81 v1 v2 (W (1 * 2 ^ (min (Int.toNat (W (2 * a2))) 64)))))) []]) [] [] [] hh hcx
      (obs := [.pr (0 ≤ ((W (2 * a2)) : Int)), .call 81 [(iv v1), (iv v2), (iv (W (1 * 2 ^ (min (Int.toNat (W (2 * a2))) 64))))] [] (.a (k2 (F81 v1 v2 (W (1 * 2 ^ (min (Int.toNat (W (2 * a2))) 64)))))) []]) (by kernel_rfl) ⟨(show 0 ≤ ((W (2 * a2)) : Int) from by first | omega | (rw [W_eq] <;> omega) | exact u64_nn _), (C81 v1 v2 (W (1 * 2 ^ (min (Int.toNat (W (2 * a2))) 64)))), trivial⟩
  · rw [hv]
    exact finH_of (T := T0) hT [] [] [] (s' := ⟨[.u, .u, (iv a2), .u, .u, .u, .u, (.p 0 0), (.p 1 0), (.p 2 0), (.p 3 0), (.p 4 0), (.p 5 0), (.p 6 0), .u, .u, .u, .u, .u, .u, .u, .u, .u, .u, .u, .u, .u, .u, .u, (.f 107 [(.p 7 0), (.p 8 0)]), .u, .u, .u, .u, .u, .u, .u, .u, .u, .u, .u, .u, .u, .u, .u, .u, .u, .u, .u, .u, .u, .u, .u, .u, .u, .u, .u, .u, .u, .u, .u, .u, .u, .u, .u, .u, .u, .u, .u], (str52_f53 a0 a1 a2 r).bk⟩) rfl hh hcx (by kernel_rfl)

end Go.Proofs.YtcnnmgooolnebaaGreat

namespace Go.Proofs.YtcnnmgooolnebaaGreat
open Go.Proofs Go.Aw Go.RowKit
set_option maxRecDepth 100000
set_option linter.unusedVariables false
set_option linter.unusedSimpArgs false

end Go.Proofs.YtcnnmgooolnebaaGreat

namespace Go.Proofs.YtcnnmgooolnebaaGreat
open Go.Proofs Go.Aw Go.RowKit
set_option maxRecDepth 100000
set_option linter.unusedVariables false
set_option linter.unusedSimpArgs false

/-! ### How far, how near -/
def mx (a b : Int) : Int := if a < b then b else a
theorem mx_le {a b c : Int} (h : a ≤ c) (h' : b ≤ c) : mx a b ≤ c := by unfold mx; split <;> assumption
theorem le_mx1 (a b : Int) : a ≤ mx a b := by unfold mx; split <;> omega
theorem le_mx2 (a b : Int) : b ≤ mx a b := by unfold mx; split <;> omega
def ds (p q : P3) : Int := dt (sb p q) (sb p q)
def fF (p q : P3) : Int := F112 (F113 p q) (F113 p q)
theorem fF_eq {p q : P3} (hp : bd 5000 p) (hq : bd 5000 q) : fF p q = ds p q := by
  unfold fF ds
  rw [fsb (hp.mono (by omega)) (hq.mono (by omega))]
  exact fdt ((bd_sb hp hq).mono (by omega)) ((bd_sb hp hq).mono (by omega))
theorem farF1 (c : PN) (x : P3) : F80_L_L [c.1, c.2.1, c.2.2] [x] = mx (mx (mx 0 (fF c.1 x)) (fF c.2.1 x)) (fF c.2.2 x) := by
  rfl
/-! boxes -/
def lo3 (a b c : Int) : Int := if c < (if b < (if a < a then a else a) then b else (if a < a then a else a)) then c else (if b < (if a < a then a else a) then b else (if a < a then a else a))
def hi3 (a b c : Int) : Int := if (if (if a < a then a else a) < b then b else (if a < a then a else a)) < c then c else (if (if a < a then a else a) < b then b else (if a < a then a else a))
theorem lo3_le (a b c : Int) : lo3 a b c ≤ a ∧ lo3 a b c ≤ b ∧ lo3 a b c ≤ c := by
  unfold lo3; simp only [Int.lt_irrefl, if_false]; split <;> split at * <;> omega
theorem le_hi3 (a b c : Int) : a ≤ hi3 a b c ∧ b ≤ hi3 a b c ∧ c ≤ hi3 a b c := by
  unfold hi3; simp only [Int.lt_irrefl, if_false]; split <;> split at * <;> omega
theorem lo3_in (a b c : Int) : lo3 a b c = a ∨ lo3 a b c = b ∨ lo3 a b c = c := by
  unfold lo3; simp only [Int.lt_irrefl, if_false]; split <;> split at * <;> omega
theorem hi3_in (a b c : Int) : hi3 a b c = a ∨ hi3 a b c = b ∨ hi3 a b c = c := by
  unfold hi3; simp only [Int.lt_irrefl, if_false]; split <;> split at * <;> omega
def gp (a b c d : Int) : Int := mx (mx 0 (c - b)) (a - d)
theorem gp_nn (a b c d : Int) : 0 ≤ gp a b c d := Int.le_trans (le_mx1 0 _) (le_mx1 _ _)
def nr (a b c d : P3) : Int := gp a.1 b.1 c.1 d.1 * gp a.1 b.1 c.1 d.1 + gp a.2.1 b.2.1 c.2.1 d.2.1 * gp a.2.1 b.2.1 c.2.1 d.2.1 + gp a.2.2 b.2.2 c.2.2 d.2.2 * gp a.2.2 b.2.2 c.2.2 d.2.2
def blo (c : PN) : P3 := (lo3 c.1.1 c.2.1.1 c.2.2.1, lo3 c.1.2.1 c.2.1.2.1 c.2.2.2.1, lo3 c.1.2.2 c.2.1.2.2 c.2.2.2.2)
def bhi (c : PN) : P3 := (hi3 c.1.1 c.2.1.1 c.2.2.1, hi3 c.1.2.1 c.2.1.2.1 c.2.2.2.1, hi3 c.1.2.2 c.2.1.2.2 c.2.2.2.2)
theorem blo_bd {m : Int} {c : PN} (h : bdP m c) : bd m (blo c) := by
  have h1 := lo3_in c.1.1 c.2.1.1 c.2.2.1; have h2 := lo3_in c.1.2.1 c.2.1.2.1 c.2.2.2.1; have h3 := lo3_in c.1.2.2 c.2.1.2.2 c.2.2.2.2
  have ha := h.1; have hb := h.2.1; have hc := h.2.2
  unfold bd at *; simp only [blo]; omega
theorem bhi_bd {m : Int} {c : PN} (h : bdP m c) : bd m (bhi c) := by
  have h1 := hi3_in c.1.1 c.2.1.1 c.2.2.1; have h2 := hi3_in c.1.2.1 c.2.1.2.1 c.2.2.2.1; have h3 := hi3_in c.1.2.2 c.2.1.2.2 c.2.2.2.2
  have ha := h.1; have hb := h.2.1; have hc := h.2.2
  unfold bd at *; simp only [bhi]; omega
theorem box3 (c : PN) : F110_3 c = (blo c, bhi c) := rfl
theorem box1 (x : P3) : F110_1 x = (x, x) := by
  have key : ∀ a : Int, (if a < a then a else a) = a := fun a => by split <;> rfl
  unfold F110_1
  simp only [key]
theorem gap_f {a b c d : Int} (ha : -5000 ≤ a ∧ a ≤ 5000) (hb : -5000 ≤ b ∧ b ≤ 5000) (hc : -5000 ≤ c ∧ c ≤ 5000) (hd : -5000 ≤ d ∧ d ≤ 5000) : F111 a b c d = gp a b c d := by
  unfold F111
  rw [W_eq (n := c - b) (by omega) (by omega), W_eq (n := a - d) (by omega) (by omega)]; rfl
theorem gp_bd {a b c d : Int} (ha : -5000 ≤ a ∧ a ≤ 5000) (hb : -5000 ≤ b ∧ b ≤ 5000) (hc : -5000 ≤ c ∧ c ≤ 5000) (hd : -5000 ≤ d ∧ d ≤ 5000) : 0 ≤ gp a b c d ∧ gp a b c d ≤ 10000 :=
  ⟨gp_nn _ _ _ _, mx_le (mx_le (by omega) (by omega)) (by omega)⟩
theorem nrF {a b c d : P3} (ha : bd 5000 a) (hb : bd 5000 b) (hc : bd 5000 c) (hd : bd 5000 d) :
    F112 (F111 a.1 b.1 c.1 d.1, F111 a.2.1 b.2.1 c.2.1 d.2.1, F111 a.2.2 b.2.2 c.2.2 d.2.2) (F111 a.1 b.1 c.1 d.1, F111 a.2.1 b.2.1 c.2.1 d.2.1, F111 a.2.2 b.2.2 c.2.2 d.2.2) = nr a b c d := by
  rw [gap_f ha.1 hb.1 hc.1 hd.1, gap_f ha.2.1 hb.2.1 hc.2.1 hd.2.1, gap_f ha.2.2 hb.2.2 hc.2.2 hd.2.2]
  have h1 := gp_bd ha.1 hb.1 hc.1 hd.1; have h2 := gp_bd ha.2.1 hb.2.1 hc.2.1 hd.2.1; have h3 := gp_bd ha.2.2 hb.2.2 hc.2.2 hd.2.2
  have hv : bd 1000000000 (gp a.1 b.1 c.1 d.1, gp a.2.1 b.2.1 c.2.1 d.2.1, gp a.2.2 b.2.2 c.2.2 d.2.2) := by unfold bd; simp only; omega
  rw [fdt hv hv]; rfl
theorem near31 {c : PN} {x : P3} (hc : bdP 5000 c) (hx : bd 5000 x) : F79_3_1 c x = nr (blo c) (bhi c) x x := by
  unfold F79_3_1
  rw [box3, box1]
  exact nrF (blo_bd hc) (bhi_bd hc) hx hx
/-! the reference's -/
theorem sum3 {a b c : Int} (ha : 0 ≤ a ∧ a ≤ 100000000) (hb : 0 ≤ b ∧ b ≤ 100000000) (hc : 0 ≤ c ∧ c ≤ 100000000) : W ((W (a + b)) + c) = a + b + c := by
  rw [W_eq (n := a + b) (by omega) (by omega), W_eq (by omega) (by omega)]
end Go.Proofs.YtcnnmgooolnebaaGreat

namespace Go.Proofs.YtcnnmgooolnebaaGreat
open Go.Proofs Go.Aw Go.RowKit
set_option maxRecDepth 100000
set_option linter.unusedVariables false
set_option linter.unusedSimpArgs false

/-! ### What is asked -/
open Classical in
theorem seen_f (x : P3) : F74 x = decide (bd 256 x) := by
  unfold F74
  rw [within_eq, within_eq, within_eq]
  exact and3 (by unfold bd; omega)
open Classical in
noncomputable def ck (p : PN) (x : P3) (d : Int) : Int := if vp p = 0 then (if bd 256 x ∧ (0 ≤ d ∧ d ≤ 3) then 0 else 1) else vp p
open Classical in
theorem ck_aux (v : Int) (a b : Prop) [Decidable a] [Decidable b] : (bif (v != 0) then v else (bif (!(decide a)) then 1 else (bif (!(decide b)) then (1 : Int) else 0))) = if v = 0 then (if a ∧ b then 0 else 1) else v := by
  by_cases hv : v = 0
  · subst hv
    by_cases ha : a <;> by_cases hb : b <;> simp [ha, hb]
  · rw [bne_iff_ne.2 hv, cond_true, if_neg hv]
open Classical in
theorem chk_eq (p : PN) (x : P3) (d : Int) : F51 p x d = ck p x d := by
  unfold F51 ck
  rw [vp_s, seen_f, within_eq]
  exact ck_aux _ _ _
theorem ck_ok {p : PN} {x : P3} {d : Int} (h : ck p x d = 0) : vp p = 0 ∧ bd 256 x ∧ 0 ≤ d ∧ d ≤ 3 := by
  unfold ck at h
  split at h
  · rename_i h0
    split at h
    · rename_i h1; exact ⟨h0, h1⟩
    · cases h
  · rename_i h0; exact absurd h h0
theorem chk_ok {p : PN} {x : P3} {d : Int} (h : ((F51 p x d : Int) != 0) = false) : vp p = 0 ∧ bd 256 x ∧ 0 ≤ d ∧ d ≤ 3 :=
  ck_ok (by rw [← chk_eq]; simpa using h)
theorem chk_le {p : PN} {x : P3} {d : Int} (h : ((F51 p x d : Int) != 0) = false) : 0 ≤ d ∧ d ≤ 3 := (chk_ok h).2.2
def F83 (a0 : (Int × Int × Int) × (Int × Int × Int) × Int × Int × Int) (a1 : Int) : (List ((Int × Int × Int) × (Int × Int × Int) × Int × Int × Int)) × Int :=
  (bif (((F51 a0 (0, 0, 0) a1) : Int) != 0) then
   (([] : List ((Int × Int × Int) × (Int × Int × Int) × Int × Int × Int)), (F51 a0 (0, 0, 0) a1))
  else
   ((F116_c107 a0 a1), 0))

theorem C83 (a0 : (Int × Int × Int) × (Int × Int × Int) × Int × Int × Int) (a1 : Int) : Con Tryz.prog 83 [(.a (k9 a0)), (iv a1)] [] (.t [(.s 0 0 (F83 a0 a1).1.length 9), (iv (F83 a0 a1).2)]) [(.live true true (flat c61 (F83 a0 a1).1))] := by
  refine con_s Tryz.func83 (by kernel_rfl) fun cx hcx => ?_
  let t0 : List (St Tryz.prog) := [.c [] (C51 a0 (0, 0, 0) a1)]
  cases h0 : (((F51 a0 (0, 0, 0) a1) : Int) != 0) with
  | true =>
   have q0 := bne_iff_ne.1 h0
   have e := Eq.refl (F83 a0 a1); conv at e => rhs; simp only [F83, h0, cond_true, cond_false]
   rw [e]
   exact rt (t0 ++ [.d h0]) [.slot 4 9] [1] hcx (by kernel_rfl)
  | false =>
   have q0 := bne_eq_false_iff_eq.1 h0
   have e := Eq.refl (F83 a0 a1); conv at e => rhs; simp only [F83, h0, cond_true, cond_false]
   rw [e]
   exact rt (t0 ++ [.d h0, .c [] (C77 a0 a1), .c [1, 2] (C116_c107 a0 a1  (chk_le h0))]) [] [3] hcx (by kernel_rfl)

def F29 (a0 : (Int × Int × Int) × (Int × Int × Int) × Int × Int × Int) (a1 : Int × Int × Int) (a2 : Int) : (Int × Int) × Int :=
  (bif (((F51 a0 a1 a2) : Int) != 0) then
   ((0, 0), (F51 a0 a1 a2))
  else
   ((F52_f53 a0 a1 a2).1, (F52_f53 a0 a1 a2).2))

theorem C29 (a0 : (Int × Int × Int) × (Int × Int × Int) × Int × Int × Int) (a1 : Int × Int × Int) (a2 : Int) : Con Tryz.prog 29 [(.a (k9 a0)), (.a (k3 a1)), (iv a2)] [] (.t [(.a (k2 (F29 a0 a1 a2).1)), (iv (F29 a0 a1 a2).2)]) [] := by
  refine con_s Tryz.func29 (by kernel_rfl) fun cx hcx => ?_
  let t0 : List (St Tryz.prog) := [.c [] (C51 a0 a1 a2)]
  cases h0 : (((F51 a0 a1 a2) : Int) != 0) with
  | true =>
   have q0 := bne_iff_ne.1 h0
   have e := Eq.refl (F29 a0 a1 a2); conv at e => rhs; simp only [F29, h0, cond_true, cond_false]
   rw [e]
   exact rt (t0 ++ [.d h0]) [] [] hcx (by kernel_rfl)
  | false =>
   have q0 := bne_eq_false_iff_eq.1 h0
   have e := Eq.refl (F29 a0 a1 a2); conv at e => rhs; simp only [F29, h0, cond_true, cond_false]
   rw [e]
   exact rt (t0 ++ [.d h0, .c [] (C52_f53 a0 a1 a2  (chk_le h0))]) [] [] hcx (by kernel_rfl)

end Go.Proofs.YtcnnmgooolnebaaGreat

namespace Go.Proofs.YtcnnmgooolnebaaGreat
open Go.Proofs Go.Aw Go.RowKit
set_option maxRecDepth 100000
set_option linter.unusedVariables false
set_option linter.unusedSimpArgs false

/-! ### The parts -/
theorem foldl_snoc {α : Type} : ∀ (l a : List α), l.foldl (fun v x => v ++ [x]) a = a ++ l
  | [], a => by simp
  | x :: l, a => by rw [List.foldl_cons, foldl_snoc l]; simp
theorem collect_eq (p : PN) (d : Int) : F116_c107 p d = cutL d.toNat p := by
  have h := foldl_snoc (cutL d.toNat p) []
  rw [List.nil_append] at h
  exact h
open Classical in
theorem parts_f (p : PN) (d : Int) : F83 p d = if vp p = 0 then (if 0 ≤ d ∧ d ≤ 3 then (cutL d.toNat p, 0) else ([], 1)) else ([], vp p) := by
  have h0 : bd 256 (0, 0, 0) := by unfold bd; simp only; omega
  unfold F83
  rw [chk_eq, collect_eq]
  unfold ck
  by_cases hv : vp p = 0
  · by_cases hd : 0 ≤ d ∧ d ≤ 3
    · rw [if_pos hv, if_pos ⟨h0, hd⟩, if_pos hv, if_pos hd]; rfl
    · rw [if_pos hv, if_neg (fun h => hd h.2), if_pos hv, if_neg hd]; rfl
  · rw [if_neg hv, if_neg hv, bne_iff_ne.2 hv, cond_true]
theorem cutL_len : ∀ (d : Nat) (p : PN), (cutL d p).length = 4 ^ d
  | 0, p => rfl
  | d + 1, p => by
    rw [cutL_quad]
    have : ∀ l : List PN, (l.flatMap quad).length = 4 * l.length := fun l => by
      induction l with
      | nil => rfl
      | cons x l ih => rw [List.flatMap_cons, List.length_append, ih]; show 4 + _ = _; simp only [List.length_cons]; omega
    rw [this, cutL_len d p, Nat.pow_succ]; omega
end Go.Proofs.YtcnnmgooolnebaaGreat

namespace Go.Proofs.YtcnnmgooolnebaaGreat
open Go.Proofs Go.Aw Go.RowKit
set_option maxRecDepth 100000
set_option linter.unusedVariables false
set_option linter.unusedSimpArgs false

/-! ### From the contract to the row -/
open Go.ChangeShapes Go.WideShapes Go.ChangeAt
def contB (P : Program) (ok : TypeId → Bool) (n : Nat) : List Field → Nat → Bool
  | [], o => o == n
  | f :: l, o => f.offset == o && ok f.type && contB P ok n l (o + P.cellsOf f.type)
def flatB (P : Program) : Nat → TypeId → Bool
  | 0, _ => false
  | k + 1, t => match P.underlying t with
    | some (.int .i64) => true
    | some (.struct fs) => contB P (flatB P k) (P.cellsOf t) fs.toList 0
    | some (.array n e) => flatB P k e && P.cellsOf t == n * P.cellsOf e
    | _ => false
section
variable {H : Type} {enc : TypeId × Value → H} {P : Program} {w : World} {base : Nat} {spare : Nat → Bool} {held : Bool}
theorem cont_trod {ok : TypeId → Bool} {n fuel : Nat} {cs : List Value}
    (hok : ∀ t cs x, ok t = true → DataW.trod enc P w base spare held fuel t cs = some x → x.2 = [] ∧ ∃ ns : List Int, cs = ns.map (Value.int .i64)) (hn : cs.length = n) :
    ∀ (l : List Field) (o : Nat) (ys : List (DataW H × List MemPlace)), contB P ok n l o = true → ys.length = l.length →
      (∀ (j : Nat) (f : Field), l[j]? = some f → DataW.trod enc P w base spare held fuel f.type ((cs.drop f.offset).take (P.cellsOf f.type)) = ys[j]?) →
      (∀ y ∈ ys, y.2 = []) ∧ ∃ ns : List Int, cs.drop o = ns.map (Value.int .i64)
  | [], o, ys, hc, hl, _ => by
    have : ys = [] := List.length_eq_zero_iff.1 hl
    subst this
    simp only [contB, beq_iff_eq] at hc
    exact ⟨fun y hy => by simp at hy, [], by rw [hc, ← hn, List.drop_length]; rfl⟩
  | f :: l, o, ys, hc, hl, hf => by
    cases ys with
    | nil => simp at hl
    | cons y ys =>
      simp only [contB, Bool.and_eq_true, beq_iff_eq] at hc
      obtain ⟨⟨h1, h2⟩, h3⟩ := hc
      have g0 := hf 0 f rfl
      rw [h1] at g0
      obtain ⟨e1, n1, e2⟩ := hok f.type _ y h2 g0
      obtain ⟨e3, n2, e4⟩ := cont_trod hok hn l _ ys h3 (by simpa using hl) (fun j g hg => hf (j + 1) g hg)
      refine ⟨fun z hz => ?_, n1 ++ n2, ?_⟩
      · rcases List.mem_cons.1 hz with rfl | hz
        · exact e1
        · exact e3 z hz
      · rw [List.map_append, ← e2, ← e4, ← List.drop_drop, List.take_append_drop]
theorem flat_trod : ∀ (k : Nat) (t : TypeId) (fuel : Nat) (cs : List Value) (x : DataW H × List MemPlace), flatB P k t = true → DataW.trod enc P w base spare held fuel t cs = some x →
    x.2 = [] ∧ ∃ ns : List Int, cs = ns.map (Value.int .i64)
  | 0, _, _, _, _, h, _ => by simp [flatB] at h
  | k + 1, t, fuel, cs, x, h, hx => by
    unfold flatB at h
    split at h
    · rename_i ht
      obtain ⟨n, rfl, rfl, _⟩ := DataW.trod_int ht hx
      exact ⟨rfl, [n], rfl⟩
    · rename_i fs ht
      obtain ⟨xs, m, rfl, rfl, hl, hlen, hf⟩ := DataW.trod_struct ht hx
      obtain ⟨e1, ns, e2⟩ := cont_trod (fun t cs x h hx => flat_trod k t m cs x h hx) hl fs.toList 0 xs h (by simpa using hlen) (fun j f hj => hf j f (by simpa using hj))
      refine ⟨?_, ns, by simpa using e2⟩
      simp only
      induction xs with
      | nil => rfl
      | cons y l _ => rw [List.flatMap_eq_nil_iff]; exact e1
    · rename_i n e ht
      simp only [Bool.and_eq_true, beq_iff_eq] at h
      obtain ⟨xs, m, rfl, rfl, hl, hlen, hf⟩ := DataW.trod_array ht hx
      have hi : ∀ i, i < n → ∃ y, xs[i]? = some y ∧ y.2 = [] ∧ ∃ ns : List Int, (cs.drop (i * P.cellsOf e)).take (P.cellsOf e) = ns.map (Value.int .i64) := fun i hi => by
        have h1 := hf i hi
        have hil : i < xs.length := by rw [hlen]; exact hi
        rw [List.getElem?_eq_getElem hil] at h1
        obtain ⟨e1, e2⟩ := flat_trod k e m _ _ h.1 h1
        exact ⟨_, List.getElem?_eq_getElem hil, e1, e2⟩
      refine ⟨?_, ?_⟩
      · simp only
        rw [List.flatMap_eq_nil_iff]
        intro y hy
        obtain ⟨i, hy⟩ := List.getElem?_of_mem hy
        have hil := (List.getElem?_eq_some_iff.1 hy).1
        obtain ⟨y', h1, h2, _⟩ := hi i (by rw [← hlen]; exact hil)
        rw [h1] at hy
        exact Option.some.inj hy ▸ h2
      · have key : ∀ j, j ≤ n → ∃ ns : List Int, cs.drop ((n - j) * P.cellsOf e) = ns.map (Value.int .i64) := by
          intro j
          induction j with
          | zero => intro _; exact ⟨[], by rw [Nat.sub_zero, ← h.2, ← hl, List.drop_length]; rfl⟩
          | succ j ih =>
            intro hj
            obtain ⟨n2, h2⟩ := ih (by omega)
            obtain ⟨_, _, _, n1, h1⟩ := hi (n - (j + 1)) (by omega)
            refine ⟨n1 ++ n2, ?_⟩
            rw [List.map_append, ← h1, ← h2, show (n - j) * P.cellsOf e = (n - (j + 1)) * P.cellsOf e + P.cellsOf e by rw [show n - j = (n - (j + 1)) + 1 by omega, Nat.add_mul, Nat.one_mul], ← List.drop_drop, List.take_append_drop]
        obtain ⟨ns, hns⟩ := key n (Nat.le_refl _)
        exact ⟨ns, by simpa using hns⟩
    · cases h
theorem open_flat {r : Reach} {b0 : Nat} {t : TypeId} {fs : Array Field} {v : Value} {d : DataW H} {ps : List MemPlace} (ht : P.underlying t = some (.struct fs)) (hf : flatB P 6 t = true)
    (hval : Value.okWide P w r b0 t v) (hd : DataW.Trod enc P w base spare held t v d ps) :
    ps = [] ∧ ∃ ns : List Int, v = .agg (ns.map (Value.int .i64)).toArray ∧ ns.length = P.cellsOf t := by
  obtain ⟨cs, rfl, hs⟩ := okWide_struct ht hval
  obtain ⟨fuel, hx⟩ := hd
  obtain ⟨e1, ns, e2⟩ := flat_trod 6 t fuel _ _ hf hx
  have e3 : cs = (ns.map (Value.int .i64)).toArray := by
    have : cs.toList = ns.map (Value.int .i64) := by simpa [Value.cells] using e2
    rw [← this]
  refine ⟨e1, ns, by rw [e3], ?_⟩
  rw [← hs, e3]; simp
end
theorem rels_iv {ρ : Env} : ∀ ns : List Int, Rels ρ (ns.map iv) (ns.map (Value.int .i64))
  | [] => trivial
  | n :: l => ⟨rfl, rels_iv l⟩
theorem rel_agg {ρ : Env} (ns : List Int) : Rel ρ (.a (ns.map iv)) (.agg (ns.map (Value.int .i64)).toArray) := ⟨_, rfl, rels_iv ns⟩
theorem post_below {H : Type} {enc : TypeId × Value → H} {P : Program} {f : Func} {s : ChangeSpec} {apart fresh handsOn : Bool} {W W' : World} {args : Array Value} {v : Value} {ds gs : List (DataW H)} {before : List MemPlace}
    (hW : DataW.Whole enc P f.params.toList s.vars apart W args.toList ds gs before) (hb : Below W.heap.size W W')
    (hres : ∀ (b : Nat) (sp : Nat → Bool) (hd : Bool), DataW.TrodAll enc P W' b sp hd f.resultTypes.toList (v.resultList f.resultTypes.size) (s.fn H (ds ++ gs)).results [])
    (hargs : DataW.TrodAll enc P W' 0 (fun b => decide (b < W.heap.size)) true f.params.toList args.toList (s.fn H (ds ++ gs)).args before)
    (hvars : DataW.TrodVars enc P W' (fun b => decide (b < W.heap.size)) s.vars (s.fn H (ds ++ gs)).vars []) :
    s.post enc P f apart fresh handsOn false W args v W' :=
  ⟨ds, gs, before, [], before, [], hW, hres _ _ _, hargs, hvars, hb.frame _, fun h => by cases h⟩
theorem all_mk {H : Type} {enc : TypeId × Value → H} {P : Program} {w : World} {base : Nat} {spare : Nat → Bool} {held : Bool} {t : TypeId} {ts : List TypeId} {v : Value} {vs : List Value} {d : DataW H} {ds : List (DataW H)} {p p' : List MemPlace}
    (h : DataW.Trod enc P w base spare held t v d p) (h' : DataW.TrodAll enc P w base spare held ts vs ds p') : DataW.TrodAll enc P w base spare held (t :: ts) (v :: vs) (d :: ds) (p ++ p') := ⟨p, p', h, h', rfl⟩
theorem own : ownKnob Tryz.prog.godebug = none := by kernel_rfl
theorem laidOut : laidOutB Tryz.prog = true := by kernel_rfl

end Go.Proofs.YtcnnmgooolnebaaGreat

namespace Go.Proofs.YtcnnmgooolnebaaGreat
open Go.Proofs Go.Aw Go.RowKit
set_option maxRecDepth 100000
set_option linter.unusedVariables false
set_option linter.unusedSimpArgs false

/-! ### Scales -/
def sc (d : Int) : Int := if d = 0 then 1 else if d = 1 then 2 else if d = 2 then 4 else 8
theorem d4 {d : Int} (h : 0 ≤ d ∧ d ≤ 3) : d = 0 ∨ d = 1 ∨ d = 2 ∨ d = 3 := by omega
theorem sc_f {d : Int} (h : 0 ≤ d ∧ d ≤ 3) : W (1 * 2 ^ (min (Int.toNat d) 64)) = sc d := by
  rcases d4 h with rfl | rfl | rfl | rfl <;> kernel_rfl
theorem cnt_f {d : Int} (h : 0 ≤ d ∧ d ≤ 3) : W (1 * 2 ^ (min (Int.toNat (W (2 * d))) 64)) = sc d * sc d := by
  rcases d4 h with rfl | rfl | rfl | rfl <;> kernel_rfl
theorem cnt_len {d : Int} (h : 0 ≤ d ∧ d ≤ 3) (p : PN) : (((cutL d.toNat p).length : Nat) : Int) = sc d * sc d := by
  rw [cutL_len]; rcases d4 h with rfl | rfl | rfl | rfl <;> kernel_rfl
theorem sc_in (d : Int) : sc d = 1 ∨ sc d = 2 ∨ sc d = 4 ∨ sc d = 8 := by unfold sc; (repeat' split) <;> simp
theorem sc_bd (d : Int) : 1 ≤ sc d ∧ sc d ≤ 8 := by have := sc_in d; omega
def tm (s : Int) (p : P3) : P3 := (s * p.1, s * p.2.1, s * p.2.2)
theorem bd_tm {s m : Int} {p : P3} (hs : 1 ≤ s ∧ s ≤ 8) (hm : 0 ≤ m) (hp : bd m p) : bd (8 * m) (tm s p) := by
  have h1 := mul_bd (a := 8) (b := m) (x := s) (y := p.1) (by omega) hp.1
  have h2 := mul_bd (a := 8) (b := m) (x := s) (y := p.2.1) (by omega) hp.2.1
  have h3 := mul_bd (a := 8) (b := m) (x := s) (y := p.2.2) (by omega) hp.2.2
  exact ⟨h1, h2, h3⟩
theorem tm_W {s : Int} {p : P3} (hs : 1 ≤ s ∧ s ≤ 8) (hp : bd 4096 p) : ((W (s * p.1)), (W (s * p.2.1)), (W (s * p.2.2))) = tm s p := by
  have h := bd_tm hs (by omega) hp
  have h1 := h.1; have h2 := h.2.1; have h3 := h.2.2
  simp only [tm] at h1 h2 h3
  unfold tm
  rw [W_eq (n := s * p.1) (by omega) (by omega), W_eq (n := s * p.2.1) (by omega) (by omega), W_eq (n := s * p.2.2) (by omega) (by omega)]
theorem tm_f {s : Int} {p : P3} (hs : 1 ≤ s ∧ s ≤ 8) (hp : bd 4096 p) : F76 p s = tm s p := tm_W hs hp
/-! ### Spans of numbers that are small -/
theorem res_f {a b : Int} (h1 : -1099511627776 ≤ a) (h2 : a ≤ b) (h3 : b ≤ 1099511627776) : F34 a b = ((a, b), 0) := by
  unfold F34 F56
  rw [decide_eq_true (show (a, b).1 ≥ -1099511627776 from h1), decide_eq_true (show (a, b).1 ≤ (a, b).2 from h2), decide_eq_true (show (a, b).2 ≤ 1099511627776 from h3)]; rfl
/-! ### Roots of quotients -/
noncomputable def inv (N n : Int) : Int × Int :=
  (F115 (N / n), if F115 (N / n) * F115 (N / n) * n = N then F115 (N / n) else F115 (N / n) + 1)
theorem quo_bd {N n : Int} (hN : 0 ≤ N) (hn : 1 ≤ n) : 0 ≤ N / n ∧ N / n ≤ N ∧ (N / n) * n ≤ N := by
  have h1 : 0 ≤ N / n := Int.ediv_nonneg hN (by omega)
  have h2 : (N / n) * n ≤ N := Int.ediv_mul_le N (by omega)
  have h3 : (N / n) * 1 ≤ (N / n) * n := Int.mul_le_mul_of_nonneg_left hn h1
  omega
theorem inv_facts {N n : Int} (hN : 0 ≤ N ∧ N ≤ 288230376151711744) (hn : 1 ≤ n) :
    ∃ k, F115 (N / n) = k ∧ IsRt (N / n) k ∧ 0 ≤ k ∧ k ≤ 536870912 ∧ 0 ≤ k * k ∧ k * k ≤ N / n ∧ 0 ≤ k * k * n ∧ k * k * n ≤ N := by
  obtain ⟨h1, h2, h3⟩ := quo_bd hN.1 hn
  have h := rtSpan (n := N / n) h1 (by omega)
  have h4 := h.le (m := 536870912) (by omega) (by omega)
  have h5 : 0 ≤ F115 (N / n) * F115 (N / n) := Int.mul_nonneg h.1 h.1
  exact ⟨_, rfl, h, h.1, h4, h5, h.2.1, Int.mul_nonneg h5 (by omega), Int.le_trans (Int.mul_le_mul_of_nonneg_right h.2.1 (by omega)) h3⟩
theorem inv_f {N n : Int} (hN : 0 ≤ N ∧ N ≤ 288230376151711744) (hn : 1 ≤ n) : F82 N n = (inv N n, 0) := by
  obtain ⟨k, hk, _, k0, k1, k2, k3, k4, k5⟩ := inv_facts hN hn
  obtain ⟨h1, h2, h3⟩ := quo_bd hN.1 hn
  unfold F82 inv
  rw [Int.tdiv_eq_ediv_of_nonneg hN.1, W_eq (n := N / n) (by omega) (by omega), hk, W_eq (n := k * k) (by omega) (by omega), W_eq (n := k * k * n) (by omega) (by omega), W_eq (n := k + 1) (by omega) (by omega),
    res_f (by omega) (Int.le_refl k) (by omega), res_f (by omega) (by omega) (by omega)]
  by_cases h : k * k * n = N
  · rw [if_pos h, beq_iff_eq.2 h]; rfl
  · rw [if_neg h, beq_eq_false_iff_ne.2 h]; rfl
theorem inv_bd {N n : Int} (hN : 0 ≤ N ∧ N ≤ 288230376151711744) (hn : 1 ≤ n) : 0 ≤ (inv N n).1 ∧ (inv N n).1 ≤ (inv N n).2 ∧ (inv N n).2 ≤ 536870913 := by
  obtain ⟨k, hk, _, k0, k1, _⟩ := inv_facts hN hn
  unfold inv
  rw [hk]
  simp only
  split <;> omega
theorem inv_mono {N n m : Int} (hN : 0 ≤ N ∧ N ≤ 288230376151711744) (hn : 1 ≤ n) (hm : n ≤ m) : (inv N m).1 ≤ (inv N n).1 := by
  obtain ⟨h1, h2, h3⟩ := quo_bd hN.1 hn
  obtain ⟨g1, g2, g3⟩ := quo_bd (n := m) hN.1 (by omega)
  have h : N / m ≤ N / n := by
    refine Int.le_ediv_of_mul_le (by omega) (Int.le_trans (Int.mul_le_mul_of_nonneg_left hm g1) g3)
  exact (rtSpan g1 (by omega)).mono (rtSpan h1 (by omega)) h
def NN (s : Int) : Int := s * s * 1099511627776
theorem NN_bd {s : Int} (h : s = 1 ∨ s = 2 ∨ s = 4 ∨ s = 8) : 0 ≤ NN s ∧ NN s ≤ 288230376151711744 := by rcases h with rfl | rfl | rfl | rfl <;> decide
noncomputable def of1 (s n : Int) : Int × Int := if n < 1 then (0, 0) else inv (NN s) n
theorem lt8f {s : Int} (h : s = 1 ∨ s = 2 ∨ s = 4 ∨ s = 8) : decide (s < 1) = false ∧ decide (s > 8) = false := by
  rcases h with rfl | rfl | rfl | rfl <;> decide
theorem one_f {s n : Int} (hs : s = 1 ∨ s = 2 ∨ s = 4 ∨ s = 8) (hn : n ≤ 1000000000) : (F53 n s).1 = of1 s n := by
  obtain ⟨e1, e2⟩ := lt8f hs
  unfold F53 of1
  by_cases h : n < 1
  · rw [decide_eq_true h, cond_true, if_pos h]
  · have e : W ((W (s * s)) * 2 ^ (min (Int.toNat 40) 64)) = NN s := by rcases hs with rfl | rfl | rfl | rfl <;> kernel_rfl
    rw [decide_eq_false h, cond_false, decide_eq_false (show ¬ n > 1099511627776 by omega), cond_false, e1, cond_false, e2, cond_false, if_neg h, e, inv_f (NN_bd hs) (by omega)]
structure OfOk (of : Int → Int × Int) : Prop where
  lo : ∀ n, 0 ≤ (of n).1
  le : ∀ n, (of n).1 ≤ (of n).2
  hi : ∀ n, (of n).2 ≤ 536870913
  mono : ∀ n m, 1 ≤ n → n ≤ m → (of m).1 ≤ (of n).1
theorem of1_ok {s : Int} (hs : s = 1 ∨ s = 2 ∨ s = 4 ∨ s = 8) : OfOk (of1 s) := by
  have hb : ∀ n, 0 ≤ (of1 s n).1 ∧ (of1 s n).1 ≤ (of1 s n).2 ∧ (of1 s n).2 ≤ 536870913 := by
    intro n
    unfold of1
    split
    · simp
    · exact inv_bd (NN_bd hs) (by omega)
  refine ⟨fun n => (hb n).1, fun n => (hb n).2.1, fun n => (hb n).2.2, fun n m h1 h2 => ?_⟩
  unfold of1
  rw [if_neg (by omega), if_neg (by omega)]
  exact inv_mono (NN_bd hs) h1 h2
end Go.Proofs.YtcnnmgooolnebaaGreat

namespace Go.Proofs.YtcnnmgooolnebaaGreat
open Go.Proofs Go.Aw Go.RowKit
set_option maxRecDepth 100000
set_option linter.unusedVariables false
set_option linter.unusedSimpArgs false

/-! ### The mean -/
def fa (c : PN) (x : P3) : Int := mx (mx (mx 0 (ds c.1 x)) (ds c.2.1 x)) (ds c.2.2 x)
def ne (c : PN) (x : P3) : Int := nr (blo c) (bhi c) x x
theorem fa_f {c : PN} {x : P3} (hc : bdP 5000 c) (hx : bd 5000 x) : F80_L_L [(F78 c).1, (F78 c).2.1, (F78 c).2.2] [x] = fa c x := by
  refine (farF1 c x).trans ?_
  rw [fF_eq hc.1 hx, fF_eq hc.2.1 hx, fF_eq hc.2.2 hx]; rfl
theorem ne_f {c : PN} {x : P3} (hc : bdP 5000 c) (hx : bd 5000 x) : F79_3_1 (F78 c) x = ne c x := near31 hc hx
theorem ds_bd {p q : P3} (hp : bd 5000 p) (hq : bd 5000 q) : 0 ≤ ds p q ∧ ds p q ≤ 300000000 := by
  have h := bd_sb hp hq
  have := dt_bd h h
  exact ⟨dt_self _, by unfold ds; omega⟩
theorem fa_bd {c : PN} {x : P3} (hc : bdP 5000 c) (hx : bd 5000 x) : 0 ≤ fa c x ∧ fa c x ≤ 300000000 :=
  ⟨Int.le_trans (le_mx1 0 _) (Int.le_trans (le_mx1 _ _) (le_mx1 _ _)), mx_le (mx_le (mx_le (by omega) (ds_bd hc.1 hx).2) (ds_bd hc.2.1 hx).2) (ds_bd hc.2.2 hx).2⟩
theorem sq_le {a b : Int} (ha : 0 ≤ a) (h : a ≤ b ∨ a ≤ -b) : a * a ≤ b * b := by
  rcases h with h | h
  · exact Int.mul_le_mul h h ha (by omega)
  · have := Int.mul_le_mul h h ha (by omega)
    rwa [Int.neg_mul_neg] at this
theorem gp_le {a b c x : Int} (h1 : a ≤ c) (h2 : c ≤ b) : gp a b x x * gp a b x x ≤ (c - x) * (c - x) := by
  refine sq_le (gp_nn _ _ _ _) ?_
  unfold gp mx
  (repeat' split) <;> omega
theorem nr_nn (a b c d : P3) : 0 ≤ nr a b c d := by
  have h1 := sq_nn (gp a.1 b.1 c.1 d.1); have h2 := sq_nn (gp a.2.1 b.2.1 c.2.1 d.2.1); have h3 := sq_nn (gp a.2.2 b.2.2 c.2.2 d.2.2)
  unfold nr; omega
theorem ne_le (c : PN) (x : P3) : 0 ≤ ne c x ∧ ne c x ≤ fa c x := by
  refine ⟨nr_nn _ _ _ _, Int.le_trans ?_ (Int.le_trans (le_mx2 _ _) (Int.le_trans (le_mx1 _ (ds c.2.1 x)) (le_mx1 _ (ds c.2.2 x))))⟩
  have h1 := gp_le (x := x.1) (lo3_le c.1.1 c.2.1.1 c.2.2.1).1 (le_hi3 c.1.1 c.2.1.1 c.2.2.1).1
  have h2 := gp_le (x := x.2.1) (lo3_le c.1.2.1 c.2.1.2.1 c.2.2.2.1).1 (le_hi3 c.1.2.1 c.2.1.2.1 c.2.2.2.1).1
  have h3 := gp_le (x := x.2.2) (lo3_le c.1.2.2 c.2.1.2.2 c.2.2.2.2).1 (le_hi3 c.1.2.2 c.2.1.2.2 c.2.2.2.2).1
  unfold ne nr ds dt sb
  simp only [blo, bhi]
  omega
noncomputable def acc (of : Int → Int × Int) (x : P3) : List PN → Int × Int → (Int × Int) ⊕ ((Int × Int) × Int)
  | [], v => .inl v
  | c :: l, v => if ne c x = 0 then .inr ((0, 0), 10) else acc of x l (v.1 + (of (fa c x)).1, v.2 + (of (ne c x)).2)
def okv (v : Int × Int) (n : Nat) : Prop := 0 ≤ v.1 ∧ v.1 ≤ v.2 ∧ v.2 + 536870913 * n ≤ 34359738432
theorem okv_next {of : Int → Int × Int} (ho : OfOk of) {c : PN} {x : P3} {v : Int × Int} {n : Nat} (h : okv v (n + 1)) (hn : ne c x ≠ 0) :
    okv (v.1 + (of (fa c x)).1, v.2 + (of (ne c x)).2) n := by
  have h0 := ne_le c x
  have h1 := ho.lo (fa c x); have h2 := ho.mono (ne c x) (fa c x) (by omega) h0.2; have h3 := ho.le (ne c x); have h4 := ho.hi (ne c x)
  unfold okv at *; simp only; omega
theorem acc_ok {of : Int → Int × Int} (ho : OfOk of) {x : P3} : ∀ {l : List PN} {v w : Int × Int}, okv v l.length → acc of x l v = .inl w → okv w 0
  | [], v, w, h, e => by cases e; exact h
  | c :: l, v, w, h, e => by
    unfold acc at e
    split at e
    · cases e
    · rename_i hn; exact acc_ok ho (okv_next ho h hn) e
theorem acc_runL {of : Int → Int × Int} (ho : OfOk of) {x : P3} {S : Int × Int → PN → (Int × Int) ⊕ ((Int × Int) × Int)} :
    ∀ {l : List PN} {v : Int × Int}, (∀ c ∈ l, ∀ v : Int × Int, S v c = if ne c x = 0 then .inr ((0, 0), 10) else .inl (W (v.1 + (of (fa c x)).1), W (v.2 + (of (ne c x)).2))) → okv v l.length → runL S l v = acc of x l v
  | [], v, _, _ => rfl
  | c :: l, v, hS, h => by
    have h0 := hS c (List.mem_cons_self) v
    unfold runL acc
    rw [h0]
    by_cases hn : ne c x = 0
    · rw [if_pos hn, if_pos hn]
    · rw [if_neg hn, if_neg hn]
      have h1 := okv_next ho h hn
      have h2 := h1
      unfold okv at h2; simp only at h2
      simp only
      rw [W_eq (by omega) (by omega), W_eq (by omega) (by omega)]
      exact acc_runL ho (fun c hc => hS c (List.mem_cons_of_mem _ hc)) h1
/-! division by small numbers -/
theorem dn_f {a n : Int} (hn : n = 1 ∨ n = 4 ∨ n = 16 ∨ n = 64) (ha : -1099511627776 ≤ a ∧ a ≤ 1099511627776) : F117 a n = a / n := by
  unfold F117
  have h0 : ∀ b : Int, decide (n < 0) = false := fun _ => decide_eq_false (by omega)
  rw [h0 0]
  have key : (bif ((Int.tmod a n : Int) != 0) then (bif (!(decide (a < 0) == false)) then W (W (Int.tdiv a n) - 1) else W (Int.tdiv a n)) else W (Int.tdiv a n)) = if Int.tmod a n ≠ 0 ∧ a < 0 then W (W (Int.tdiv a n) - 1) else W (Int.tdiv a n) := by
    by_cases h1 : Int.tmod a n = 0
    · rw [h1]; simp
    · by_cases h2 : a < 0
      · rw [bne_iff_ne.2 h1, decide_eq_true h2, if_pos ⟨h1, h2⟩]; rfl
      · rw [bne_iff_ne.2 h1, decide_eq_false h2, if_neg (fun h => h2 h.2)]; rfl
  rw [key]
  rcases Int.lt_or_le a 0 with h | h
  · obtain ⟨b, rfl⟩ : ∃ b : Int, a = -b := ⟨-a, by omega⟩
    have hb : 0 ≤ b := by omega
    rw [Int.neg_tdiv, Int.neg_tmod, Int.tdiv_eq_ediv_of_nonneg hb, Int.tmod_eq_emod_of_nonneg hb]
    rcases hn with rfl | rfl | rfl | rfl <;>
    · rw [W_eq (n := -(b / _)) (by omega) (by omega)]
      split
      · rw [W_eq (by omega) (by omega)]; omega
      · omega
  · rw [if_neg (by omega), Int.tdiv_eq_ediv_of_nonneg h]
    rcases hn with rfl | rfl | rfl | rfl <;> exact W_eq (by omega) (by omega)
theorem up_f {a n : Int} (hn : n = 1 ∨ n = 4 ∨ n = 16 ∨ n = 64) (ha : -1099511627776 ≤ a ∧ a ≤ 1099511627776) : F118 a n = -(-a / n) := by
  unfold F118
  rw [W_eq (n := 0 - a) (by omega) (by omega), dn_f hn (by omega), Int.zero_sub]
  rcases hn with rfl | rfl | rfl | rfl <;> exact (W_eq (by omega) (by omega)).trans (by omega)
def avg (v : Int × Int) (n : Int) : Int × Int := (v.1 / n, -(-v.2 / n))
theorem val_f {a b : Int} (h1 : -1099511627776 ≤ a) (h2 : a ≤ b) (h3 : b ≤ 1099511627776) : F56 (a, b) = true := by
  unfold F56
  rw [decide_eq_true (show (a, b).1 ≥ -1099511627776 from h1), decide_eq_true (show (a, b).1 ≤ (a, b).2 from h2), decide_eq_true (show (a, b).2 ≤ 1099511627776 from h3)]; rfl
theorem avg_f {v : Int × Int} {n : Int} (hn : n = 1 ∨ n = 4 ∨ n = 16 ∨ n = 64) (h : okv v 0) : F81 v.1 v.2 n = avg v n := by
  unfold okv at h
  unfold F81 F114 F45_1
  rw [val_f (by omega) (by omega) (by omega)]
  simp only [Bool.not_true, cond_false, bne_self_eq_false]
  rw [decide_eq_false (show ¬ n < 1 by omega), decide_eq_false (show ¬ n > 1099511627776 by omega), cond_false, cond_false, dn_f hn (by omega), up_f hn (by omega)]
  have : v.1 / n ≤ -(-v.2 / n) ∧ -1099511627776 ≤ v.1 / n ∧ -(-v.2 / n) ≤ 1099511627776 := by
    rcases hn with rfl | rfl | rfl | rfl <;> omega
  rw [res_f this.2.1 this.1 this.2.2]; rfl
theorem cnt_in (d : Int) : sc d * sc d = 1 ∨ sc d * sc d = 4 ∨ sc d * sc d = 16 ∨ sc d * sc d = 64 := by
  rcases sc_in d with h | h | h | h <;> rw [h] <;> decide

end Go.Proofs.YtcnnmgooolnebaaGreat

namespace Go.Proofs.YtcnnmgooolnebaaGreat
open Go.Proofs Go.Aw Go.RowKit
set_option maxRecDepth 100000
set_option linter.unusedVariables false
set_option linter.unusedSimpArgs false

/-! ### The program's mean is the reference's -/
theorem thenL_ok {of : Int → Int × Int} (ho : OfOk of) {x : P3} {l : List PN} {R : Type} {G G' : Int × Int → R} {v : Int × Int} {w : (Int × Int) ⊕ R}
    (hv : okv v l.length) (hw : ∀ u, w = .inl u → acc of x l v = .inl u) (h : ∀ u, okv u 0 → G u = G' u) : thenL G w = thenL G' w := by
  cases w with
  | inl u => exact h u (acc_ok ho hv (hw u rfl))
  | inr r => rfl
theorem cutL_in {p c : PN} {d : Int} (hp : bdP 64 p) (hd : 0 ≤ d ∧ d ≤ 3) (hc : c ∈ cutL d.toNat p) : bdP 512 c := by
  have key : ∀ k : Nat, k ≤ 3 → c ∈ cutL k p → bdP 512 c := by
    intro k hk hc
    have : k = 0 ∨ k = 1 ∨ k = 2 ∨ k = 3 := by omega
    rcases this with rfl | rfl | rfl | rfl <;> exact (cutL_bd (m := 64) _ hp (by decide) (by decide) hc).mono (by decide)
  exact key _ (by omega) hc
theorem okv_0 {p : PN} {d : Int} (hd : 0 ≤ d ∧ d ≤ 3) : okv (0, 0) (cutL d.toNat p).length := by
  have h := cnt_len hd p
  have h1 := cnt_in d
  unfold okv; simp only; omega
noncomputable def meanS (of : Int → Int × Int) (p : PN) (x : P3) (d : Int) : (Int × Int) × Int :=
  thenL (fun v => (avg v (sc d * sc d), 0)) (acc of (tm (sc d) x) (cutL d.toNat p) (0, 0))
section
variable {p : PN} {x : P3} {d : Int}
theorem mean1_f (hp : bdP 64 p) (hx : bd 256 x) (hd : 0 ≤ d ∧ d ≤ 3) : F52_f53 p x d = meanS (of1 (sc d)) p x d := by
  have hs := sc_bd d
  have hx' : bd 5000 (tm (sc d) x) := (bd_tm hs (by omega) hx).mono (by omega)
  have ho := of1_ok (sc_in d)
  have hk := okv_0 (p := p) hd
  unfold F52_f53 meanS
  rw [acc_runL ho (x := tm (sc d) x) (S := S52_f53_r p x d) (fun c hc v => ?_) hk]
  · refine thenL_ok ho hk (fun u h => h) (fun u hu => ?_)
    show (F81 u.1 u.2 _, (0 : Int)) = _
    rw [cnt_f hd, avg_f (cnt_in d) hu]
  · have hb := (cutL_in hp hd hc).mono (show (512 : Int) ≤ 5000 by omega)
    obtain ⟨v1, v2⟩ := v
    simp only [S52_f53_r]
    rw [sc_f hd, tm_f hs (hx.mono (by omega)), ne_f hb hx', fa_f hb hx']
    have h1 := fa_bd hb hx'; have h2 := ne_le c (tm (sc d) x)
    rw [one_f (sc_in d) (by omega), one_f (sc_in d) (by omega)]
    by_cases h : ne c (tm (sc d) x) = 0
    · rw [if_pos h, beq_iff_eq.2 h, cond_true]
    · rw [if_neg h, beq_eq_false_iff_ne.2 h, cond_false]
end
noncomputable def meanV (of : Int → Int → Int × Int) (p : PN) (x : P3) (d : Int) : (Int × Int) × Int := if ck p x d = 0 then meanS (of (sc d)) p x d else ((0, 0), ck p x d)
theorem Mean_f (p : PN) (x : P3) (d : Int) : F29 p x d = meanV of1 p x d := by
  unfold F29 meanV
  rw [chk_eq]
  by_cases h : ck p x d = 0
  · obtain ⟨h1, h2, h3⟩ := ck_ok h
    rw [h, mean1_f (vp_ok h1).1 h2 h3]; rfl
  · rw [bne_iff_ne.2 h, if_neg h, cond_true]
end Go.Proofs.YtcnnmgooolnebaaGreat

namespace Go.Proofs.YtcnnmgooolnebaaGreat
open Go.Proofs Go.Aw Go.RowKit
set_option maxRecDepth 100000
set_option linter.unusedVariables false
set_option linter.unusedSimpArgs false

/-! ### The rim -/
def IsUp (T r : Int) : Prop := 0 ≤ r ∧ T ≤ r * r ∧ (r = 0 ∨ (r - 1) * (r - 1) < T)
theorem IsUp.le {T r m : Int} (h : IsUp T r) (hm : 0 ≤ m) (h' : T ≤ m * m) : r ≤ m := by
  rcases Int.lt_or_le m r with hlt | hle
  · rcases h.2.2 with h0 | h0
    · omega
    · have := Int.mul_le_mul (show m ≤ r - 1 by omega) (show m ≤ r - 1 by omega) hm (by omega)
      omega
  · exact hle
theorem IsUp.eq {T a b : Int} (h : IsUp T a) (h' : IsUp T b) : a = b := Int.le_antisymm (h.le h'.1 h'.2.1) (h'.le h.1 h.2.1)
end Go.Proofs.YtcnnmgooolnebaaGreat

namespace Go.Proofs.YtcnnmgooolnebaaGreat
open Go.Proofs Go.Aw Go.RowKit
set_option maxRecDepth 100000
set_option linter.unusedVariables false
set_option linter.unusedSimpArgs false

/-! ### Between -/
/-! the normal of a part is the panel's -/
/-! sums of bounds -/
theorem okv_add {lo hi : Int} {v : Int × Int} {n : Nat} (h : okv v (n + 1)) (h1 : 0 ≤ lo ∧ lo ≤ hi ∧ hi ≤ 536870913) : okv (v.1 + lo, v.2 + hi) n := by
  unfold okv at *; simp only; omega
section
variable {p q : PN} {d : Int}
end
end Go.Proofs.YtcnnmgooolnebaaGreat

namespace Go.Proofs.YtcnnmgooolnebaaGreat
open Go.Proofs Go.Aw Go.RowKit
set_option maxRecDepth 100000
set_option linter.unusedVariables false
set_option linter.unusedSimpArgs false

theorem v1_ok {a : Int × Int} (h : ((F45_1 a : Int) != 0) = false) : -1099511627776 ≤ a.1 ∧ a.1 ≤ a.2 ∧ a.2 ≤ 1099511627776 := by
  have h : F45_1 a = 0 := by simpa using h
  unfold F45_1 at h
  cases h0 : F56 a with
  | false => rw [h0] at h; cases h
  | true =>
    unfold F56 at h0
    by_cases h1 : a.1 ≥ -1099511627776
    · by_cases h2 : a.1 ≤ a.2
      · rw [decide_eq_true h1, cond_true, decide_eq_true h2, cond_true] at h0
        exact ⟨h1, h2, of_decide_eq_true h0⟩
      · rw [decide_eq_true h1, cond_true, decide_eq_false h2, cond_false] at h0; cases h0
    · rw [decide_eq_false h1, cond_false] at h0; cases h0

def F46 (a0 : Int) : Bool :=
  (bif (decide ((a0 : Int) ≥ (-1099511627776))) then
   (decide ((a0 : Int) ≤ 1099511627776))
  else
   false)

theorem C46 (a0 : Int) : Con Tryz.prog 46 [(iv a0)] [] (.v (.bool (F46 a0))) [] := by
  refine con_s Tryz.func46 (by kernel_rfl) fun cx hcx => ?_
  cases h0 : (decide ((a0 : Int) ≥ (-1099511627776))) with
  | true =>
   have q0 := of_decide_eq_true h0
   have e := Eq.refl (F46 a0); conv at e => rhs; simp only [F46, h0, cond_true, cond_false]
   rw [e]
   exact rt [.d h0] [] [] hcx (by kernel_rfl)
  | false =>
   have q0 := of_decide_eq_false h0
   have e := Eq.refl (F46 a0); conv at e => rhs; simp only [F46, h0, cond_true, cond_false]
   rw [e]
   exact rt [.d h0] [] [] hcx (by kernel_rfl)

def F23 (a0 : Int × Int) (a1 : Int) : (Int × Int) × Int :=
  (bif (((F45_1 a0) : Int) != 0) then
   ((0, 0), (F45_1 a0))
  else
   (bif (!(F46 a1)) then
    ((0, 0), 1)
   else
    ((F34 (if ((F47 a0.2 a1) : Int) < (F47 a0.1 a1) then (F47 a0.2 a1) else (F47 a0.1 a1)) (if ((F47 a0.1 a1) : Int) < (F47 a0.2 a1) then (F47 a0.2 a1) else (F47 a0.1 a1))).1, (F34 (if ((F47 a0.2 a1) : Int) < (F47 a0.1 a1) then (F47 a0.2 a1) else (F47 a0.1 a1)) (if ((F47 a0.1 a1) : Int) < (F47 a0.2 a1) then (F47 a0.2 a1) else (F47 a0.1 a1))).2)))

theorem C23 (a0 : Int × Int) (a1 : Int) : Con Tryz.prog 23 [(.a [(iv a0.1), (iv a0.2)]), (iv a1)] [] (.t [(.a (k2 (F23 a0 a1).1)), (iv (F23 a0 a1).2)]) [] := by
  refine con_s Tryz.func23 (by kernel_rfl) fun cx hcx => ?_
  let t0 : List (St Tryz.prog) := [.c [2] (C45_1 a0)]
  cases h0 : (((F45_1 a0) : Int) != 0) with
  | true =>
   have q0 := bne_iff_ne.1 h0
   have e := Eq.refl (F23 a0 a1); conv at e => rhs; simp only [F23, h0, cond_true, cond_false]
   rw [e]
   exact rt (t0 ++ [.d h0]) [] [] hcx (by kernel_rfl)
  | false =>
   have q0 := bne_eq_false_iff_eq.1 h0
   let t1 : List (St Tryz.prog) := (t0 ++ [.d h0, .c [] (C46 a1)])
   cases h1 : (!(F46 a1)) with
   | true =>
    have e := Eq.refl (F23 a0 a1); conv at e => rhs; simp only [F23, h0, h1, cond_true, cond_false]
    rw [e]
    exact rt (t1 ++ [.d h1]) [] [] hcx (by kernel_rfl)
   | false =>
    have e := Eq.refl (F23 a0 a1); conv at e => rhs; simp only [F23, h0, h1, cond_true, cond_false]
    rw [e]
    exact rt (t1 ++ [.d h1, .c [] (C47 a0.1 a1  (by have := v1_ok h0; omega)), .c [] (C47 a0.2 a1  (by have := v1_ok h0; omega)), .c [] (C34 (if ((F47 a0.2 a1) : Int) < (F47 a0.1 a1) then (F47 a0.2 a1) else (F47 a0.1 a1)) (if ((F47 a0.1 a1) : Int) < (F47 a0.2 a1) then (F47 a0.2 a1) else (F47 a0.1 a1)))]) [] [] hcx (by kernel_rfl)

end Go.Proofs.YtcnnmgooolnebaaGreat

namespace Go.Proofs.YtcnnmgooolnebaaGreat
open Go.Proofs Go.Aw Go.RowKit
set_option maxRecDepth 100000
set_option linter.unusedVariables false
set_option linter.unusedSimpArgs false

/-! ### Products that may be too large -/
def sat (x n : Int) : Int := if 1099511627776 < x * n then 1099511627777 else if x * n < -1099511627776 then -1099511627777 else x * n
theorem ab_mul (x n : Int) : (x * n = (if x < 0 then 0 - x else x) * (if n < 0 then 0 - n else n) ∧ ((x < 0) = (n < 0))) ∨ (x * n = -((if x < 0 then 0 - x else x) * (if n < 0 then 0 - n else n)) ∧ ¬ ((x < 0) = (n < 0))) := by
  by_cases h1 : x < 0
  · by_cases h2 : n < 0
    · left; rw [if_pos h1, if_pos h2]; exact ⟨by grind, by simp [h1, h2]⟩
    · right; rw [if_pos h1, if_neg h2]; exact ⟨by grind, by simp [h1, h2]⟩
  · by_cases h2 : n < 0
    · right; rw [if_neg h1, if_pos h2]; exact ⟨by grind, by simp [h1, h2]⟩
    · left; rw [if_neg h1, if_neg h2]; exact ⟨by grind, by simp [h1, h2]⟩
theorem prod_f {x n : Int} (hx : -1099511627776 ≤ x ∧ x ≤ 1099511627776) (hn : -1099511627776 ≤ n ∧ n ≤ 1099511627776) : F47 x n = sat x n := by
  have hm := ab_mul x n
  have ha : ∀ z : Int, (-1099511627776 ≤ z ∧ z ≤ 1099511627776) → (if (z : Int) < (W (0 - z)) then (W (0 - z)) else z) = if z < 0 then 0 - z else z := by
    intro z hz
    rw [W_eq (n := 0 - z) (by omega) (by omega)]
    (repeat' split) <;> omega
  unfold F47 sat
  rw [ha x hx, ha n hn]
  by_cases hx0 : x = 0
  · subst hx0; simp [W_eq]
  by_cases hn0 : n = 0
  · subst hn0; simp [W_eq]
  rw [bne_iff_ne.2 hx0, bne_iff_ne.2 hn0, cond_true, cond_true]
  have a1 : 1 ≤ (if x < 0 then 0 - x else x) ∧ (if x < 0 then 0 - x else x) ≤ 1099511627776 := by split <;> omega
  have a2 : 1 ≤ (if n < 0 then 0 - n else n) ∧ (if n < 0 then 0 - n else n) ≤ 1099511627776 := by split <;> omega
  have e : (!(decide (x < 0) == decide (n < 0))) = decide (x * n = -((if x < 0 then 0 - x else x) * (if n < 0 then 0 - n else n)) ∧ ¬ ((x < 0) = (n < 0))) := by
    by_cases h1 : x < 0 <;> by_cases h2 : n < 0 <;> simp [h1, h2] at hm ⊢ <;> omega
  rw [e]
  generalize (if x < 0 then 0 - x else x) = ax at *
  generalize (if n < 0 then 0 - n else n) = an at *
  rw [Int.tdiv_eq_ediv_of_nonneg (by omega)]
  obtain ⟨d1, d2, d3⟩ := quo_bd (N := 1099511627776) (n := ax) (by omega) (by omega)
  have d4 := Int.mul_ediv_add_emod 1099511627776 ax
  have d5 := Int.emod_lt_of_pos 1099511627776 (show 0 < ax by omega)
  rw [W_eq (n := 1099511627776 / ax) (by omega) (by omega)]
  have hbig : an > 1099511627776 / ax ↔ 1099511627776 < ax * an := by
    constructor
    · intro h
      have := Int.mul_le_mul_of_nonneg_left (show 1099511627776 / ax + 1 ≤ an by omega) (show 0 ≤ ax by omega)
      rw [Int.mul_add, Int.mul_one] at this; omega
    · intro h
      rcases Int.lt_or_le (1099511627776 / ax) an with h' | h'
      · exact h'
      · have := Int.mul_le_mul_of_nonneg_left h' (show 0 ≤ ax by omega)
        rw [Int.mul_comm] at d3; omega
  by_cases hb : an > 1099511627776 / ax
  · rw [decide_eq_true hb, cond_true]
    have := hbig.1 hb
    rcases hm with ⟨q1, q2⟩ | ⟨q1, q2⟩
    · rw [decide_eq_false (fun h => h.2 q2), cond_false, q1, if_pos (by omega)]
    · rw [decide_eq_true ⟨q1, q2⟩, cond_true, q1, if_neg (by omega), if_pos (by omega)]
  · rw [decide_eq_false hb, cond_false]
    have h1 : ax * an ≤ 1099511627776 := by
      rcases Int.lt_or_le 1099511627776 (ax * an) with h | h
      · exact absurd (hbig.2 h) hb
      · exact h
    have h2 : 0 ≤ ax * an := Int.mul_nonneg (by omega) (by omega)
    rcases hm with ⟨q1, q2⟩ | ⟨q1, q2⟩ <;> rw [q1, if_neg (by omega), if_neg (by omega)] <;> exact W_eq (by omega) (by omega)
theorem sat_mono {x y n : Int} (h : x ≤ y) (hn : 0 ≤ n) : sat x n ≤ sat y n := by
  have := Int.mul_le_mul_of_nonneg_right h hn
  unfold sat; (repeat' split) <;> omega
theorem sat_anti {x y n : Int} (h : x ≤ y) (hn : n ≤ 0) : sat y n ≤ sat x n := by
  have := Int.mul_le_mul_of_nonpos_right h hn
  unfold sat; (repeat' split) <;> omega
def scl (a : Int × Int) (n : Int) : Int × Int := if n < 0 then (sat a.2 n, sat a.1 n) else (sat a.1 n, sat a.2 n)
def vs (a : Int × Int) : Prop := -1099511627776 ≤ a.1 ∧ a.1 ≤ a.2 ∧ a.2 ≤ 1099511627776
theorem Scale_f {a : Int × Int} {n : Int} (ha : vs a) (hn : -1099511627776 ≤ n ∧ n ≤ 1099511627776) : F23 a n = F34 (scl a n).1 (scl a n).2 := by
  obtain ⟨h1, h2, h3⟩ := ha
  unfold F23 F45_1 F46
  rw [val_f (a := a.1) (b := a.2) h1 h2 h3, decide_eq_true (show n ≥ -1099511627776 from hn.1), decide_eq_true hn.2, prod_f (x := a.1) (by omega) hn, prod_f (x := a.2) (by omega) hn]
  show ((F34 _ _).1, (F34 _ _).2) = _
  unfold scl
  by_cases h : n < 0
  · have := sat_anti h2 (show n ≤ 0 by omega)
    rw [if_pos h]
    simp only
    rw [show (if (sat a.2 n : Int) < sat a.1 n then sat a.2 n else sat a.1 n) = sat a.2 n by split <;> omega, show (if (sat a.1 n : Int) < sat a.2 n then sat a.2 n else sat a.1 n) = sat a.1 n by split <;> omega]
  · have := sat_mono h2 (show 0 ≤ n by omega)
    rw [if_neg h]
    simp only
    rw [show (if (sat a.2 n : Int) < sat a.1 n then sat a.2 n else sat a.1 n) = sat a.1 n by split <;> omega, show (if (sat a.1 n : Int) < sat a.2 n then sat a.2 n else sat a.1 n) = sat a.2 n by split <;> omega]
/-! halves -/
theorem res_cases (a b : Int) : (F34 a b = ((a, b), 0) ∧ vs (a, b)) ∨ F34 a b = ((0, 0), 4) := by
  by_cases h : vs (a, b)
  · exact Or.inl ⟨res_f h.1 h.2.1 h.2.2, h⟩
  · right
    unfold F34
    have : F56 (a, b) = false := by
      unfold F56
      by_cases h1 : (a, b).1 ≥ -1099511627776
      · by_cases h2 : (a, b).1 ≤ (a, b).2
        · rw [decide_eq_true h1, decide_eq_true h2, cond_true, cond_true]; exact decide_eq_false (fun h3 => h ⟨h1, h2, h3⟩)
        · rw [decide_eq_true h1, decide_eq_false h2]; rfl
      · rw [decide_eq_false h1]; rfl
    rw [this]; rfl

end Go.Proofs.YtcnnmgooolnebaaGreat

namespace Go.Proofs.YtcnnmgooolnebaaGreat
open Go.Proofs Go.Aw Go.RowKit
set_option maxRecDepth 100000
set_option linter.unusedVariables false
set_option linter.unusedSimpArgs false

/-! ### Solid angles -/
def ht (p : PN) (x : P3) : Int := dt (sb p.1 x) (cr (sb p.2.1 x) (sb p.2.2 x))
theorem avg_vs {v : Int × Int} {n : Int} (hn : n = 1 ∨ n = 4 ∨ n = 16 ∨ n = 64) (h : okv v 0) : vs (avg v n) := by
  unfold okv at h; unfold vs avg; simp only
  rcases hn with rfl | rfl | rfl | rfl <;> omega
theorem meanS_vs {of : Int → Int × Int} (ho : OfOk of) {p : PN} {x : P3} {d : Int} (hd : 0 ≤ d ∧ d ≤ 3) : ((meanS of p x d).2 = 0 ∧ vs (meanS of p x d).1) ∨ meanS of p x d = ((0, 0), 10) := by
  unfold meanS
  cases h : acc of (tm (sc d) x) (cutL d.toNat p) (0, 0) with
  | inl v => exact Or.inl ⟨rfl, avg_vs (cnt_in d) (acc_ok ho (okv_0 hd) h)⟩
  | inr r =>
    right
    have key : ∀ (l : List PN) (v : Int × Int) (r : (Int × Int) × Int), acc of (tm (sc d) x) l v = .inr r → r = ((0, 0), 10) := by
      intro l
      induction l with
      | nil => intro v r h; cases h
      | cons c l ih =>
        intro v r h
        unfold acc at h
        split at h
        · cases h; rfl
        · exact ih _ _ h
    exact key _ _ _ h
theorem meanV_vs {p : PN} {x : P3} {d : Int} {of : Int → Int → Int × Int} (ho : ∀ s, s = 1 ∨ s = 2 ∨ s = 4 ∨ s = 8 → OfOk (of s)) (h : (meanV of p x d).2 = 0) : ck p x d = 0 ∧ vs (meanV of p x d).1 := by
  unfold meanV at *
  by_cases hc : ck p x d = 0
  · rw [if_pos hc] at *
    refine ⟨hc, ?_⟩
    rcases meanS_vs (ho _ (sc_in d)) (p := p) (x := x) (ck_ok hc).2.2 with h1 | h1
    · exact h1.2
    · rw [h1] at h; cases h
  · rw [if_neg hc] at h; exact absurd h hc
theorem of1_all : ∀ s : Int, s = 1 ∨ s = 2 ∨ s = 4 ∨ s = 8 → OfOk (of1 s) := fun s h => of1_ok h
/-! ### Corners exchanged -/
def zc (x : P3) (c : PN) : Int := if ne c x = 0 then 1 else 0
theorem sum_nn {l : List PN} {g : PN → Int} (h : ∀ c, 0 ≤ g c) : 0 ≤ (l.map g).sum := by
  induction l with
  | nil => simp
  | cons c l ih => have := h c; simp only [List.map_cons, List.sum_cons]; omega
theorem acc_sum (of : Int → Int × Int) (x : P3) : ∀ (l : List PN) (v : Int × Int), acc of x l v =
    if 0 < (l.map (zc x)).sum then .inr ((0, 0), 10) else .inl (v.1 + (l.map fun c => (of (fa c x)).1).sum, v.2 + (l.map fun c => (of (ne c x)).2).sum)
  | [], v => by simp [acc]
  | c :: l, v => by
    have hn : ∀ c, 0 ≤ zc x c := fun c => by unfold zc; split <;> omega
    have h0 := sum_nn (l := l) hn
    unfold acc
    rw [acc_sum of x l]
    simp only [List.map_cons, List.sum_cons]
    by_cases h : ne c x = 0
    · have e : zc x c = 1 := by unfold zc; rw [if_pos h]
      rw [if_pos h, e, if_pos (by omega)]
    · have e : zc x c = 0 := by unfold zc; rw [if_neg h]
      rw [if_neg h, e, Int.zero_add]
      by_cases h' : 0 < (l.map (zc x)).sum
      · rw [if_pos h', if_pos h']
      · rw [if_neg h', if_neg h', Int.add_assoc, Int.add_assoc]
theorem sat_neg (x n : Int) : sat x (-n) = -sat x n := by
  unfold sat; rw [Int.mul_neg]; (repeat' split) <;> omega
theorem scl_neg {m : Int × Int} (h : m.1 ≤ m.2) (n : Int) : scl m (-n) = (-(scl m n).2, -(scl m n).1) := by
  unfold scl
  rw [sat_neg, sat_neg]
  rcases Int.lt_trichotomy n 0 with h1 | h1 | h1
  · rw [if_pos h1, if_neg (by omega)]
  · subst h1
    have e : ∀ z, sat z 0 = 0 := fun z => by unfold sat; simp
    simp [e]
  · rw [if_neg (show ¬ n < 0 by omega), if_pos (show -n < 0 by omega)]
end Go.Proofs.YtcnnmgooolnebaaGreat

namespace Go.Proofs.YtcnnmgooolnebaaGreat
open Go.Proofs Go.Aw Go.RowKit
set_option maxRecDepth 100000
set_option linter.unusedVariables false
set_option linter.unusedSimpArgs false

/-! ### Finer parts -/
theorem sq2 (s t : Int) : (s + t) * (s + t) ≤ 2 * (s * s) + 2 * (t * t) := by
  have := sq_nn (s - t); grind
def ad (p q : P3) : P3 := (p.1 + q.1, p.2.1 + q.2.1, p.2.2 + q.2.2)
theorem ds_ad (a b x : P3) : ds (ad a b) (tm 2 x) ≤ 2 * ds a x + 2 * ds b x := by
  have h1 := sq2 (a.1 - x.1) (b.1 - x.1); have h2 := sq2 (a.2.1 - x.2.1) (b.2.1 - x.2.1); have h3 := sq2 (a.2.2 - x.2.2) (b.2.2 - x.2.2)
  have e1 : a.1 + b.1 - 2 * x.1 = a.1 - x.1 + (b.1 - x.1) := by omega
  have e2 : a.2.1 + b.2.1 - 2 * x.2.1 = a.2.1 - x.2.1 + (b.2.1 - x.2.1) := by omega
  have e3 : a.2.2 + b.2.2 - 2 * x.2.2 = a.2.2 - x.2.2 + (b.2.2 - x.2.2) := by omega
  unfold ds dt sb ad tm; simp only; rw [e1, e2, e3]; omega
theorem quad_ad {c y : PN} (h : bdP 100000 c) (hy : y ∈ quad c) : ∃ a1 b1 a2 b2 a3 b3 : P3, (a1 = c.1 ∨ a1 = c.2.1 ∨ a1 = c.2.2) ∧ (b1 = c.1 ∨ b1 = c.2.1 ∨ b1 = c.2.2) ∧ (a2 = c.1 ∨ a2 = c.2.1 ∨ a2 = c.2.2) ∧ (b2 = c.1 ∨ b2 = c.2.1 ∨ b2 = c.2.2) ∧ (a3 = c.1 ∨ a3 = c.2.1 ∨ a3 = c.2.2) ∧ (b3 = c.1 ∨ b3 = c.2.1 ∨ b3 = c.2.2) ∧ y = (ad a1 b1, ad a2 b2, ad a3 b3) := by
  unfold quad q1 q2 q3 q4 at hy
  rw [mid_f h.1 h.2.1, mid_f h.2.2 h.1, mid_f h.2.1 h.2.2, times_f h.1, times_f h.2.1, times_f h.2.2] at hy
  have e : ∀ p : P3, (2 * p.1, 2 * p.2.1, 2 * p.2.2) = ad p p := fun p => by unfold ad; simp only [Prod.mk.injEq]; omega
  rw [e, e, e] at hy
  simp only [List.mem_cons, List.mem_nil_iff, or_false] at hy
  rcases hy with rfl | rfl | rfl | rfl
  · exact ⟨c.1, c.1, c.1, c.2.1, c.2.2, c.1, by simp, by simp, by simp, by simp, by simp, by simp, rfl⟩
  · exact ⟨c.1, c.2.1, c.2.1, c.2.1, c.2.1, c.2.2, by simp, by simp, by simp, by simp, by simp, by simp, rfl⟩
  · exact ⟨c.2.2, c.1, c.2.1, c.2.2, c.2.2, c.2.2, by simp, by simp, by simp, by simp, by simp, by simp, rfl⟩
  · exact ⟨c.1, c.2.1, c.2.1, c.2.2, c.2.2, c.1, by simp, by simp, by simp, by simp, by simp, by simp, rfl⟩
theorem fa_ge (c : PN) (x a : P3) (h : a = c.1 ∨ a = c.2.1 ∨ a = c.2.2) : ds a x ≤ fa c x := by
  rcases h with rfl | rfl | rfl
  · exact Int.le_trans (le_mx2 _ _) (Int.le_trans (le_mx1 _ _) (le_mx1 _ _))
  · exact Int.le_trans (le_mx2 _ _) (le_mx1 _ _)
  · exact le_mx2 _ _
theorem fa_quad {c y : PN} {x : P3} (h : bdP 100000 c) (hy : y ∈ quad c) : fa y (tm 2 x) ≤ 4 * fa c x := by
  obtain ⟨a1, b1, a2, b2, a3, b3, h1, k1, h2, k2, h3, k3, rfl⟩ := quad_ad h hy
  have g1 := fa_ge c x a1 h1; have g2 := fa_ge c x b1 k1; have g3 := fa_ge c x a2 h2; have g4 := fa_ge c x b2 k2; have g5 := fa_ge c x a3 h3; have g6 := fa_ge c x b3 k3
  have f1 := ds_ad a1 b1 x; have f2 := ds_ad a2 b2 x; have f3 := ds_ad a3 b3 x
  have g0 : 0 ≤ fa c x := Int.le_trans (dt_self _) (fa_ge c x c.1 (Or.inl rfl))
  exact mx_le (mx_le (mx_le (by omega) (by simp only; omega)) (by simp only; omega)) (by simp only; omega)
theorem in3 {c : PN} {a : P3} (h : a = c.1 ∨ a = c.2.1 ∨ a = c.2.2) : (blo c).1 ≤ a.1 ∧ a.1 ≤ (bhi c).1 ∧ (blo c).2.1 ≤ a.2.1 ∧ a.2.1 ≤ (bhi c).2.1 ∧ (blo c).2.2 ≤ a.2.2 ∧ a.2.2 ≤ (bhi c).2.2 := by
  have l1 := lo3_le c.1.1 c.2.1.1 c.2.2.1; have l2 := lo3_le c.1.2.1 c.2.1.2.1 c.2.2.2.1; have l3 := lo3_le c.1.2.2 c.2.1.2.2 c.2.2.2.2
  have m1 := le_hi3 c.1.1 c.2.1.1 c.2.2.1; have m2 := le_hi3 c.1.2.1 c.2.1.2.1 c.2.2.2.1; have m3 := le_hi3 c.1.2.2 c.2.1.2.2 c.2.2.2.2
  unfold blo bhi
  rcases h with rfl | rfl | rfl
  · exact ⟨l1.1, m1.1, l2.1, m2.1, l3.1, m3.1⟩
  · exact ⟨l1.2.1, m1.2.1, l2.2.1, m2.2.1, l3.2.1, m3.2.1⟩
  · exact ⟨l1.2.2, m1.2.2, l2.2.2, m2.2.2, l3.2.2, m3.2.2⟩
theorem gp_two {a b a' b' x : Int} (h1 : 2 * a ≤ a') (h2 : b' ≤ 2 * b) : 4 * (gp a b x x * gp a b x x) ≤ gp a' b' (2 * x) (2 * x) * gp a' b' (2 * x) (2 * x) := by
  have h : 2 * gp a b x x ≤ gp a' b' (2 * x) (2 * x) := by
    unfold gp mx; (repeat' split) <;> omega
  have h0 := gp_nn a b x x
  have := Int.mul_le_mul h h (by omega) (gp_nn _ _ _ _)
  have e : 2 * gp a b x x * (2 * gp a b x x) = 4 * (gp a b x x * gp a b x x) := by grind
  omega
theorem ne_quad {c y : PN} {x : P3} (h : bdP 100000 c) (hy : y ∈ quad c) : 4 * ne c x ≤ ne y (tm 2 x) := by
  obtain ⟨a1, b1, a2, b2, a3, b3, h1, k1, h2, k2, h3, k3, rfl⟩ := quad_ad h hy
  have i1 := in3 h1; have i2 := in3 k1; have i3 := in3 h2; have i4 := in3 k2; have i5 := in3 h3; have i6 := in3 k3
  have key : ∀ u v w m : Int, m ≤ u → m ≤ v → m ≤ w → m ≤ lo3 u v w := fun u v w m e1 e2 e3 => by rcases lo3_in u v w with e | e | e <;> rw [e] <;> assumption
  have key2 : ∀ u v w m : Int, u ≤ m → v ≤ m → w ≤ m → hi3 u v w ≤ m := fun u v w m e1 e2 e3 => by rcases hi3_in u v w with e | e | e <;> rw [e] <;> assumption
  have g1 := gp_two (a := (blo c).1) (b := (bhi c).1) (x := x.1) (key (a1.1 + b1.1) (a2.1 + b2.1) (a3.1 + b3.1) _ (by omega) (by omega) (by omega)) (key2 (a1.1 + b1.1) (a2.1 + b2.1) (a3.1 + b3.1) _ (by omega) (by omega) (by omega))
  have g2 := gp_two (a := (blo c).2.1) (b := (bhi c).2.1) (x := x.2.1) (key (a1.2.1 + b1.2.1) (a2.2.1 + b2.2.1) (a3.2.1 + b3.2.1) _ (by omega) (by omega) (by omega)) (key2 (a1.2.1 + b1.2.1) (a2.2.1 + b2.2.1) (a3.2.1 + b3.2.1) _ (by omega) (by omega) (by omega))
  have g3 := gp_two (a := (blo c).2.2) (b := (bhi c).2.2) (x := x.2.2) (key (a1.2.2 + b1.2.2) (a2.2.2 + b2.2.2) (a3.2.2 + b3.2.2) _ (by omega) (by omega) (by omega)) (key2 (a1.2.2 + b1.2.2) (a2.2.2 + b2.2.2) (a3.2.2 + b3.2.2) _ (by omega) (by omega) (by omega))
  show 4 * (gp (blo c).1 (bhi c).1 x.1 x.1 * gp (blo c).1 (bhi c).1 x.1 x.1 + gp (blo c).2.1 (bhi c).2.1 x.2.1 x.2.1 * gp (blo c).2.1 (bhi c).2.1 x.2.1 x.2.1 + gp (blo c).2.2 (bhi c).2.2 x.2.2 x.2.2 * gp (blo c).2.2 (bhi c).2.2 x.2.2 x.2.2) ≤ _
  refine Int.le_trans ?_ (Int.add_le_add (Int.add_le_add g1 g2) g3)
  omega
/-! what is proved of a part holds of its parts -/
/-! sums -/
end Go.Proofs.YtcnnmgooolnebaaGreat

namespace Go.Proofs.YtcnnmgooolnebaaGreat
open Go.Proofs Go.Aw Go.RowKit
set_option maxRecDepth 100000
set_option linter.unusedVariables false
set_option linter.unusedSimpArgs false

end Go.Proofs.YtcnnmgooolnebaaGreat

namespace Go.Proofs.YtcnnmgooolnebaaGreat
open Go.Proofs Go.Aw Go.RowKit
set_option maxRecDepth 100000
set_option linter.unusedVariables false
set_option linter.unusedSimpArgs false

/-! ### Means of lists of spans -/
def sums : List (Int × Int) → Int × Int → Int × Int
  | [], v => v
  | a :: l, v => sums l (v.1 + a.1, v.2 + a.2)
theorem sums_eq : ∀ (l : List (Int × Int)) (v : Int × Int), sums l v = (v.1 + (l.map (·.1)).sum, v.2 + (l.map (·.2)).sum)
  | [], v => by simp [sums]
  | a :: l, v => by rw [sums, sums_eq l]; simp only [List.map_cons, List.sum_cons, Int.add_assoc]
def okE (a : Int × Int) : Prop := 0 ≤ a.1 ∧ a.1 ≤ a.2 ∧ a.2 ≤ 536870913
theorem sums_ok : ∀ {l : List (Int × Int)} {v : Int × Int}, (∀ a ∈ l, okE a) → okv v l.length → okv (sums l v) 0
  | [], v, _, h => h
  | a :: l, v, hl, h => sums_ok (l := l) (fun c hc => hl c (List.mem_cons_of_mem _ hc)) (okv_add h (hl a List.mem_cons_self))
theorem sums_loopF {R : Type} [Inhabited R] {S : Int × Int × Int → (Int × Int × Int) ⊕ R} {G : Int × Int → R} {L : List (Int × Int)} (hl : ∀ a ∈ L, okE a)
    (hS : ∀ (i : Nat) (a : Int × Int), L[i]? = some a → ∀ v1 v2 : Int, S (v1, v2, (i : Int)) = .inl (W (v1 + a.1), W (v2 + a.2), ((i + 1 : Nat) : Int)))
    (hE : ∀ v1 v2 : Int, S (v1, v2, (L.length : Int)) = .inr (G (v1, v2))) :
    ∀ (l : List (Int × Int)) (i n : Nat) (v : Int × Int), L.drop i = l → i ≤ L.length → l.length < n → okv v l.length → loopF S n (v.1, v.2, (i : Int)) = G (sums l v)
  | [], i, n, v, hd, hi', hn, h => by
    have : i = L.length := by have := List.drop_eq_nil_iff.1 hd; omega
    obtain ⟨n, rfl⟩ : ∃ m, n = m + 1 := ⟨n - 1, by simp only [List.length_nil] at hn; omega⟩
    subst this
    rw [loopF_inr (hE _ _)]; rfl
  | c :: l, i, n, v, hd, hi', hn, h => by
    have hc : L[i]? = some c := by
      have : (L.drop i)[0]? = some c := by rw [hd]; rfl
      simpa using this
    obtain ⟨hlt, hce⟩ := List.getElem?_eq_some_iff.1 hc
    obtain ⟨n, rfl⟩ : ∃ m, n = m + 1 := ⟨n - 1, by omega⟩
    have h1 := okv_add h (hl c (hce ▸ List.getElem_mem hlt))
    have h2 := h1
    unfold okv at h2; simp only at h2
    rw [loopF_inl (hS i c hc v.1 v.2), W_eq (by omega) (by omega), W_eq (by omega) (by omega)]
    exact sums_loopF hl hS hE l (i + 1) n _ (by rw [← List.drop_drop, hd]; rfl) (by omega) (by simp only [List.length_cons] at hn; omega) h1
section
variable {l : List (Int × Int)}
theorem okE_val {a : Int × Int} (h : okE a) : F56 a = true := val_f (a := a.1) (b := a.2) (by have := h.1; omega) h.2.1 (by have := h.2.2; omega)
theorem okv_len (hn : l.length ≤ 64) : okv (0, 0) l.length := by unfold okv; simp only; omega
theorem chkL (hl : ∀ a ∈ l, okE a) : F45_L l = 0 := by
  have key : ∀ (m : List (Int × Int)) (i n : Nat), l.drop i = m → i ≤ l.length → m.length < n → loopF (S45_L_0 l) n (i : Int) = 0 := by
    intro m
    induction m with
    | nil =>
      intro i n hd hi hn
      have : i = l.length := by have := List.drop_eq_nil_iff.1 hd; omega
      obtain ⟨n, rfl⟩ : ∃ m, n = m + 1 := ⟨n - 1, by simp only [List.length_nil] at hn; omega⟩
      subst this
      refine loopF_inr ?_
      simp only [S45_L_0]
      rw [decide_eq_false (Int.lt_irrefl _), cond_false]
    | cons c m ih =>
      intro i n hd hi hn
      have hc : l[i]? = some c := by
        have : (l.drop i)[0]? = some c := by rw [hd]; rfl
        simpa using this
      obtain ⟨hlt, hce⟩ := List.getElem?_eq_some_iff.1 hc
      obtain ⟨n, rfl⟩ : ∃ m, n = m + 1 := ⟨n - 1, by omega⟩
      have hg : l.getD i default = c := by rw [List.getD_eq_getElem?_getD, hc]; rfl
      have e : S45_L_0 l (i : Int) = .inl ((i + 1 : Nat) : Int) := by
        simp only [S45_L_0]
        rw [decide_eq_true (show ((i : Nat) : Int) < (l.length : Nat) by omega), cond_true, Int.toNat_natCast, hg, okE_val (hl c (hce ▸ List.getElem_mem hlt))]; rfl
      rw [loopF_inl e]
      exact ih (i + 1) n (by rw [← List.drop_drop, hd]; rfl) (by omega) (by simp only [List.length_cons] at hn; omega)
  unfold F45_L
  exact key l 0 _ rfl (Nat.zero_le _) (by omega)
theorem tot_f (hl : ∀ a ∈ l, okE a) (hn : l.length ≤ 64) : F33_L l = ((sums l (0, 0)).1, (sums l (0, 0)).2, 0) := by
  unfold F33_L
  rw [decide_eq_false (by omega), cond_false, chkL hl]
  show loopF _ _ (((0, 0) : Int × Int).1, ((0, 0) : Int × Int).2, ((0 : Nat) : Int)) = _
  refine sums_loopF (G := fun v => (v.1, v.2, 0)) hl (fun i a hi v1 v2 => ?_) (fun v1 v2 => ?_) l 0 _ (0, 0) rfl (Nat.zero_le _) (by omega) (okv_len hn)
  · obtain ⟨hlt, hce⟩ := List.getElem?_eq_some_iff.1 hi
    have hg : l.getD i default = a := by rw [List.getD_eq_getElem?_getD, hi]; rfl
    simp only [S33_L_0]
    rw [decide_eq_true (show ((i : Nat) : Int) < (l.length : Nat) by omega), cond_true, Int.toNat_natCast, hg]; rfl
  · simp only [S33_L_0]
    rw [decide_eq_false (Int.lt_irrefl _), cond_false]
theorem avg_bd {v : Int × Int} {n : Int} (hn : n = 1 ∨ n = 4 ∨ n = 16 ∨ n = 64) (h : okv v 0) : -1099511627776 ≤ v.1 / n ∧ v.1 / n ≤ -(-v.2 / n) ∧ -(-v.2 / n) ≤ 1099511627776 := by
  unfold okv at h; rcases hn with rfl | rfl | rfl | rfl <;> omega
theorem meanL_f (hl : ∀ a ∈ l, okE a) {n : Int} (hn : n = 1 ∨ n = 4 ∨ n = 16 ∨ n = 64) (hk : ((l.length : Nat) : Int) = n) : F85_L l = (avg (sums l (0, 0)) n, 0) := by
  have h64 : l.length ≤ 64 := by omega
  have ho := sums_ok hl (okv_len h64)
  have hb := avg_bd hn ho
  unfold okv at ho
  unfold F85_L
  rw [tot_f hl h64, hk, beq_eq_false_iff_ne.2 (show n ≠ 0 by omega), dn_f hn (by simp only; omega), up_f hn (by simp only; omega), res_f hb.1 hb.2.1 hb.2.2]; rfl
end
/-! ### The mean over two panels -/
end Go.Proofs.YtcnnmgooolnebaaGreat

namespace Go.Proofs.YtcnnmgooolnebaaGreat
open Go.Proofs Go.Aw Go.RowKit
set_option maxRecDepth 100000
set_option linter.unusedVariables false
set_option linter.unusedSimpArgs false

def F43 (a0 : Int) : Int :=
  (W (a0 * a0))

theorem C43 (a0 : Int) : Con Tryz.prog 43 [(iv a0)] [] (iv (F43 a0)) [] := by
  refine con_s Tryz.func43 (by kernel_rfl) fun cx hcx => ?_
  have e := Eq.refl (F43 a0); conv at e => rhs; simp only [F43]
  rw [e]
  exact rt [] [] [] hcx (by kernel_rfl)

def F106 (a0 : (Int × Int × Int) × (Int × Int × Int) × Int × Int × Int) : (Int × Int × Int) × (Int × Int × Int) × Int × Int × Int :=
  a0

theorem C106 (a0 : (Int × Int × Int) × (Int × Int × Int) × Int × Int × Int) : Con Tryz.prog 106 [(.a (k9 a0))] [] (.a (k9 (F106 a0))) [] := by
  refine con_s Tryz.func106 (by kernel_rfl) fun cx hcx => ?_
  have e := Eq.refl (F106 a0); conv at e => rhs; simp only [F106]
  rw [e]
  exact rt [] [] [] hcx (by kernel_rfl)

def F21 (a0 : Int × Int × Int) (a1 : Int × Int × Int) : Int :=
  (W ((W ((F43 (W (a0.1 - a1.1))) + (F43 (W (a0.2.1 - a1.2.1))))) + (F43 (W (a0.2.2 - a1.2.2)))))

theorem C21 (a0 : Int × Int × Int) (a1 : Int × Int × Int) : Con Tryz.prog 21 [(.a (k3 a0)), (.a (k3 a1))] [] (iv (F21 a0 a1)) [] := by
  refine con_s Tryz.func21 (by kernel_rfl) fun cx hcx => ?_
  have e := Eq.refl (F21 a0 a1); conv at e => rhs; simp only [F21]
  rw [e]
  exact rt [.c [] (C43 (W (a0.1 - a1.1))), .c [] (C43 (W (a0.2.1 - a1.2.1))), .c [] (C43 (W (a0.2.2 - a1.2.2)))] [] [] hcx (by kernel_rfl)

def F73 (a0 : (Int × Int × Int) × (Int × Int × Int) × Int × Int × Int) (a1 : Int × Int × Int) : Int :=
  (if ((if ((if (0 : Int) < (F21 (F106 a0).1 a1) then (F21 (F106 a0).1 a1) else 0) : Int) < (F21 (F106 a0).2.1 a1) then (F21 (F106 a0).2.1 a1) else (if (0 : Int) < (F21 (F106 a0).1 a1) then (F21 (F106 a0).1 a1) else 0)) : Int) < (F21 (F106 a0).2.2 a1) then (F21 (F106 a0).2.2 a1) else (if ((if (0 : Int) < (F21 (F106 a0).1 a1) then (F21 (F106 a0).1 a1) else 0) : Int) < (F21 (F106 a0).2.1 a1) then (F21 (F106 a0).2.1 a1) else (if (0 : Int) < (F21 (F106 a0).1 a1) then (F21 (F106 a0).1 a1) else 0)))

theorem C73 (a0 : (Int × Int × Int) × (Int × Int × Int) × Int × Int × Int) (a1 : Int × Int × Int) : Con Tryz.prog 73 [(.a (k9 a0)), (.a (k3 a1))] [] (iv (F73 a0 a1)) [] := by
  refine con_s Tryz.func73 (by kernel_rfl) fun cx hcx => ?_
  have e := Eq.refl (F73 a0 a1); conv at e => rhs; simp only [F73]
  rw [e]
  exact rt [.c [] (C106 a0), .u 200, .T, .i 0 3 (by decide), .c [] (C21 (F106 a0).1 a1), .u 0, .T, .i 1 3 (by decide), .c [] (C21 (F106 a0).2.1 a1), .u 0, .T, .i 2 3 (by decide), .c [] (C21 (F106 a0).2.2 a1), .u 0, .F] [] [] hcx (by kernel_rfl)

def F105_3 (a0 : Int) (a1 : (Int) × (Int) × (Int)) : Int :=
  (if ((if (0 : Int) < (W ((if (a1.2.2 : Int) < (if (a1.2.1 : Int) < (if (a1.1 : Int) < a1.1 then a1.1 else a1.1) then a1.2.1 else (if (a1.1 : Int) < a1.1 then a1.1 else a1.1)) then a1.2.2 else (if (a1.2.1 : Int) < (if (a1.1 : Int) < a1.1 then a1.1 else a1.1) then a1.2.1 else (if (a1.1 : Int) < a1.1 then a1.1 else a1.1))) - a0)) then (W ((if (a1.2.2 : Int) < (if (a1.2.1 : Int) < (if (a1.1 : Int) < a1.1 then a1.1 else a1.1) then a1.2.1 else (if (a1.1 : Int) < a1.1 then a1.1 else a1.1)) then a1.2.2 else (if (a1.2.1 : Int) < (if (a1.1 : Int) < a1.1 then a1.1 else a1.1) then a1.2.1 else (if (a1.1 : Int) < a1.1 then a1.1 else a1.1))) - a0)) else 0) : Int) < (W (a0 - (if ((if ((if (a1.1 : Int) < a1.1 then a1.1 else a1.1) : Int) < a1.2.1 then a1.2.1 else (if (a1.1 : Int) < a1.1 then a1.1 else a1.1)) : Int) < a1.2.2 then a1.2.2 else (if ((if (a1.1 : Int) < a1.1 then a1.1 else a1.1) : Int) < a1.2.1 then a1.2.1 else (if (a1.1 : Int) < a1.1 then a1.1 else a1.1))))) then (W (a0 - (if ((if ((if (a1.1 : Int) < a1.1 then a1.1 else a1.1) : Int) < a1.2.1 then a1.2.1 else (if (a1.1 : Int) < a1.1 then a1.1 else a1.1)) : Int) < a1.2.2 then a1.2.2 else (if ((if (a1.1 : Int) < a1.1 then a1.1 else a1.1) : Int) < a1.2.1 then a1.2.1 else (if (a1.1 : Int) < a1.1 then a1.1 else a1.1))))) else (if (0 : Int) < (W ((if (a1.2.2 : Int) < (if (a1.2.1 : Int) < (if (a1.1 : Int) < a1.1 then a1.1 else a1.1) then a1.2.1 else (if (a1.1 : Int) < a1.1 then a1.1 else a1.1)) then a1.2.2 else (if (a1.2.1 : Int) < (if (a1.1 : Int) < a1.1 then a1.1 else a1.1) then a1.2.1 else (if (a1.1 : Int) < a1.1 then a1.1 else a1.1))) - a0)) then (W ((if (a1.2.2 : Int) < (if (a1.2.1 : Int) < (if (a1.1 : Int) < a1.1 then a1.1 else a1.1) then a1.2.1 else (if (a1.1 : Int) < a1.1 then a1.1 else a1.1)) then a1.2.2 else (if (a1.2.1 : Int) < (if (a1.1 : Int) < a1.1 then a1.1 else a1.1) then a1.2.1 else (if (a1.1 : Int) < a1.1 then a1.1 else a1.1))) - a0)) else 0))

theorem C105_3 (a0 : Int) (a1 : (Int) × (Int) × (Int)) : Con Tryz.prog 105 [(iv a0), (.s 0 0 3 1)] [(.live false false (k3 a1))] (iv (F105_3 a0 a1)) [] := by
  refine con_s Tryz.func105 (by kernel_rfl) fun cx hcx => ?_
  have e := Eq.refl (F105_3 a0 a1); conv at e => rhs; simp only [F105_3]
  rw [e]
  exact rt [.i 0 3 (by decide), .i 0 3 (by decide), .u 200, .T, .i 0 3 (by decide), .u 0, .T, .i 1 3 (by decide), .u 0, .T, .i 2 3 (by decide), .u 0, .F] [] [] hcx (by kernel_rfl)

def F72 (a0 : (Int × Int × Int) × (Int × Int × Int) × Int × Int × Int) (a1 : Int × Int × Int) : Int :=
  (W ((W ((F43 (F105_3 a1.1 (a0.1.1, a0.2.1.1, a0.2.2.1))) + (F43 (F105_3 a1.2.1 (a0.1.2.1, a0.2.1.2.1, a0.2.2.2.1))))) + (F43 (F105_3 a1.2.2 (a0.1.2.2, a0.2.1.2.2, a0.2.2.2.2)))))

theorem C72 (a0 : (Int × Int × Int) × (Int × Int × Int) × Int × Int × Int) (a1 : Int × Int × Int) : Con Tryz.prog 72 [(.a (k9 a0)), (.a (k3 a1))] [] (iv (F72 a0 a1)) [] := by
  refine con_s Tryz.func72 (by kernel_rfl) fun cx hcx => ?_
  have e := Eq.refl (F72 a0 a1); conv at e => rhs; simp only [F72]
  rw [e]
  exact rt [.c [2] (C105_3 a1.1 (a0.1.1, a0.2.1.1, a0.2.2.1)), .c [] (C43 (F105_3 a1.1 (a0.1.1, a0.2.1.1, a0.2.2.1))), .c [3] (C105_3 a1.2.1 (a0.1.2.1, a0.2.1.2.1, a0.2.2.2.1)), .c [] (C43 (F105_3 a1.2.1 (a0.1.2.1, a0.2.1.2.1, a0.2.2.2.1))), .c [4] (C105_3 a1.2.2 (a0.1.2.2, a0.2.1.2.2, a0.2.2.2.2)), .c [] (C43 (F105_3 a1.2.2 (a0.1.2.2, a0.2.1.2.2, a0.2.2.2.2)))] [] [] hcx (by kernel_rfl)

def F31 (a0 : Int) (a1 : Int) (a2 : Int) : Bool :=
  (bif (decide ((a1 : Int) ≤ a0)) then
   (decide ((a0 : Int) ≤ a2))
  else
   false)

theorem C31 (a0 : Int) (a1 : Int) (a2 : Int) : Con Tryz.prog 31 [(iv a0), (iv a1), (iv a2)] [] (.v (.bool (F31 a0 a1 a2))) [] := by
  refine con_s Tryz.func31 (by kernel_rfl) fun cx hcx => ?_
  cases h0 : (decide ((a1 : Int) ≤ a0)) with
  | true =>
   have q0 := of_decide_eq_true h0
   have e := Eq.refl (F31 a0 a1 a2); conv at e => rhs; simp only [F31, h0, cond_true, cond_false]
   rw [e]
   exact rt [.d h0] [] [] hcx (by kernel_rfl)
  | false =>
   have q0 := of_decide_eq_false h0
   have e := Eq.refl (F31 a0 a1 a2); conv at e => rhs; simp only [F31, h0, cond_true, cond_false]
   rw [e]
   exact rt [.d h0] [] [] hcx (by kernel_rfl)

def F18 (a0 : Int × Int × Int) : Bool :=
  (bif (F31 a0.1 (-256) 256) then
   (bif (F31 a0.2.1 (-256) 256) then
    (F31 a0.2.2 (-256) 256)
   else
    false)
  else
   false)

theorem C18 (a0 : Int × Int × Int) : Con Tryz.prog 18 [(.a (k3 a0))] [] (.v (.bool (F18 a0))) [] := by
  refine con_s Tryz.func18 (by kernel_rfl) fun cx hcx => ?_
  let t0 : List (St Tryz.prog) := [.c [] (C31 a0.1 (-256) 256)]
  cases h0 : (F31 a0.1 (-256) 256) with
  | true =>
   let t1 : List (St Tryz.prog) := (t0 ++ [.d h0, .c [] (C31 a0.2.1 (-256) 256)])
   cases h1 : (F31 a0.2.1 (-256) 256) with
   | true =>
    have e := Eq.refl (F18 a0); conv at e => rhs; simp only [F18, h0, h1, cond_true, cond_false]
    rw [e]
    exact rt (t1 ++ [.d h1, .c [] (C31 a0.2.2 (-256) 256)]) [] [] hcx (by kernel_rfl)
   | false =>
    have e := Eq.refl (F18 a0); conv at e => rhs; simp only [F18, h0, h1, cond_true, cond_false]
    rw [e]
    exact rt (t1 ++ [.d h1]) [] [] hcx (by kernel_rfl)
  | false =>
   have e := Eq.refl (F18 a0); conv at e => rhs; simp only [F18, h0, cond_true, cond_false]
   rw [e]
   exact rt (t0 ++ [.d h0]) [] [] hcx (by kernel_rfl)

def F19 (a0 : Int) : Bool :=
  (F31 a0 1 16)

theorem C19 (a0 : Int) : Con Tryz.prog 19 [(iv a0)] [] (.v (.bool (F19 a0))) [] := by
  refine con_s Tryz.func19 (by kernel_rfl) fun cx hcx => ?_
  have e := Eq.refl (F19 a0); conv at e => rhs; simp only [F19]
  rw [e]
  exact rt [.c [] (C31 a0 1 16)] [] [] hcx (by kernel_rfl)

def F30 (a0 : Int) : Bool :=
  (F31 a0 0 2000)

theorem C30 (a0 : Int) : Con Tryz.prog 30 [(iv a0)] [] (.v (.bool (F30 a0))) [] := by
  refine con_s Tryz.func30 (by kernel_rfl) fun cx hcx => ?_
  have e := Eq.refl (F30 a0); conv at e => rhs; simp only [F30]
  rw [e]
  exact rt [.c [] (C31 a0 0 2000)] [] [] hcx (by kernel_rfl)

def F26 (a0 : Int) : Bool :=
  (F31 a0 0 3)

theorem C26 (a0 : Int) : Con Tryz.prog 26 [(iv a0)] [] (.v (.bool (F26 a0))) [] := by
  refine con_s Tryz.func26 (by kernel_rfl) fun cx hcx => ?_
  have e := Eq.refl (F26 a0); conv at e => rhs; simp only [F26]
  rw [e]
  exact rt [.c [] (C31 a0 0 3)] [] [] hcx (by kernel_rfl)

def F48_1 (a0 : ((Int × Int × Int) × (Int × Int × Int) × Int × Int × Int) × Int × Int) : Int :=
  (bif (((F71 a0.1) : Int) != 0) then
   (F71 a0.1)
  else
   (bif (!(F31 a0.2.1 0 1000)) then
    1
   else
    (bif (!(F31 a0.2.2 (-100) 100)) then
     1
    else
     0)))

theorem C48_1 (a0 : ((Int × Int × Int) × (Int × Int × Int) × Int × Int × Int) × Int × Int) : Con Tryz.prog 48 [(.s 0 0 1 11)] [(.live false false [(iv a0.1.1.1), (iv a0.1.1.2.1), (iv a0.1.1.2.2), (iv a0.1.2.1.1), (iv a0.1.2.1.2.1), (iv a0.1.2.1.2.2), (iv a0.1.2.2.1), (iv a0.1.2.2.2.1), (iv a0.1.2.2.2.2), (iv a0.2.1), (iv a0.2.2)])] (iv (F48_1 a0)) [] := by
  refine con_s Tryz.func48 (by kernel_rfl) fun cx hcx => ?_
  let t0 : List (St Tryz.prog) := [.F, .u 200, .T, .i 0 1 (by decide), .c [] (C71 a0.1)]
  cases h0 : (((F71 a0.1) : Int) != 0) with
  | true =>
   have q0 := bne_iff_ne.1 h0
   have e := Eq.refl (F48_1 a0); conv at e => rhs; simp only [F48_1, h0, cond_true, cond_false]
   rw [e]
   exact rt (t0 ++ [.d h0]) [] [] hcx (by kernel_rfl)
  | false =>
   have q0 := bne_eq_false_iff_eq.1 h0
   let t1 : List (St Tryz.prog) := (t0 ++ [.d h0, .c [] (C31 a0.2.1 0 1000)])
   cases h1 : (!(F31 a0.2.1 0 1000)) with
   | true =>
    have e := Eq.refl (F48_1 a0); conv at e => rhs; simp only [F48_1, h0, h1, cond_true, cond_false]
    rw [e]
    exact rt (t1 ++ [.d h1]) [] [] hcx (by kernel_rfl)
   | false =>
    let t2 : List (St Tryz.prog) := (t1 ++ [.d h1, .c [] (C31 a0.2.2 (-100) 100)])
    cases h2 : (!(F31 a0.2.2 (-100) 100)) with
    | true =>
     have e := Eq.refl (F48_1 a0); conv at e => rhs; simp only [F48_1, h0, h1, h2, cond_true, cond_false]
     rw [e]
     exact rt (t2 ++ [.d h2]) [] [] hcx (by kernel_rfl)
    | false =>
     have e := Eq.refl (F48_1 a0); conv at e => rhs; simp only [F48_1, h0, h1, h2, cond_true, cond_false]
     rw [e]
     exact rt (t2 ++ [.d h2, .u 0, .F]) [] [] hcx (by kernel_rfl)

def F24_1 (a0 : ((Int × Int × Int) × (Int × Int × Int) × Int × Int × Int) × Int × Int) (a1 : Bool) : Int :=
  (bif (((F48_1 a0) : Int) != 0) then
   (F48_1 a0)
  else
   (bif (!a1) then
    1
   else
    0))

theorem C24_1 (a0 : ((Int × Int × Int) × (Int × Int × Int) × Int × Int × Int) × Int × Int) (a1 : Bool) : Con Tryz.prog 24 [(.s 0 0 1 11), (.v (.bool a1))] [(.live false false [(iv a0.1.1.1), (iv a0.1.1.2.1), (iv a0.1.1.2.2), (iv a0.1.2.1.1), (iv a0.1.2.1.2.1), (iv a0.1.2.1.2.2), (iv a0.1.2.2.1), (iv a0.1.2.2.2.1), (iv a0.1.2.2.2.2), (iv a0.2.1), (iv a0.2.2)])] (iv (F24_1 a0 a1)) [] := by
  refine con_s Tryz.func24 (by kernel_rfl) fun cx hcx => ?_
  let t0 : List (St Tryz.prog) := [.c [0] (C48_1 a0)]
  cases h0 : (((F48_1 a0) : Int) != 0) with
  | true =>
   have q0 := bne_iff_ne.1 h0
   have e := Eq.refl (F24_1 a0 a1); conv at e => rhs; simp only [F24_1, h0, cond_true, cond_false]
   rw [e]
   exact rt (t0 ++ [.d h0]) [] [] hcx (by kernel_rfl)
  | false =>
   have q0 := bne_eq_false_iff_eq.1 h0
   let t1 : List (St Tryz.prog) := (t0 ++ [.d h0])
   cases h1 : (!a1) with
   | true =>
    have e := Eq.refl (F24_1 a0 a1); conv at e => rhs; simp only [F24_1, h0, h1, cond_true, cond_false]
    rw [e]
    exact rt (t1 ++ [.d h1]) [] [] hcx (by kernel_rfl)
   | false =>
    have e := Eq.refl (F24_1 a0 a1); conv at e => rhs; simp only [F24_1, h0, h1, cond_true, cond_false]
    rw [e]
    exact rt (t1 ++ [.d h1]) [] [] hcx (by kernel_rfl)

def F87 (a0 : Int) : Int :=
  (if (a0 : Int) < (W (0 - a0)) then (W (0 - a0)) else a0)

theorem C87 (a0 : Int) : Con Tryz.prog 87 [(iv a0)] [] (iv (F87 a0)) [] := by
  refine con_s Tryz.func87 (by kernel_rfl) fun cx hcx => ?_
  have e := Eq.refl (F87 a0); conv at e => rhs; simp only [F87]
  rw [e]
  exact rt [] [] [] hcx (by kernel_rfl)

def F58 (a0 : Int × Int × Int) (a1 : Int) : Bool :=
  (bif (decide (((F87 a0.1) : Int) ≤ a1)) then
   (bif (decide (((F87 a0.2.1) : Int) ≤ a1)) then
    (bif (decide (((F87 a0.2.2) : Int) ≤ a1)) then
     (bif (decide ((a0.1 : Int) ≥ (W (0 - a1)))) then
      (bif (decide ((a0.2.1 : Int) ≥ (W (0 - a1)))) then
       (decide ((a0.2.2 : Int) ≥ (W (0 - a1))))
      else
       false)
     else
      false)
    else
     false)
   else
    false)
  else
   false)

theorem C58 (a0 : Int × Int × Int) (a1 : Int) : Con Tryz.prog 58 [(.a (k3 a0)), (iv a1)] [] (.v (.bool (F58 a0 a1))) [] := by
  refine con_s Tryz.func58 (by kernel_rfl) fun cx hcx => ?_
  let t0 : List (St Tryz.prog) := [.c [] (C87 a0.1)]
  cases h0 : (decide (((F87 a0.1) : Int) ≤ a1)) with
  | true =>
   have q0 := of_decide_eq_true h0
   let t1 : List (St Tryz.prog) := (t0 ++ [.d h0, .c [] (C87 a0.2.1)])
   cases h1 : (decide (((F87 a0.2.1) : Int) ≤ a1)) with
   | true =>
    have q1 := of_decide_eq_true h1
    let t2 : List (St Tryz.prog) := (t1 ++ [.d h1, .c [] (C87 a0.2.2)])
    cases h2 : (decide (((F87 a0.2.2) : Int) ≤ a1)) with
    | true =>
     have q2 := of_decide_eq_true h2
     let t3 : List (St Tryz.prog) := (t2 ++ [.d h2])
     cases h3 : (decide ((a0.1 : Int) ≥ (W (0 - a1)))) with
     | true =>
      have q3 := of_decide_eq_true h3
      let t4 : List (St Tryz.prog) := (t3 ++ [.d h3])
      cases h4 : (decide ((a0.2.1 : Int) ≥ (W (0 - a1)))) with
      | true =>
       have q4 := of_decide_eq_true h4
       have e := Eq.refl (F58 a0 a1); conv at e => rhs; simp only [F58, h0, h1, h2, h3, h4, cond_true, cond_false]
       rw [e]
       exact rt (t4 ++ [.d h4]) [] [] hcx (by kernel_rfl)
      | false =>
       have q4 := of_decide_eq_false h4
       have e := Eq.refl (F58 a0 a1); conv at e => rhs; simp only [F58, h0, h1, h2, h3, h4, cond_true, cond_false]
       rw [e]
       exact rt (t4 ++ [.d h4]) [] [] hcx (by kernel_rfl)
     | false =>
      have q3 := of_decide_eq_false h3
      have e := Eq.refl (F58 a0 a1); conv at e => rhs; simp only [F58, h0, h1, h2, h3, cond_true, cond_false]
      rw [e]
      exact rt (t3 ++ [.d h3]) [] [] hcx (by kernel_rfl)
    | false =>
     have q2 := of_decide_eq_false h2
     have e := Eq.refl (F58 a0 a1); conv at e => rhs; simp only [F58, h0, h1, h2, cond_true, cond_false]
     rw [e]
     exact rt (t2 ++ [.d h2]) [] [] hcx (by kernel_rfl)
   | false =>
    have q1 := of_decide_eq_false h1
    have e := Eq.refl (F58 a0 a1); conv at e => rhs; simp only [F58, h0, h1, cond_true, cond_false]
    rw [e]
    exact rt (t1 ++ [.d h1]) [] [] hcx (by kernel_rfl)
  | false =>
   have q0 := of_decide_eq_false h0
   have e := Eq.refl (F58 a0 a1); conv at e => rhs; simp only [F58, h0, cond_true, cond_false]
   rw [e]
   exact rt (t0 ++ [.d h0]) [] [] hcx (by kernel_rfl)

def F59 (a0 : Int) (a1 : Int) (a2 : Int) : Bool :=
  (bif (decide ((a0 : Int) ≥ a1)) then
   (decide ((a0 : Int) ≤ a2))
  else
   false)

theorem C59 (a0 : Int) (a1 : Int) (a2 : Int) : Con Tryz.prog 59 [(iv a0), (iv a1), (iv a2)] [] (.v (.bool (F59 a0 a1 a2))) [] := by
  refine con_s Tryz.func59 (by kernel_rfl) fun cx hcx => ?_
  cases h0 : (decide ((a0 : Int) ≥ a1)) with
  | true =>
   have q0 := of_decide_eq_true h0
   have e := Eq.refl (F59 a0 a1 a2); conv at e => rhs; simp only [F59, h0, cond_true, cond_false]
   rw [e]
   exact rt [.d h0] [] [] hcx (by kernel_rfl)
  | false =>
   have q0 := of_decide_eq_false h0
   have e := Eq.refl (F59 a0 a1 a2); conv at e => rhs; simp only [F59, h0, cond_true, cond_false]
   rw [e]
   exact rt [.d h0] [] [] hcx (by kernel_rfl)

def F39 (a0 : Int × Int × Int) (a1 : Int) (a2 : Int) (a3 : Int) : Int :=
  (bif (!(F58 a0 256)) then
   1
  else
   (bif (!(F59 a1 1 16)) then
    1
   else
    (bif (!(F59 a2 0 2000)) then
     1
    else
     (bif (!(F59 a3 0 3)) then
      1
     else
      0))))

theorem C39 (a0 : Int × Int × Int) (a1 : Int) (a2 : Int) (a3 : Int) : Con Tryz.prog 39 [(.a (k3 a0)), (iv a1), (iv a2), (iv a3)] [] (iv (F39 a0 a1 a2 a3)) [] := by
  refine con_s Tryz.func39 (by kernel_rfl) fun cx hcx => ?_
  let t0 : List (St Tryz.prog) := [.c [] (C58 a0 256)]
  cases h0 : (!(F58 a0 256)) with
  | true =>
   have e := Eq.refl (F39 a0 a1 a2 a3); conv at e => rhs; simp only [F39, h0, cond_true, cond_false]
   rw [e]
   exact rt (t0 ++ [.d h0]) [] [] hcx (by kernel_rfl)
  | false =>
   let t1 : List (St Tryz.prog) := (t0 ++ [.d h0, .c [] (C59 a1 1 16)])
   cases h1 : (!(F59 a1 1 16)) with
   | true =>
    have e := Eq.refl (F39 a0 a1 a2 a3); conv at e => rhs; simp only [F39, h0, h1, cond_true, cond_false]
    rw [e]
    exact rt (t1 ++ [.d h1]) [] [] hcx (by kernel_rfl)
   | false =>
    let t2 : List (St Tryz.prog) := (t1 ++ [.d h1, .c [] (C59 a2 0 2000)])
    cases h2 : (!(F59 a2 0 2000)) with
    | true =>
     have e := Eq.refl (F39 a0 a1 a2 a3); conv at e => rhs; simp only [F39, h0, h1, h2, cond_true, cond_false]
     rw [e]
     exact rt (t2 ++ [.d h2]) [] [] hcx (by kernel_rfl)
    | false =>
     let t3 : List (St Tryz.prog) := (t2 ++ [.d h2, .c [] (C59 a3 0 3)])
     cases h3 : (!(F59 a3 0 3)) with
     | true =>
      have e := Eq.refl (F39 a0 a1 a2 a3); conv at e => rhs; simp only [F39, h0, h1, h2, h3, cond_true, cond_false]
      rw [e]
      exact rt (t3 ++ [.d h3]) [] [] hcx (by kernel_rfl)
     | false =>
      have e := Eq.refl (F39 a0 a1 a2 a3); conv at e => rhs; simp only [F39, h0, h1, h2, h3, cond_true, cond_false]
      rw [e]
      exact rt (t3 ++ [.d h3]) [] [] hcx (by kernel_rfl)

def F57 (a0 : ((Int × Int × Int) × (Int × Int × Int) × Int × Int × Int) × Int × Int) : Int :=
  (bif (((F86 a0.1) : Int) != 0) then
   (F86 a0.1)
  else
   (bif (!(F59 a0.2.1 0 1000)) then
    1
   else
    (bif (!(F59 a0.2.2 (-100) 100)) then
     1
    else
     0)))

theorem C57 (a0 : ((Int × Int × Int) × (Int × Int × Int) × Int × Int × Int) × Int × Int) : Con Tryz.prog 57 [(.a [(iv a0.1.1.1), (iv a0.1.1.2.1), (iv a0.1.1.2.2), (iv a0.1.2.1.1), (iv a0.1.2.1.2.1), (iv a0.1.2.1.2.2), (iv a0.1.2.2.1), (iv a0.1.2.2.2.1), (iv a0.1.2.2.2.2), (iv a0.2.1), (iv a0.2.2)])] [] (iv (F57 a0)) [] := by
  refine con_s Tryz.func57 (by kernel_rfl) fun cx hcx => ?_
  let t0 : List (St Tryz.prog) := [.c [] (C86 a0.1)]
  cases h0 : (((F86 a0.1) : Int) != 0) with
  | true =>
   have q0 := bne_iff_ne.1 h0
   have e := Eq.refl (F57 a0); conv at e => rhs; simp only [F57, h0, cond_true, cond_false]
   rw [e]
   exact rt (t0 ++ [.d h0]) [] [] hcx (by kernel_rfl)
  | false =>
   have q0 := bne_eq_false_iff_eq.1 h0
   let t1 : List (St Tryz.prog) := (t0 ++ [.d h0, .c [] (C59 a0.2.1 0 1000)])
   cases h1 : (!(F59 a0.2.1 0 1000)) with
   | true =>
    have e := Eq.refl (F57 a0); conv at e => rhs; simp only [F57, h0, h1, cond_true, cond_false]
    rw [e]
    exact rt (t1 ++ [.d h1]) [] [] hcx (by kernel_rfl)
   | false =>
    let t2 : List (St Tryz.prog) := (t1 ++ [.d h1, .c [] (C59 a0.2.2 (-100) 100)])
    cases h2 : (!(F59 a0.2.2 (-100) 100)) with
    | true =>
     have e := Eq.refl (F57 a0); conv at e => rhs; simp only [F57, h0, h1, h2, cond_true, cond_false]
     rw [e]
     exact rt (t2 ++ [.d h2]) [] [] hcx (by kernel_rfl)
    | false =>
     have e := Eq.refl (F57 a0); conv at e => rhs; simp only [F57, h0, h1, h2, cond_true, cond_false]
     rw [e]
     exact rt (t2 ++ [.d h2]) [] [] hcx (by kernel_rfl)

def F89 (a0 : Int) (a1 : Int) (a2 : Int) : Int :=
  (if ((if ((W (a1 - a0)) : Int) < (W (a0 - a2)) then (W (a0 - a2)) else (W (a1 - a0))) : Int) < 0 then 0 else (if ((W (a1 - a0)) : Int) < (W (a0 - a2)) then (W (a0 - a2)) else (W (a1 - a0))))

theorem C89 (a0 : Int) (a1 : Int) (a2 : Int) : Con Tryz.prog 89 [(iv a0), (iv a1), (iv a2)] [] (iv (F89 a0 a1 a2)) [] := by
  refine con_s Tryz.func89 (by kernel_rfl) fun cx hcx => ?_
  have e := Eq.refl (F89 a0 a1 a2); conv at e => rhs; simp only [F89]
  rw [e]
  exact rt [] [] [] hcx (by kernel_rfl)

def F88 (a0 : Int × Int × Int) : Int :=
  (W ((W ((W (a0.1 * a0.1)) + (W (a0.2.1 * a0.2.1)))) + (W (a0.2.2 * a0.2.2))))

theorem C88 (a0 : Int × Int × Int) : Con Tryz.prog 88 [(.a (k3 a0))] [] (iv (F88 a0)) [] := by
  refine con_s Tryz.func88 (by kernel_rfl) fun cx hcx => ?_
  have e := Eq.refl (F88 a0); conv at e => rhs; simp only [F88]
  rw [e]
  exact rt [] [] [] hcx (by kernel_rfl)

def F61 (a0 : (Int × Int × Int) × (Int × Int × Int) × Int × Int × Int) (a1 : Int × Int × Int) : Int :=
  (F88 ((F89 a1.1 (if (a0.2.2.1 : Int) < (if (a0.2.1.1 : Int) < a0.1.1 then a0.2.1.1 else a0.1.1) then a0.2.2.1 else (if (a0.2.1.1 : Int) < a0.1.1 then a0.2.1.1 else a0.1.1)) (if ((if (a0.1.1 : Int) < a0.2.1.1 then a0.2.1.1 else a0.1.1) : Int) < a0.2.2.1 then a0.2.2.1 else (if (a0.1.1 : Int) < a0.2.1.1 then a0.2.1.1 else a0.1.1))), (F89 a1.2.1 (if (a0.2.2.2.1 : Int) < (if (a0.2.1.2.1 : Int) < a0.1.2.1 then a0.2.1.2.1 else a0.1.2.1) then a0.2.2.2.1 else (if (a0.2.1.2.1 : Int) < a0.1.2.1 then a0.2.1.2.1 else a0.1.2.1)) (if ((if (a0.1.2.1 : Int) < a0.2.1.2.1 then a0.2.1.2.1 else a0.1.2.1) : Int) < a0.2.2.2.1 then a0.2.2.2.1 else (if (a0.1.2.1 : Int) < a0.2.1.2.1 then a0.2.1.2.1 else a0.1.2.1))), (F89 a1.2.2 (if (a0.2.2.2.2 : Int) < (if (a0.2.1.2.2 : Int) < a0.1.2.2 then a0.2.1.2.2 else a0.1.2.2) then a0.2.2.2.2 else (if (a0.2.1.2.2 : Int) < a0.1.2.2 then a0.2.1.2.2 else a0.1.2.2)) (if ((if (a0.1.2.2 : Int) < a0.2.1.2.2 then a0.2.1.2.2 else a0.1.2.2) : Int) < a0.2.2.2.2 then a0.2.2.2.2 else (if (a0.1.2.2 : Int) < a0.2.1.2.2 then a0.2.1.2.2 else a0.1.2.2)))))

theorem C61 (a0 : (Int × Int × Int) × (Int × Int × Int) × Int × Int × Int) (a1 : Int × Int × Int) : Con Tryz.prog 61 [(.a (k9 a0)), (.a (k3 a1))] [] (iv (F61 a0 a1)) [] := by
  refine con_s Tryz.func61 (by kernel_rfl) fun cx hcx => ?_
  have e := Eq.refl (F61 a0 a1); conv at e => rhs; simp only [F61]
  rw [e]
  exact rt [.c [] (C89 a1.1 (if (a0.2.2.1 : Int) < (if (a0.2.1.1 : Int) < a0.1.1 then a0.2.1.1 else a0.1.1) then a0.2.2.1 else (if (a0.2.1.1 : Int) < a0.1.1 then a0.2.1.1 else a0.1.1)) (if ((if (a0.1.1 : Int) < a0.2.1.1 then a0.2.1.1 else a0.1.1) : Int) < a0.2.2.1 then a0.2.2.1 else (if (a0.1.1 : Int) < a0.2.1.1 then a0.2.1.1 else a0.1.1))), .c [] (C89 a1.2.1 (if (a0.2.2.2.1 : Int) < (if (a0.2.1.2.1 : Int) < a0.1.2.1 then a0.2.1.2.1 else a0.1.2.1) then a0.2.2.2.1 else (if (a0.2.1.2.1 : Int) < a0.1.2.1 then a0.2.1.2.1 else a0.1.2.1)) (if ((if (a0.1.2.1 : Int) < a0.2.1.2.1 then a0.2.1.2.1 else a0.1.2.1) : Int) < a0.2.2.2.1 then a0.2.2.2.1 else (if (a0.1.2.1 : Int) < a0.2.1.2.1 then a0.2.1.2.1 else a0.1.2.1))), .c [] (C89 a1.2.2 (if (a0.2.2.2.2 : Int) < (if (a0.2.1.2.2 : Int) < a0.1.2.2 then a0.2.1.2.2 else a0.1.2.2) then a0.2.2.2.2 else (if (a0.2.1.2.2 : Int) < a0.1.2.2 then a0.2.1.2.2 else a0.1.2.2)) (if ((if (a0.1.2.2 : Int) < a0.2.1.2.2 then a0.2.1.2.2 else a0.1.2.2) : Int) < a0.2.2.2.2 then a0.2.2.2.2 else (if (a0.1.2.2 : Int) < a0.2.1.2.2 then a0.2.1.2.2 else a0.1.2.2))), .c [] (C88 ((F89 a1.1 (if (a0.2.2.1 : Int) < (if (a0.2.1.1 : Int) < a0.1.1 then a0.2.1.1 else a0.1.1) then a0.2.2.1 else (if (a0.2.1.1 : Int) < a0.1.1 then a0.2.1.1 else a0.1.1)) (if ((if (a0.1.1 : Int) < a0.2.1.1 then a0.2.1.1 else a0.1.1) : Int) < a0.2.2.1 then a0.2.2.1 else (if (a0.1.1 : Int) < a0.2.1.1 then a0.2.1.1 else a0.1.1))), (F89 a1.2.1 (if (a0.2.2.2.1 : Int) < (if (a0.2.1.2.1 : Int) < a0.1.2.1 then a0.2.1.2.1 else a0.1.2.1) then a0.2.2.2.1 else (if (a0.2.1.2.1 : Int) < a0.1.2.1 then a0.2.1.2.1 else a0.1.2.1)) (if ((if (a0.1.2.1 : Int) < a0.2.1.2.1 then a0.2.1.2.1 else a0.1.2.1) : Int) < a0.2.2.2.1 then a0.2.2.2.1 else (if (a0.1.2.1 : Int) < a0.2.1.2.1 then a0.2.1.2.1 else a0.1.2.1))), (F89 a1.2.2 (if (a0.2.2.2.2 : Int) < (if (a0.2.1.2.2 : Int) < a0.1.2.2 then a0.2.1.2.2 else a0.1.2.2) then a0.2.2.2.2 else (if (a0.2.1.2.2 : Int) < a0.1.2.2 then a0.2.1.2.2 else a0.1.2.2)) (if ((if (a0.1.2.2 : Int) < a0.2.1.2.2 then a0.2.1.2.2 else a0.1.2.2) : Int) < a0.2.2.2.2 then a0.2.2.2.2 else (if (a0.1.2.2 : Int) < a0.2.1.2.2 then a0.2.1.2.2 else a0.1.2.2)))))] [] [] hcx (by kernel_rfl)

def F90 (a0 : Int × Int × Int) (a1 : Int × Int × Int) : Int × Int × Int :=
  ((W (a0.1 - a1.1)), (W (a0.2.1 - a1.2.1)), (W (a0.2.2 - a1.2.2)))

theorem C90 (a0 : Int × Int × Int) (a1 : Int × Int × Int) : Con Tryz.prog 90 [(.a (k3 a0)), (.a (k3 a1))] [] (.a (k3 (F90 a0 a1))) [] := by
  refine con_s Tryz.func90 (by kernel_rfl) fun cx hcx => ?_
  have e := Eq.refl (F90 a0 a1); conv at e => rhs; simp only [F90]
  rw [e]
  exact rt [] [] [] hcx (by kernel_rfl)

def F62 (a0 : (Int × Int × Int) × (Int × Int × Int) × Int × Int × Int) (a1 : Int × Int × Int) : Int :=
  (if ((if ((F88 (F90 a0.1 a1)) : Int) < (F88 (F90 a0.2.1 a1)) then (F88 (F90 a0.2.1 a1)) else (F88 (F90 a0.1 a1))) : Int) < (F88 (F90 a0.2.2 a1)) then (F88 (F90 a0.2.2 a1)) else (if ((F88 (F90 a0.1 a1)) : Int) < (F88 (F90 a0.2.1 a1)) then (F88 (F90 a0.2.1 a1)) else (F88 (F90 a0.1 a1))))

theorem C62 (a0 : (Int × Int × Int) × (Int × Int × Int) × Int × Int × Int) (a1 : Int × Int × Int) : Con Tryz.prog 62 [(.a (k9 a0)), (.a (k3 a1))] [] (iv (F62 a0 a1)) [] := by
  refine con_s Tryz.func62 (by kernel_rfl) fun cx hcx => ?_
  have e := Eq.refl (F62 a0 a1); conv at e => rhs; simp only [F62]
  rw [e]
  exact rt [.c [] (C90 a0.1 a1), .c [] (C88 (F90 a0.1 a1)), .c [] (C90 a0.2.1 a1), .c [] (C88 (F90 a0.2.1 a1)), .c [] (C90 a0.2.2 a1), .c [] (C88 (F90 a0.2.2 a1))] [] [] hcx (by kernel_rfl)

end Go.Proofs.YtcnnmgooolnebaaGreat

namespace Go.Proofs.YtcnnmgooolnebaaGreat
open Go.Proofs Go.Aw Go.RowKit
set_option maxRecDepth 100000
set_option linter.unusedVariables false
set_option linter.unusedSimpArgs false

/-! ### Sound: what the small functions say -/
theorem sqs_bd {s t : Int} (hs : 1 ≤ s ∧ s ≤ 1000) (ht : 0 ≤ t ∧ t ≤ 1000) : 0 ≤ s * t ∧ s * t ≤ 1000000 ∧ 0 ≤ s * t * (s * t) ∧ s * t * (s * t) ≤ 1000000000000 := by
  have h1 : 0 ≤ s * t := Int.mul_nonneg (by omega) (by omega)
  have h2 : s * t ≤ 1000 * 1000 := Int.mul_le_mul (by omega) (by omega) (by omega) (by omega)
  have h3 : s * t * (s * t) ≤ 1000000 * 1000000 := Int.mul_le_mul (by omega) (by omega) (by omega) (by omega)
  exact ⟨h1, by omega, Int.mul_nonneg h1 h1, by omega⟩
theorem square_f {n : Int} (h : -2000000000 ≤ n ∧ n ≤ 2000000000) : F43 n = n * n := by
  have h1 := mul_bd h h
  simp only [F43]; rw [W_eq (by omega) (by omega)]
theorem trav_sq {s t : Int} (hs : 1 ≤ s ∧ s ≤ 1000) (ht : 0 ≤ t ∧ t ≤ 1000) : F43 (W (s * t)) = s * t * (s * t) := by
  have h := sqs_bd hs ht
  rw [W_eq (by omega) (by omega), square_f (by omega)]
theorem trav_sqr {s t : Int} (hs : 1 ≤ s ∧ s ≤ 1000) (ht : 0 ≤ t ∧ t ≤ 1000) : W ((W ((W (s * s)) * t)) * t) = s * t * (s * t) := by
  have h := sqs_bd hs ht
  have h1 : 0 ≤ s * s := Int.mul_nonneg (by omega) (by omega)
  have h2 : s * s ≤ 1000 * 1000 := Int.mul_le_mul (by omega) (by omega) (by omega) (by omega)
  have h3 : 0 ≤ s * s * t := Int.mul_nonneg (by omega) (by omega)
  have h4 : s * s * t ≤ 1000000 * 1000 := Int.mul_le_mul (by omega) (by omega) (by omega) (by omega)
  have e : s * s * t * t = s * t * (s * t) := by grind
  rw [W_eq (n := s * s) (by omega) (by omega), W_eq (n := s * s * t) (by omega) (by omega), e, W_eq (by omega) (by omega)]
theorem trav_lt {s t n : Int} (hs : 1 ≤ s ∧ s ≤ 1000) (ht : 0 ≤ t ∧ t ≤ 1000) (hn : n ≤ 1000000) : s * t * (s * t) < n → t < 1000 := by
  intro h
  rcases Int.lt_or_le t 1000 with h' | h'
  · exact h'
  · have e : t = 1000 := by omega
    subst e
    have h2 : 1000 * 1000 ≤ s * 1000 * (s * 1000) := Int.mul_le_mul (by omega) (by omega) (by omega) (by omega)
    omega
theorem trav_f {s t n : Int} (hs : 1 ≤ s ∧ s ≤ 1000) (ht : 0 ≤ t ∧ t ≤ 1000) (hn : n ≤ 1000000) : F43 (W (s * t)) < n → t < 1000 := by
  rw [trav_sq hs ht]; exact trav_lt hs ht hn
theorem trav_r {s t n : Int} (hs : 1 ≤ s ∧ s ≤ 1000) (ht : 0 ≤ t ∧ t ≤ 1000) (hn : n ≤ 1000000) : W ((W ((W (s * s)) * t)) * t) < n → t < 1000 := by
  rw [trav_sqr hs ht]; exact trav_lt hs ht hn
/-! distances -/
theorem dist_f {p q : P3} (hp : bd 5000 p) (hq : bd 5000 q) : F21 p q = ds p q := by
  have h : bd 10000 (sb p q) := bd_sb hp hq
  have h1 := mul_bd h.1 h.1; have h2 := mul_bd h.2.1 h.2.1; have h3 := mul_bd h.2.2 h.2.2
  have n1 := sq_nn (sb p q).1; have n2 := sq_nn (sb p q).2.1; have n3 := sq_nn (sb p q).2.2
  have e1 : W (p.1 - q.1) = (sb p q).1 := W_eq (by have := h.1; simp only [sb] at this; omega) (by have := h.1; simp only [sb] at this; omega)
  have e2 : W (p.2.1 - q.2.1) = (sb p q).2.1 := W_eq (by have := h.2.1; simp only [sb] at this; omega) (by have := h.2.1; simp only [sb] at this; omega)
  have e3 : W (p.2.2 - q.2.2) = (sb p q).2.2 := W_eq (by have := h.2.2; simp only [sb] at this; omega) (by have := h.2.2; simp only [sb] at this; omega)
  unfold F21
  rw [e1, e2, e3, square_f (by have := h.1; omega), square_f (by have := h.2.1; omega), square_f (by have := h.2.2; omega), sum3 (by omega) (by omega) (by omega)]; rfl
theorem sqr_r {v : P3} (h : bd 10000 v) : F88 v = dt v v := by
  have h1 := mul_bd h.1 h.1; have h2 := mul_bd h.2.1 h.2.1; have h3 := mul_bd h.2.2 h.2.2
  have n1 := sq_nn v.1; have n2 := sq_nn v.2.1; have n3 := sq_nn v.2.2
  unfold F88
  rw [W_eq (n := v.1 * v.1) (by omega) (by omega), W_eq (n := v.2.1 * v.2.1) (by omega) (by omega), W_eq (n := v.2.2 * v.2.2) (by omega) (by omega), sum3 (by omega) (by omega) (by omega)]; rfl
theorem min_r {p q : P3} (hp : bd 5000 p) (hq : bd 5000 q) : F90 p q = sb p q := by
  unfold bd at hp hq
  unfold F90
  rw [W_eq (n := p.1 - q.1) (by omega) (by omega), W_eq (n := p.2.1 - q.2.1) (by omega) (by omega), W_eq (n := p.2.2 - q.2.2) (by omega) (by omega)]; rfl
theorem dist_r {p q : P3} (hp : bd 5000 p) (hq : bd 5000 q) : F88 (F90 p q) = ds p q := by
  rw [min_r hp hq, sqr_r (bd_sb hp hq)]; rfl
theorem gap_s {x a b c : Int} (hx : -5000 ≤ x ∧ x ≤ 5000) (hl : -5000 ≤ lo3 a b c ∧ lo3 a b c ≤ 5000) (hh : -5000 ≤ hi3 a b c ∧ hi3 a b c ≤ 5000) : F105_3 x (a, b, c) = gp (lo3 a b c) (hi3 a b c) x x := by
  show mx (mx 0 (W (lo3 a b c - x))) (W (x - hi3 a b c)) = _
  rw [W_eq (by omega) (by omega), W_eq (by omega) (by omega)]
  unfold gp mx; repeat' split <;> omega
theorem gap_t {x l h : Int} (hx : -5000 ≤ x ∧ x ≤ 5000) (hl : -5000 ≤ l ∧ l ≤ 5000) (hh : -5000 ≤ h ∧ h ≤ 5000) : F89 x l h = gp l h x x := by
  unfold F89
  rw [W_eq (n := l - x) (by omega) (by omega), W_eq (n := x - h) (by omega) (by omega)]
  unfold gp mx; repeat' split <;> omega
theorem lo3' (a b c : Int) : (if c < (if b < a then b else a) then c else (if b < a then b else a)) = lo3 a b c := by unfold lo3; simp only [Int.lt_irrefl, if_false]
theorem hi3' (a b c : Int) : (if (if a < b then b else a) < c then c else (if a < b then b else a)) = hi3 a b c := by unfold hi3; simp only [Int.lt_irrefl, if_false]
theorem sne_f {c : PN} {x : P3} (hc : bdP 5000 c) (hx : bd 5000 x) : F72 c x = ne c x := by
  have hl := blo_bd hc; have hh := bhi_bd hc
  have h1 := gp_bd hl.1 hh.1 hx.1 hx.1; have h2 := gp_bd hl.2.1 hh.2.1 hx.2.1 hx.2.1; have h3 := gp_bd hl.2.2 hh.2.2 hx.2.2 hx.2.2
  have m1 := mul_bd (a := 10000) (b := 10000) ⟨by omega, h1.2⟩ ⟨by omega, h1.2⟩; have m2 := mul_bd (a := 10000) (b := 10000) ⟨by omega, h2.2⟩ ⟨by omega, h2.2⟩; have m3 := mul_bd (a := 10000) (b := 10000) ⟨by omega, h3.2⟩ ⟨by omega, h3.2⟩
  have n1 := Int.mul_nonneg h1.1 h1.1; have n2 := Int.mul_nonneg h2.1 h2.1; have n3 := Int.mul_nonneg h3.1 h3.1
  unfold F72
  rw [gap_s hx.1 hl.1 hh.1, gap_s hx.2.1 hl.2.1 hh.2.1, gap_s hx.2.2 hl.2.2 hh.2.2]
  change W (W (F43 (gp (blo c).1 (bhi c).1 x.1 x.1) + F43 (gp (blo c).2.1 (bhi c).2.1 x.2.1 x.2.1)) + F43 (gp (blo c).2.2 (bhi c).2.2 x.2.2 x.2.2)) = _
  rw [square_f (by omega), square_f (by omega), square_f (by omega), sum3 (by omega) (by omega) (by omega)]; rfl
theorem sne_r {c : PN} {x : P3} (hc : bdP 5000 c) (hx : bd 5000 x) : F61 c x = ne c x := by
  have hl := blo_bd hc; have hh := bhi_bd hc
  have h1 := gp_bd hl.1 hh.1 hx.1 hx.1; have h2 := gp_bd hl.2.1 hh.2.1 hx.2.1 hx.2.1; have h3 := gp_bd hl.2.2 hh.2.2 hx.2.2 hx.2.2
  unfold F61
  rw [lo3', lo3', lo3', hi3', hi3', hi3']
  change F88 (F89 x.1 (blo c).1 (bhi c).1, F89 x.2.1 (blo c).2.1 (bhi c).2.1, F89 x.2.2 (blo c).2.2 (bhi c).2.2) = _
  rw [gap_t hx.1 hl.1 hh.1, gap_t hx.2.1 hl.2.1 hh.2.1, gap_t hx.2.2 hl.2.2 hh.2.2, sqr_r (by unfold bd; simp only; omega)]; rfl
theorem sfa_f {c : PN} {x : P3} (hc : bdP 5000 c) (hx : bd 5000 x) : F73 c x = fa c x := by
  show mx (mx (mx 0 (F21 c.1 x)) (F21 c.2.1 x)) (F21 c.2.2 x) = _
  rw [dist_f hc.1 hx, dist_f hc.2.1 hx, dist_f hc.2.2 hx]; rfl
theorem ds_nn (p q : P3) : 0 ≤ ds p q := dt_self _
theorem sfa_r {c : PN} {x : P3} (hc : bdP 5000 c) (hx : bd 5000 x) : F62 c x = fa c x := by
  unfold F62
  rw [dist_r hc.1 hx, dist_r hc.2.1 hx, dist_r hc.2.2 hx]
  show mx (mx (ds c.1 x) (ds c.2.1 x)) (ds c.2.2 x) = mx (mx (mx 0 (ds c.1 x)) (ds c.2.1 x)) (ds c.2.2 x)
  rw [show mx 0 (ds c.1 x) = ds c.1 x by unfold mx; have := ds_nn c.1 x; split <;> omega]
/-! what is asked -/
theorem sfrom_eq (n a b : Int) : F31 n a b = decide (a ≤ n ∧ n ≤ b) := by
  unfold F31
  by_cases h1 : a ≤ n <;> by_cases h2 : n ≤ b <;> simp [h1, h2]
theorem win8 (n a b : Int) : F59 n a b = decide (a ≤ n ∧ n ≤ b) := by
  unfold F59
  by_cases h1 : a ≤ n <;> by_cases h2 : n ≤ b <;> simp [h1, h2]
open Classical in
theorem isP_f (x : P3) : F18 x = decide (bd 256 x) := by
  unfold F18
  rw [sfrom_eq, sfrom_eq, sfrom_eq]
  exact and3 Iff.rfl
theorem isS_f (n : Int) : F19 n = decide (1 ≤ n ∧ n ≤ 16) := by unfold F19; exact sfrom_eq _ _ _
theorem w256 : W (0 - 256) = -256 := rfl
theorem size_r {n : Int} (h : F87 n ≤ 256) (h2 : n ≥ -256) : -256 ≤ n ∧ n ≤ 256 := by
  unfold F87 at h
  split at h <;> omega
theorem size_l {n : Int} (h : -256 ≤ n ∧ n ≤ 256) : F87 n ≤ 256 := by
  unfold F87
  rw [W_eq (by omega) (by omega)]
  split <;> omega
theorem small_iff (x : P3) : F58 x 256 = true ↔ bd 256 x := by
  unfold F58 bd
  rw [w256]
  constructor
  · intro h
    by_cases h1 : F87 x.1 ≤ 256 <;> by_cases h2 : F87 x.2.1 ≤ 256 <;> by_cases h3 : F87 x.2.2 ≤ 256 <;> simp [h1, h2, h3] at h
    exact ⟨size_r h1 h.1, size_r h2 h.2.1, size_r h3 h.2.2⟩
  · intro h
    have h1 := size_l h.1; have h2 := size_l h.2.1; have h3 := size_l h.2.2
    simp [h1, h2, h3, h.1.1, h.2.1.1, h.2.2.1]
open Classical in
theorem small_r (x : P3) : F58 x 256 = decide (bd 256 x) := by
  by_cases h : bd 256 x
  · rw [(small_iff x).2 h]; simp [h]
  · rw [Bool.eq_false_iff.2 (fun e => h ((small_iff x).1 e))]; simp [h]
open Classical in
theorem asked_r (x : P3) (s t d : Int) : F39 x s t d = if bd 256 x ∧ (1 ≤ s ∧ s ≤ 16) ∧ (0 ≤ t ∧ t ≤ 2000) ∧ (0 ≤ d ∧ d ≤ 3) then 0 else 1 := by
  unfold F39
  rw [small_r, win8, win8, win8]
  by_cases h1 : bd 256 x <;> by_cases h2 : 1 ≤ s ∧ s ≤ 16 <;> by_cases h3 : 0 ≤ t ∧ t ≤ 2000 <;> by_cases h4 : 0 ≤ d ∧ d ≤ 3 <;> simp [h1, h2, h3, h4]
abbrev PU := PN × Int × Int
noncomputable def pv (p : PU) : Int := if vp p.1 = 0 then (if (0 ≤ p.2.1 ∧ p.2.1 ≤ 1000) ∧ (-100 ≤ p.2.2 ∧ p.2.2 ≤ 100) then 0 else 1) else vp p.1
theorem pv_aux (v : Int) (a b : Prop) [Decidable a] [Decidable b] : (bif (v != 0) then v else (bif (!(decide a)) then 1 else (bif (!(decide b)) then (1 : Int) else 0))) = if v = 0 then (if a ∧ b then 0 else 1) else v := by
  by_cases h : v = 0
  · subst h; by_cases ha : a <;> by_cases hb : b <;> simp [ha, hb]
  · rw [bne_iff_ne.2 h, if_neg h]; rfl
theorem vpul_1 (p : PU) : F48_1 p = pv p := by
  unfold F48_1
  rw [vp_s, sfrom_eq, sfrom_eq]; exact pv_aux _ _ _
theorem one_e (p : PU) : F57 p = pv p := by
  unfold F57
  rw [vp_r, win8, win8]; exact pv_aux _ _ _
theorem chk_1 (p : PU) (b : Bool) : F24_1 p b = if pv p = 0 then (if b = true then 0 else 1) else pv p := by
  unfold F24_1
  rw [vpul_1]
  by_cases h : pv p = 0
  · rw [h]; cases b <;> simp
  · rw [bne_iff_ne.2 h, if_neg h]; rfl
def POK (p : PU) : Prop := vp p.1 = 0 ∧ (0 ≤ p.2.1 ∧ p.2.1 ≤ 1000) ∧ (-100 ≤ p.2.2 ∧ p.2.2 ≤ 100)
theorem pv_ok {p : PU} : pv p = 0 ↔ POK p := by
  unfold pv POK
  constructor
  · intro h
    split at h
    · split at h
      · rename_i h1 h2; exact ⟨h1, h2⟩
      · cases h
    · rename_i h1; exact absurd h h1
  · intro h; rw [if_pos h.1, if_pos h.2]
theorem ckb_p {p : PU} {b : Bool} (h : ((F24_1 p b : Int) != 0) = false) : POK p := by
  have h := bne_eq_false_iff_eq.1 h
  rw [chk_1] at h
  split at h
  · rename_i h1; exact pv_ok.1 h1
  · rename_i h1; exact absurd h h1
theorem ckb_b {p : PU} {b : Bool} (h : ((F24_1 p b : Int) != 0) = false) : b = true := by
  have h := bne_eq_false_iff_eq.1 h
  rw [chk_1] at h
  split at h
  · split at h
    · assumption
    · cases h
  · rename_i h1; exact absurd h h1
theorem ask_p {x : P3} {s t d : Int} (h : ((F39 x s t d : Int) != 0) = false) : bd 256 x ∧ (1 ≤ s ∧ s ≤ 16) ∧ (0 ≤ t ∧ t ≤ 2000) ∧ (0 ≤ d ∧ d ≤ 3) := by
  have h := bne_eq_false_iff_eq.1 h
  rw [asked_r] at h
  split at h
  · assumption
  · cases h
theorem isp_p {x : P3} (h : F18 x = true) : bd 256 x := by rw [isP_f] at h; simpa using h
theorem isp_n {x : P3} (h : (!(F18 x)) = false) : bd 256 x := isp_p (by simpa using h)
theorem iss_p {n : Int} (h : F19 n = true) : 1 ≤ n ∧ n ≤ 16 := by rw [isS_f] at h; simpa using h
theorem iss_n {n : Int} (h : (!(F19 n)) = false) : 1 ≤ n ∧ n ≤ 16 := iss_p (by simpa using h)
/-! how far sound goes -/
theorem ds6 {m : Int} {p q : P3} (hp : bd m p) (hq : bd 256 q) (hm : 0 ≤ m ∧ m ≤ 256) : ds p q ≤ 786432 := by
  have h : bd 512 (sb p q) := (bd_sb hp hq).mono (by omega)
  have h1 := (dt_bd h h).2
  have : ds p q = dt (sb p q) (sb p q) := rfl
  omega
theorem fa6 {c : PN} {x : P3} (hc : bdP 64 c) (hx : bd 256 x) : fa c x ≤ 786432 :=
  mx_le (mx_le (mx_le (by omega) (ds6 hc.1 hx (by omega))) (ds6 hc.2.1 hx (by omega))) (ds6 hc.2.2 hx (by omega))
theorem tra_f {p q : P3} (hp : bd 256 p) (hq : bd 256 q) : F21 p q ≤ 1000000 := by
  rw [dist_f (hp.mono (by omega)) (hq.mono (by omega))]; have := ds6 hp hq (by omega); omega
theorem pok_bd {p : PU} (h : POK p) : bdP 64 p.1 := (vp_ok h.1).1
theorem nef6 {p : PU} {x : P3} (h : POK p) (hx : bd 256 x) : F72 p.1 x ≤ 1000000 := by
  rw [sne_f ((pok_bd h).mono (by omega)) (hx.mono (by omega))]; have := (ne_le p.1 x).2; have := fa6 (pok_bd h) hx; omega
theorem ner6 {p : PU} {x : P3} (h : POK p) (hx : bd 256 x) : F61 p.1 x ≤ 1000000 := by
  rw [sne_r ((pok_bd h).mono (by omega)) (hx.mono (by omega))]; have := (ne_le p.1 x).2; have := fa6 (pok_bd h) hx; omega
theorem faf6 {p : PU} {x : P3} (h : POK p) (hx : bd 256 x) : F73 p.1 x ≤ 1000000 := by
  rw [sfa_f ((pok_bd h).mono (by omega)) (hx.mono (by omega))]; have := fa6 (pok_bd h) hx; omega
theorem far6 {p : PU} {x : P3} (h : POK p) (hx : bd 256 x) : F62 p.1 x ≤ 1000000 := by
  rw [sfa_r ((pok_bd h).mono (by omega)) (hx.mono (by omega))]; have := fa6 (pok_bd h) hx; omega

end Go.Proofs.YtcnnmgooolnebaaGreat
