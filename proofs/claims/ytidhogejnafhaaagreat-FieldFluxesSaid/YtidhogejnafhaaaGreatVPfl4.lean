/-
  Parts of the proofs of the laws: the executor, what functions of the program compute, and that it is what the statements ask. No premise.
-/
import Derived.Test.YtidhogejnafhaaaGreatVPfl3
import Derived.ProofKit
import Derived.OpenShut
import Derived.Deep.Slices
import Derived.RowKit
namespace Go.Proofs.YtidhogejnafhaaaGreat
open Go.Proofs Go.Aw Go.RowKit
set_option maxRecDepth 100000
set_option linter.unusedVariables false
set_option linter.unusedSimpArgs false

/-! ### What is asked -/
open Classical in
theorem seen_f (x : P3) : F25 x = decide (bd 256 x) := by
  unfold F25
  rw [within_eq, within_eq, within_eq]
  exact and3 (by unfold bd; omega)
open Classical in
theorem seen_r (x : P3) : F29 x = decide (bd 256 x) := by
  unfold F29
  rw [within_eq3, within_eq3, within_eq3]
  exact and3 (by unfold bd; omega)
open Classical in
noncomputable def ck (p : PN) (x : P3) (d : Int) : Int := if vp p = 0 then (if bd 256 x ∧ (0 ≤ d ∧ d ≤ 3) then 0 else 1) else vp p
open Classical in
theorem ck_aux (v : Int) (a b : Prop) [Decidable a] [Decidable b] : (bif (v != 0) then v else (bif (!(decide a)) then 1 else (bif (!(decide b)) then (1 : Int) else 0))) = if v = 0 then (if a ∧ b then 0 else 1) else v := by
  by_cases hv : v = 0
  · subst hv
    by_cases ha : a <;> by_cases hb : b <;> simp [ha, hb]
  · rw [bne_iff_ne.2 hv, cond_true, if_neg hv]
open Classical in
theorem chk_eq (p : PN) (x : P3) (d : Int) : F57 p x d = ck p x d := by
  unfold F57 ck
  rw [vp_s, seen_f, within_eq]
  exact ck_aux _ _ _
open Classical in
theorem ask_eq (p : PN) (x : P3) (d : Int) : F121 p x d = ck p x d := by
  unfold F121 ck
  rw [vp_r, seen_r, within_eq3]
  exact ck_aux _ _ _
theorem ck_ok {p : PN} {x : P3} {d : Int} (h : ck p x d = 0) : vp p = 0 ∧ bd 256 x ∧ 0 ≤ d ∧ d ≤ 3 := by
  unfold ck at h
  split at h
  · rename_i h0
    split at h
    · rename_i h1; exact ⟨h0, h1⟩
    · cases h
  · rename_i h0; exact absurd h h0
theorem chk_ok {p : PN} {x : P3} {d : Int} (h : ((F57 p x d : Int) != 0) = false) : vp p = 0 ∧ bd 256 x ∧ 0 ≤ d ∧ d ≤ 3 :=
  ck_ok (by rw [← chk_eq]; simpa using h)
theorem chk_le {p : PN} {x : P3} {d : Int} (h : ((F57 p x d : Int) != 0) = false) : 0 ≤ d ∧ d ≤ 3 := (chk_ok h).2.2
theorem ask_le {p : PN} {x : P3} {d : Int} (h : ((F121 p x d : Int) != 0) = false) : 0 ≤ d ∧ d ≤ 3 :=
  (ck_ok (p := p) (x := x) (by rw [← ask_eq]; simpa using h)).2.2
open Classical in
noncomputable def pk (p q : PN) (d : Int) : Int := if vp p = 0 then (if vp q = 0 then (if 0 ≤ d ∧ d ≤ 2 then 0 else 1) else vp q) else vp p
/-- facet/field.Mean -/
def F23 (a0 : (Int × Int × Int) × (Int × Int × Int) × Int × Int × Int) (a1 : Int × Int × Int) (a2 : Int) : (Int × Int) × Int :=
  (bif (((F57 a0 a1 a2) : Int) != 0) then
   ((0, 0), (F57 a0 a1 a2))
  else
   ((F58_f59 a0 a1 a2).1, (F58_f59 a0 a1 a2).2))

theorem C23 (a0 : (Int × Int × Int) × (Int × Int × Int) × Int × Int × Int) (a1 : Int × Int × Int) (a2 : Int) : Con Tryz.prog 23 [(.a (k9 a0)), (.a (k3 a1)), (iv a2)] [] (.t [(.a (k2 (F23 a0 a1 a2).1)), (iv (F23 a0 a1 a2).2)]) [] := by
  refine con_s Tryz.func23 (by kernel_rfl) fun cx hcx => ?_
  let t0 : List (St Tryz.prog) := [.c [] (C57 a0 a1 a2)]
  cases h0 : (((F57 a0 a1 a2) : Int) != 0) with
  | true =>
   have q0 := bne_iff_ne.1 h0
   have e := Eq.refl (F23 a0 a1 a2); conv at e => rhs; simp only [F23, h0, cond_true, cond_false]
   rw [e]
   exact rt (t0 ++ [.d h0]) [] [] hcx (by kernel_rfl)
  | false =>
   have q0 := bne_eq_false_iff_eq.1 h0
   have e := Eq.refl (F23 a0 a1 a2); conv at e => rhs; simp only [F23, h0, cond_true, cond_false]
   rw [e]
   exact rt (t0 ++ [.d h0, .c [] (C58_f59 a0 a1 a2  (chk_le h0))]) [] [] hcx (by kernel_rfl)

/-- facet/field.MeanCube -/
def F62 (a0 : (Int × Int × Int) × (Int × Int × Int) × Int × Int × Int) (a1 : Int × Int × Int) (a2 : Int) : (Int × Int) × Int :=
  (bif (((F57 a0 a1 a2) : Int) != 0) then
   ((0, 0), (F57 a0 a1 a2))
  else
   ((F58_f112 a0 a1 a2).1, (F58_f112 a0 a1 a2).2))

theorem C62 (a0 : (Int × Int × Int) × (Int × Int × Int) × Int × Int × Int) (a1 : Int × Int × Int) (a2 : Int) : Con Tryz.prog 62 [(.a (k9 a0)), (.a (k3 a1)), (iv a2)] [] (.t [(.a (k2 (F62 a0 a1 a2).1)), (iv (F62 a0 a1 a2).2)]) [] := by
  refine con_s Tryz.func62 (by kernel_rfl) fun cx hcx => ?_
  let t0 : List (St Tryz.prog) := [.c [] (C57 a0 a1 a2)]
  cases h0 : (((F57 a0 a1 a2) : Int) != 0) with
  | true =>
   have q0 := bne_iff_ne.1 h0
   have e := Eq.refl (F62 a0 a1 a2); conv at e => rhs; simp only [F62, h0, cond_true, cond_false]
   rw [e]
   exact rt (t0 ++ [.d h0]) [] [] hcx (by kernel_rfl)
  | false =>
   have q0 := bne_eq_false_iff_eq.1 h0
   have e := Eq.refl (F62 a0 a1 a2); conv at e => rhs; simp only [F62, h0, cond_true, cond_false]
   rw [e]
   exact rt (t0 ++ [.d h0, .c [] (C58_f112 a0 a1 a2  (chk_le h0))]) [] [] hcx (by kernel_rfl)

/-- facet/facetref03.MeanCube -/
def F69 (a0 : (Int × Int × Int) × (Int × Int × Int) × Int × Int × Int) (a1 : Int × Int × Int) (a2 : Int) : (Int × Int) × Int :=
  (bif (((F121 a0 a1 a2) : Int) != 0) then
   ((0, 0), (F121 a0 a1 a2))
  else
   ((F122 a0 a1 a2 true).1, (F122 a0 a1 a2 true).2))

theorem C69 (a0 : (Int × Int × Int) × (Int × Int × Int) × Int × Int × Int) (a1 : Int × Int × Int) (a2 : Int) : Con Tryz.prog 69 [(.a (k9 a0)), (.a (k3 a1)), (iv a2)] [] (.t [(.a (k2 (F69 a0 a1 a2).1)), (iv (F69 a0 a1 a2).2)]) [] := by
  refine con_s Tryz.func69 (by kernel_rfl) fun cx hcx => ?_
  let t0 : List (St Tryz.prog) := [.c [] (C121 a0 a1 a2)]
  cases h0 : (((F121 a0 a1 a2) : Int) != 0) with
  | true =>
   have q0 := bne_iff_ne.1 h0
   have e := Eq.refl (F69 a0 a1 a2); conv at e => rhs; simp only [F69, h0, cond_true, cond_false]
   rw [e]
   exact rt (t0 ++ [.d h0]) [] [] hcx (by kernel_rfl)
  | false =>
   have q0 := bne_eq_false_iff_eq.1 h0
   have e := Eq.refl (F69 a0 a1 a2); conv at e => rhs; simp only [F69, h0, cond_true, cond_false]
   rw [e]
   exact rt (t0 ++ [.d h0, .c [] (C122 a0 a1 a2 true  (ask_le h0))]) [] [] hcx (by kernel_rfl)

/-- facet/facetlaw03.known -/
def F7 : Bool :=
  (bif (((F23 ((0, 0, 0), (2, 0, 0), (0, 2, 0)) (1, 1, 8) 0).2 : Int) == 0) then
   ((((F23 ((0, 0, 0), (2, 0, 0), (0, 2, 0)) (1, 1, 8) 0).1.1 : Int) == 129070) && ((((F23 ((0, 0, 0), (2, 0, 0), (0, 2, 0)) (1, 1, 8) 0).1.2 : Int) == 131072) && true))
  else
   false)

theorem C7 : Con Tryz.prog 7 [] [] (.v (.bool F7)) [] := by
  refine con_s Tryz.func7 (by kernel_rfl) fun cx hcx => ?_
  let t0 : List (St Tryz.prog) := [.c [] (C23 ((0, 0, 0), (2, 0, 0), (0, 2, 0)) (1, 1, 8) 0)]
  cases h0 : (((F23 ((0, 0, 0), (2, 0, 0), (0, 2, 0)) (1, 1, 8) 0).2 : Int) == 0) with
  | true =>
   have q0 := eq_of_beq h0
   have e := Eq.refl F7; conv at e => rhs; simp only [F7, h0, cond_true, cond_false]
   rw [e]
   exact rt (t0 ++ [.d h0]) [] [] hcx (by kernel_rfl)
  | false =>
   have q0 := ne_of_beq_false h0
   have e := Eq.refl F7; conv at e => rhs; simp only [F7, h0, cond_true, cond_false]
   rw [e]
   exact rt (t0 ++ [.d h0]) [] [] hcx (by kernel_rfl)

end Go.Proofs.YtidhogejnafhaaaGreat

namespace Go.Proofs.YtidhogejnafhaaaGreat
open Go.Proofs Go.Aw Go.RowKit
set_option maxRecDepth 100000
set_option linter.unusedVariables false
set_option linter.unusedSimpArgs false

/-! ### The parts -/
theorem known_t : F7 = true := by kernel_rfl
theorem cutL_len : ∀ (d : Nat) (p : PN), (cutL d p).length = 4 ^ d
  | 0, p => rfl
  | d + 1, p => by
    rw [cutL_quad]
    have : ∀ l : List PN, (l.flatMap quad).length = 4 * l.length := fun l => by
      induction l with
      | nil => rfl
      | cons x l ih => rw [List.flatMap_cons, List.length_append, ih]; show 4 + _ = _; simp only [List.length_cons]; omega
    rw [this, cutL_len d p, Nat.pow_succ]; omega
end Go.Proofs.YtidhogejnafhaaaGreat

namespace Go.Proofs.YtidhogejnafhaaaGreat
open Go.Proofs Go.Aw Go.RowKit
set_option maxRecDepth 100000
set_option linter.unusedVariables false
set_option linter.unusedSimpArgs false

/-! ### From the contract to the row -/
open Go.ChangeShapes Go.WideShapes Go.ChangeAt
/-- the fields lie behind one another, up to place n -/
def contB (P : Program) (ok : TypeId → Bool) (n : Nat) : List Field → Nat → Bool
  | [], o => o == n
  | f :: l, o => f.offset == o && ok f.type && contB P ok n l (o + P.cellsOf f.type)
/-- a type of numbers alone (int, and structs of these) -/
def flatB (P : Program) : Nat → TypeId → Bool
  | 0, _ => false
  | k + 1, t => match P.underlying t with
    | some (.int .i64) => true
    | some (.struct fs) => contB P (flatB P k) (P.cellsOf t) fs.toList 0
    | some (.array n e) => flatB P k e && P.cellsOf t == n * P.cellsOf e
    | _ => false
section
variable {H : Type} {enc : TypeId × Value → H} {P : Program} {w : World} {base : Nat} {spare : Nat → Bool} {held : Bool}
theorem cont_trod {ok : TypeId → Bool} {n fuel : Nat} {cs : List Value}
    (hok : ∀ t cs x, ok t = true → DataW.trod enc P w base spare held fuel t cs = some x → x.2 = [] ∧ ∃ ns : List Int, cs = ns.map (Value.int .i64)) (hn : cs.length = n) :
    ∀ (l : List Field) (o : Nat) (ys : List (DataW H × List MemPlace)), contB P ok n l o = true → ys.length = l.length →
      (∀ (j : Nat) (f : Field), l[j]? = some f → DataW.trod enc P w base spare held fuel f.type ((cs.drop f.offset).take (P.cellsOf f.type)) = ys[j]?) →
      (∀ y ∈ ys, y.2 = []) ∧ ∃ ns : List Int, cs.drop o = ns.map (Value.int .i64)
  | [], o, ys, hc, hl, _ => by
    have : ys = [] := List.length_eq_zero_iff.1 hl
    subst this
    simp only [contB, beq_iff_eq] at hc
    exact ⟨fun y hy => by simp at hy, [], by rw [hc, ← hn, List.drop_length]; rfl⟩
  | f :: l, o, ys, hc, hl, hf => by
    cases ys with
    | nil => simp at hl
    | cons y ys =>
      simp only [contB, Bool.and_eq_true, beq_iff_eq] at hc
      obtain ⟨⟨h1, h2⟩, h3⟩ := hc
      have g0 := hf 0 f rfl
      rw [h1] at g0
      obtain ⟨e1, n1, e2⟩ := hok f.type _ y h2 g0
      obtain ⟨e3, n2, e4⟩ := cont_trod hok hn l _ ys h3 (by simpa using hl) (fun j g hg => hf (j + 1) g hg)
      refine ⟨fun z hz => ?_, n1 ++ n2, ?_⟩
      · rcases List.mem_cons.1 hz with rfl | hz
        · exact e1
        · exact e3 z hz
      · rw [List.map_append, ← e2, ← e4, ← List.drop_drop, List.take_append_drop]
theorem flat_trod : ∀ (k : Nat) (t : TypeId) (fuel : Nat) (cs : List Value) (x : DataW H × List MemPlace), flatB P k t = true → DataW.trod enc P w base spare held fuel t cs = some x →
    x.2 = [] ∧ ∃ ns : List Int, cs = ns.map (Value.int .i64)
  | 0, _, _, _, _, h, _ => by simp [flatB] at h
  | k + 1, t, fuel, cs, x, h, hx => by
    unfold flatB at h
    split at h
    · rename_i ht
      obtain ⟨n, rfl, rfl, _⟩ := DataW.trod_int ht hx
      exact ⟨rfl, [n], rfl⟩
    · rename_i fs ht
      obtain ⟨xs, m, rfl, rfl, hl, hlen, hf⟩ := DataW.trod_struct ht hx
      obtain ⟨e1, ns, e2⟩ := cont_trod (fun t cs x h hx => flat_trod k t m cs x h hx) hl fs.toList 0 xs h (by simpa using hlen) (fun j f hj => hf j f (by simpa using hj))
      refine ⟨?_, ns, by simpa using e2⟩
      simp only
      induction xs with
      | nil => rfl
      | cons y l _ => rw [List.flatMap_eq_nil_iff]; exact e1
    · rename_i n e ht
      simp only [Bool.and_eq_true, beq_iff_eq] at h
      obtain ⟨xs, m, rfl, rfl, hl, hlen, hf⟩ := DataW.trod_array ht hx
      have hi : ∀ i, i < n → ∃ y, xs[i]? = some y ∧ y.2 = [] ∧ ∃ ns : List Int, (cs.drop (i * P.cellsOf e)).take (P.cellsOf e) = ns.map (Value.int .i64) := fun i hi => by
        have h1 := hf i hi
        have hil : i < xs.length := by rw [hlen]; exact hi
        rw [List.getElem?_eq_getElem hil] at h1
        obtain ⟨e1, e2⟩ := flat_trod k e m _ _ h.1 h1
        exact ⟨_, List.getElem?_eq_getElem hil, e1, e2⟩
      refine ⟨?_, ?_⟩
      · simp only
        rw [List.flatMap_eq_nil_iff]
        intro y hy
        obtain ⟨i, hy⟩ := List.getElem?_of_mem hy
        have hil := (List.getElem?_eq_some_iff.1 hy).1
        obtain ⟨y', h1, h2, _⟩ := hi i (by rw [← hlen]; exact hil)
        rw [h1] at hy
        exact Option.some.inj hy ▸ h2
      · have key : ∀ j, j ≤ n → ∃ ns : List Int, cs.drop ((n - j) * P.cellsOf e) = ns.map (Value.int .i64) := by
          intro j
          induction j with
          | zero => intro _; exact ⟨[], by rw [Nat.sub_zero, ← h.2, ← hl, List.drop_length]; rfl⟩
          | succ j ih =>
            intro hj
            obtain ⟨n2, h2⟩ := ih (by omega)
            obtain ⟨_, _, _, n1, h1⟩ := hi (n - (j + 1)) (by omega)
            refine ⟨n1 ++ n2, ?_⟩
            rw [List.map_append, ← h1, ← h2, show (n - j) * P.cellsOf e = (n - (j + 1)) * P.cellsOf e + P.cellsOf e by rw [show n - j = (n - (j + 1)) + 1 by omega, Nat.add_mul, Nat.one_mul], ← List.drop_drop, List.take_append_drop]
        obtain ⟨ns, hns⟩ := key n (Nat.le_refl _)
        exact ⟨ns, by simpa using hns⟩
    · cases h
theorem open_flat {r : Reach} {b0 : Nat} {t : TypeId} {fs : Array Field} {v : Value} {d : DataW H} {ps : List MemPlace} (ht : P.underlying t = some (.struct fs)) (hf : flatB P 6 t = true)
    (hval : Value.okWide P w r b0 t v) (hd : DataW.Trod enc P w base spare held t v d ps) :
    ps = [] ∧ ∃ ns : List Int, v = .agg (ns.map (Value.int .i64)).toArray ∧ ns.length = P.cellsOf t := by
  obtain ⟨cs, rfl, hs⟩ := okWide_struct ht hval
  obtain ⟨fuel, hx⟩ := hd
  obtain ⟨e1, ns, e2⟩ := flat_trod 6 t fuel _ _ hf hx
  have e3 : cs = (ns.map (Value.int .i64)).toArray := by
    have : cs.toList = ns.map (Value.int .i64) := by simpa [Value.cells] using e2
    rw [← this]
  refine ⟨e1, ns, by rw [e3], ?_⟩
  rw [← hs, e3]; simp
end
theorem rels_iv {ρ : Env} : ∀ ns : List Int, Rels ρ (ns.map iv) (ns.map (Value.int .i64))
  | [] => trivial
  | n :: l => ⟨rfl, rels_iv l⟩
theorem rel_agg {ρ : Env} (ns : List Int) : Rel ρ (.a (ns.map iv)) (.agg (ns.map (Value.int .i64)).toArray) := ⟨_, rfl, rels_iv ns⟩
theorem post_below {H : Type} {enc : TypeId × Value → H} {P : Program} {f : Func} {s : ChangeSpec} {apart fresh handsOn : Bool} {W W' : World} {args : Array Value} {v : Value} {ds gs : List (DataW H)} {before : List MemPlace}
    (hW : DataW.Whole enc P f.params.toList s.vars apart W args.toList ds gs before) (hb : Below W.heap.size W W')
    (hres : ∀ (b : Nat) (sp : Nat → Bool) (hd : Bool), DataW.TrodAll enc P W' b sp hd f.resultTypes.toList (v.resultList f.resultTypes.size) (s.fn H (ds ++ gs)).results [])
    (hargs : DataW.TrodAll enc P W' 0 (fun b => decide (b < W.heap.size)) true f.params.toList args.toList (s.fn H (ds ++ gs)).args before)
    (hvars : DataW.TrodVars enc P W' (fun b => decide (b < W.heap.size)) s.vars (s.fn H (ds ++ gs)).vars []) :
    s.post enc P f apart fresh handsOn false W args v W' :=
  ⟨ds, gs, before, [], before, [], hW, hres _ _ _, hargs, hvars, hb.frame _, fun h => by cases h⟩
theorem all_mk {H : Type} {enc : TypeId × Value → H} {P : Program} {w : World} {base : Nat} {spare : Nat → Bool} {held : Bool} {t : TypeId} {ts : List TypeId} {v : Value} {vs : List Value} {d : DataW H} {ds : List (DataW H)} {p p' : List MemPlace}
    (h : DataW.Trod enc P w base spare held t v d p) (h' : DataW.TrodAll enc P w base spare held ts vs ds p') : DataW.TrodAll enc P w base spare held (t :: ts) (v :: vs) (d :: ds) (p ++ p') := ⟨p, p', h, h', rfl⟩
theorem own : ownKnob Tryz.prog.godebug = none := by kernel_rfl
theorem laidOut : laidOutB Tryz.prog = true := by kernel_rfl

end Go.Proofs.YtidhogejnafhaaaGreat

namespace Go.Proofs.YtidhogejnafhaaaGreat
open Go.Proofs Go.Aw Go.RowKit
set_option maxRecDepth 100000
set_option linter.unusedVariables false
set_option linter.unusedSimpArgs false

/-! ### Scales -/
def sc (d : Int) : Int := if d = 0 then 1 else if d = 1 then 2 else if d = 2 then 4 else 8
theorem d4 {d : Int} (h : 0 ≤ d ∧ d ≤ 3) : d = 0 ∨ d = 1 ∨ d = 2 ∨ d = 3 := by omega
theorem sc_f {d : Int} (h : 0 ≤ d ∧ d ≤ 3) : W (1 * 2 ^ (min (Int.toNat d) 64)) = sc d := by
  rcases d4 h with rfl | rfl | rfl | rfl <;> kernel_rfl
theorem sc_r {d : Int} (h : 0 ≤ d ∧ d ≤ 3) : W (1 * 2 ^ (min (Int.toNat (IntKind.wrap .u64 d)) 64)) = sc d := by
  rcases d4 h with rfl | rfl | rfl | rfl <;> kernel_rfl
theorem cnt_f {d : Int} (h : 0 ≤ d ∧ d ≤ 3) : W (1 * 2 ^ (min (Int.toNat (W (2 * d))) 64)) = sc d * sc d := by
  rcases d4 h with rfl | rfl | rfl | rfl <;> kernel_rfl
theorem cnt_len {d : Int} (h : 0 ≤ d ∧ d ≤ 3) (p : PN) : (((cutL d.toNat p).length : Nat) : Int) = sc d * sc d := by
  rw [cutL_len]; rcases d4 h with rfl | rfl | rfl | rfl <;> kernel_rfl
theorem sc_in (d : Int) : sc d = 1 ∨ sc d = 2 ∨ sc d = 4 ∨ sc d = 8 := by unfold sc; (repeat' split) <;> simp
theorem sc_bd (d : Int) : 1 ≤ sc d ∧ sc d ≤ 8 := by have := sc_in d; omega
def tm (s : Int) (p : P3) : P3 := (s * p.1, s * p.2.1, s * p.2.2)
theorem bd_tm {s m : Int} {p : P3} (hs : 1 ≤ s ∧ s ≤ 8) (hm : 0 ≤ m) (hp : bd m p) : bd (8 * m) (tm s p) := by
  have h1 := mul_bd (a := 8) (b := m) (x := s) (y := p.1) (by omega) hp.1
  have h2 := mul_bd (a := 8) (b := m) (x := s) (y := p.2.1) (by omega) hp.2.1
  have h3 := mul_bd (a := 8) (b := m) (x := s) (y := p.2.2) (by omega) hp.2.2
  exact ⟨h1, h2, h3⟩
theorem tm_W {s : Int} {p : P3} (hs : 1 ≤ s ∧ s ≤ 8) (hp : bd 4096 p) : ((W (s * p.1)), (W (s * p.2.1)), (W (s * p.2.2))) = tm s p := by
  have h := bd_tm hs (by omega) hp
  have h1 := h.1; have h2 := h.2.1; have h3 := h.2.2
  simp only [tm] at h1 h2 h3
  unfold tm
  rw [W_eq (n := s * p.1) (by omega) (by omega), W_eq (n := s * p.2.1) (by omega) (by omega), W_eq (n := s * p.2.2) (by omega) (by omega)]
theorem tm_f {s : Int} {p : P3} (hs : 1 ≤ s ∧ s ≤ 8) (hp : bd 4096 p) : F97 p s = tm s p := tm_W hs hp
theorem tm_r {s : Int} {p : P3} (hs : 1 ≤ s ∧ s ≤ 8) (hp : bd 4096 p) : F166 p s = tm s p := tm_W hs hp
/-! ### Spans of numbers that are small -/
theorem res_f {a b : Int} (h1 : -1099511627776 ≤ a) (h2 : a ≤ b) (h3 : b ≤ 1099511627776) : F48 a b = ((a, b), 0) := by
  unfold F48 F85
  rw [decide_eq_true (show (a, b).1 ≥ -1099511627776 from h1), decide_eq_true (show (a, b).1 ≤ (a, b).2 from h2), decide_eq_true (show (a, b).2 ≤ 1099511627776 from h3)]; rfl
theorem res_r {a b : Int} (h1 : -1099511627776 ≤ a) (h2 : a ≤ b) (h3 : b ≤ 1099511627776) : F74 a b = ((a, b), 0) := by
  unfold F74 F123
  rw [decide_eq_true (show (a, b).1 ≥ -1099511627776 from h1), decide_eq_true (show (a, b).1 ≤ (a, b).2 from h2), decide_eq_true (show (a, b).2 ≤ 1099511627776 from h3)]; rfl
/-! ### Roots of quotients -/
theorem rt_eq {n : Int} (h0 : 0 ≤ n) (h : n < 4611686018427387904) : F193 n = F163 n := (rtRef h0 h).eq (rtSpan h0 h)
noncomputable def inv (N n : Int) : Int × Int :=
  (F163 (N / n), if F163 (N / n) * F163 (N / n) * n = N then F163 (N / n) else F163 (N / n) + 1)
theorem quo_bd {N n : Int} (hN : 0 ≤ N) (hn : 1 ≤ n) : 0 ≤ N / n ∧ N / n ≤ N ∧ (N / n) * n ≤ N := by
  have h1 : 0 ≤ N / n := Int.ediv_nonneg hN (by omega)
  have h2 : (N / n) * n ≤ N := Int.ediv_mul_le N (by omega)
  have h3 : (N / n) * 1 ≤ (N / n) * n := Int.mul_le_mul_of_nonneg_left hn h1
  omega
theorem inv_facts {N n : Int} (hN : 0 ≤ N ∧ N ≤ 288230376151711744) (hn : 1 ≤ n) :
    ∃ k, F163 (N / n) = k ∧ IsRt (N / n) k ∧ 0 ≤ k ∧ k ≤ 536870912 ∧ 0 ≤ k * k ∧ k * k ≤ N / n ∧ 0 ≤ k * k * n ∧ k * k * n ≤ N := by
  obtain ⟨h1, h2, h3⟩ := quo_bd hN.1 hn
  have h := rtSpan (n := N / n) h1 (by omega)
  have h4 := h.le (m := 536870912) (by omega) (by omega)
  have h5 : 0 ≤ F163 (N / n) * F163 (N / n) := Int.mul_nonneg h.1 h.1
  exact ⟨_, rfl, h, h.1, h4, h5, h.2.1, Int.mul_nonneg h5 (by omega), Int.le_trans (Int.mul_le_mul_of_nonneg_right h.2.1 (by omega)) h3⟩
theorem inv_f {N n : Int} (hN : 0 ≤ N ∧ N ≤ 288230376151711744) (hn : 1 ≤ n) : F103 N n = (inv N n, 0) := by
  obtain ⟨k, hk, _, k0, k1, k2, k3, k4, k5⟩ := inv_facts hN hn
  obtain ⟨h1, h2, h3⟩ := quo_bd hN.1 hn
  unfold F103 inv
  rw [Int.tdiv_eq_ediv_of_nonneg hN.1, W_eq (n := N / n) (by omega) (by omega), hk, W_eq (n := k * k) (by omega) (by omega), W_eq (n := k * k * n) (by omega) (by omega), W_eq (n := k + 1) (by omega) (by omega),
    res_f (by omega) (Int.le_refl k) (by omega), res_f (by omega) (by omega) (by omega)]
  by_cases h : k * k * n = N
  · rw [if_pos h, beq_iff_eq.2 h]; rfl
  · rw [if_neg h, beq_eq_false_iff_ne.2 h]; rfl
theorem inv_r {N n : Int} (hN : 0 ≤ N ∧ N ≤ 288230376151711744) (hn : 1 ≤ n) : F188 N n = (inv N n, 0) := by
  obtain ⟨k, hk, _, k0, k1, k2, k3, k4, k5⟩ := inv_facts hN hn
  obtain ⟨h1, h2, h3⟩ := quo_bd hN.1 hn
  unfold F188 inv
  rw [Int.tdiv_eq_ediv_of_nonneg hN.1, W_eq (n := N / n) (by omega) (by omega), rt_eq h1 (by omega), hk, W_eq (n := k * k) (by omega) (by omega), W_eq (n := k + 1) (by omega) (by omega),
    res_r (by omega) (Int.le_refl k) (by omega), res_r (by omega) (by omega) (by omega), Int.tmod_eq_emod_of_nonneg hN.1]
  have hdm : n * (N / n) + N % n = N := Int.mul_ediv_add_emod N n
  by_cases h0 : N % n = 0
  · rw [beq_iff_eq.2 h0, cond_true]
    by_cases h : k * k = N / n
    · rw [beq_iff_eq.2 h, cond_true, if_pos (by rw [h, Int.mul_comm]; omega)]
    · rw [beq_eq_false_iff_ne.2 h, cond_false, if_neg]
      intro h'
      rw [h0, Int.add_zero, Int.mul_comm] at hdm
      exact h (Int.eq_of_mul_eq_mul_right (by omega) (h'.trans hdm.symm))
  · rw [beq_eq_false_iff_ne.2 h0, cond_false, if_neg]
    intro h'
    rw [← h'] at h0
    exact h0 (Int.mul_emod_left _ _)
theorem inv_bd {N n : Int} (hN : 0 ≤ N ∧ N ≤ 288230376151711744) (hn : 1 ≤ n) : 0 ≤ (inv N n).1 ∧ (inv N n).1 ≤ (inv N n).2 ∧ (inv N n).2 ≤ 536870913 := by
  obtain ⟨k, hk, _, k0, k1, _⟩ := inv_facts hN hn
  unfold inv
  rw [hk]
  simp only
  split <;> omega
theorem inv_mono {N n m : Int} (hN : 0 ≤ N ∧ N ≤ 288230376151711744) (hn : 1 ≤ n) (hm : n ≤ m) : (inv N m).1 ≤ (inv N n).1 := by
  obtain ⟨h1, h2, h3⟩ := quo_bd hN.1 hn
  obtain ⟨g1, g2, g3⟩ := quo_bd (n := m) hN.1 (by omega)
  have h : N / m ≤ N / n := by
    refine Int.le_ediv_of_mul_le (by omega) (Int.le_trans (Int.mul_le_mul_of_nonneg_left hm g1) g3)
  exact (rtSpan g1 (by omega)).mono (rtSpan h1 (by omega)) h
def NC (s : Int) : Int := s * s * s * s * s * s * 1099511627776
theorem NC_bd {s : Int} (h : s = 1 ∨ s = 2 ∨ s = 4 ∨ s = 8) : 0 ≤ NC s ∧ NC s ≤ 288230376151711744 := by rcases h with rfl | rfl | rfl | rfl <;> decide
noncomputable def of3 (s n : Int) : Int × Int := if n < 1 then (0, 0) else if 1048576 < n then (0, 1) else inv (NC s) (n * n * n)
theorem lt8f {s : Int} (h : s = 1 ∨ s = 2 ∨ s = 4 ∨ s = 8) : decide (s < 1) = false ∧ decide (s > 8) = false := by
  rcases h with rfl | rfl | rfl | rfl <;> decide
theorem lt8 {s : Int} (h : s = 1 ∨ s = 2 ∨ s = 4 ∨ s = 8) : decide (s < 1) = false ∧ decide (s > 8) = false ∧ F124 s 1 8 = true := by
  rcases h with rfl | rfl | rfl | rfl <;> decide
theorem cub_W {n : Int} (h1 : 1 ≤ n) (h2 : n ≤ 1048576) : W ((W (n * n)) * n) = n * n * n ∧ 1 ≤ n * n * n := by
  have a1 : 1 * 1 ≤ n * n := Int.mul_le_mul h1 h1 (by omega) (by omega)
  have a2 : n * n ≤ 1048576 * 1048576 := Int.mul_le_mul h2 h2 (by omega) (by omega)
  have b1 : 1 * 1 ≤ n * n * n := Int.mul_le_mul (by omega) h1 (by omega) (by omega)
  have b2 : n * n * n ≤ 1048576 * 1048576 * 1048576 := Int.mul_le_mul a2 h2 (by omega) (by omega)
  rw [W_eq (n := n * n) (by omega) (by omega), W_eq (by omega) (by omega)]
  exact ⟨rfl, by omega⟩
theorem three_f {s n : Int} (hs : s = 1 ∨ s = 2 ∨ s = 4 ∨ s = 8) (hn : n ≤ 1000000000) : (F112 n s).1 = of3 s n := by
  obtain ⟨e1, e2⟩ := lt8f hs
  unfold F112 of3
  by_cases h : n < 1
  · rw [decide_eq_true h, cond_true, if_pos h]
  · rw [decide_eq_false h, cond_false, decide_eq_false (show ¬ n > 1099511627776 by omega), cond_false, e1, cond_false, e2, cond_false, if_neg h]
    by_cases h' : n > 1048576
    · rw [decide_eq_true h', cond_true, if_pos h']
    · have e : W ((W ((W ((W (s * s)) * (W (s * s)))) * (W (s * s)))) * 2 ^ (min (Int.toNat 40) 64)) = NC s := by rcases hs with rfl | rfl | rfl | rfl <;> kernel_rfl
      obtain ⟨c1, c2⟩ := cub_W (n := n) (by omega) (by omega)
      rw [decide_eq_false h', cond_false, if_neg h', e, c1, inv_f (NC_bd hs) c2]
theorem three_r {s n : Int} (hs : s = 1 ∨ s = 2 ∨ s = 4 ∨ s = 8) (hn : n ≤ 1000000000) : (F170 n s).1 = of3 s n := by
  obtain ⟨_, _, e3⟩ := lt8 hs
  unfold F170 of3
  by_cases h : n < 1
  · rw [within_eq1, decide_eq_false (show ¬ (1 ≤ n ∧ n ≤ 1099511627776) by omega), if_pos h]; rfl
  · rw [e3, within_eq1, decide_eq_true (show (1 ≤ n ∧ n ≤ 1099511627776) by omega), if_neg h]
    by_cases h' : n > 1048576
    · rw [decide_eq_true h', if_pos h', res_r (by omega) (by omega) (by omega)]; rfl
    · have e : W ((W ((W (1048576 * (W ((W (s * s)) * s)))) * 1048576)) * (W ((W (s * s)) * s))) = NC s := by rcases hs with rfl | rfl | rfl | rfl <;> kernel_rfl
      obtain ⟨c1, c2⟩ := cub_W (n := n) (by omega) (by omega)
      rw [decide_eq_false h', if_neg h', e, c1, inv_r (NC_bd hs) c2]; rfl
/-- what a function of the distance must be -/
structure OfOk (of : Int → Int × Int) : Prop where
  lo : ∀ n, 0 ≤ (of n).1
  le : ∀ n, (of n).1 ≤ (of n).2
  hi : ∀ n, (of n).2 ≤ 536870913
  mono : ∀ n m, 1 ≤ n → n ≤ m → (of m).1 ≤ (of n).1
theorem cub_mono {n m : Int} (h1 : 1 ≤ n) (h2 : n ≤ m) : n * n * n ≤ m * m * m :=
  Int.mul_le_mul (Int.mul_le_mul h2 h2 (by omega) (by omega)) h2 (by omega) (Int.mul_nonneg (by omega) (by omega))
theorem of3_ok {s : Int} (hs : s = 1 ∨ s = 2 ∨ s = 4 ∨ s = 8) : OfOk (of3 s) := by
  have hb : ∀ n, 0 ≤ (of3 s n).1 ∧ (of3 s n).1 ≤ (of3 s n).2 ∧ (of3 s n).2 ≤ 536870913 := by
    intro n
    unfold of3
    split
    · simp
    · split
      · simp
      · exact inv_bd (NC_bd hs) (cub_W (by omega) (by omega)).2
  refine ⟨fun n => (hb n).1, fun n => (hb n).2.1, fun n => (hb n).2.2, fun n m h1 h2 => ?_⟩
  by_cases hm : 1048576 < m
  · have : (of3 s m).1 = 0 := by unfold of3; rw [if_neg (by omega), if_pos hm]
    rw [this]; exact (hb n).1
  · unfold of3
    rw [if_neg (by omega), if_neg hm, if_neg (by omega), if_neg (by omega)]
    exact inv_mono (NC_bd hs) (cub_W (by omega) (by omega)).2 (cub_mono h1 h2)

end Go.Proofs.YtidhogejnafhaaaGreat

namespace Go.Proofs.YtidhogejnafhaaaGreat
open Go.Proofs Go.Aw Go.RowKit
set_option maxRecDepth 100000
set_option linter.unusedVariables false
set_option linter.unusedSimpArgs false

/-! ### The mean -/
def fa (c : PN) (x : P3) : Int := mx (mx (mx 0 (ds c.1 x)) (ds c.2.1 x)) (ds c.2.2 x)
def ne (c : PN) (x : P3) : Int := nr (blo c) (bhi c) x x
theorem fa_f {c : PN} {x : P3} (hc : bdP 5000 c) (hx : bd 5000 x) : F101_L_L [(F99 c).1, (F99 c).2.1, (F99 c).2.2] [x] = fa c x := by
  refine (farF1 c x).trans ?_
  rw [fF_eq hc.1 hx, fF_eq hc.2.1 hx, fF_eq hc.2.2 hx]; rfl
theorem fa_r {c : PN} {x : P3} (hc : bdP 5000 c) (hx : bd 5000 x) : F169_L c [x] = fa c x := by
  rw [farR1, rF_eq hc.1 hx, rF_eq hc.2.1 hx, rF_eq hc.2.2 hx]; rfl
theorem ne_f {c : PN} {x : P3} (hc : bdP 5000 c) (hx : bd 5000 x) : F100_3_1 (F99 c) x = ne c x := near31 hc hx
theorem ne_r {c : PN} {x : P3} (hc : bdP 5000 c) (hx : bd 5000 x) : F167_1 c x = ne c x := close1 hc hx
theorem ds_bd {p q : P3} (hp : bd 5000 p) (hq : bd 5000 q) : 0 ≤ ds p q ∧ ds p q ≤ 300000000 := by
  have h := bd_sb hp hq
  have := dt_bd h h
  exact ⟨dt_self _, by unfold ds; omega⟩
theorem fa_bd {c : PN} {x : P3} (hc : bdP 5000 c) (hx : bd 5000 x) : 0 ≤ fa c x ∧ fa c x ≤ 300000000 :=
  ⟨Int.le_trans (le_mx1 0 _) (Int.le_trans (le_mx1 _ _) (le_mx1 _ _)), mx_le (mx_le (mx_le (by omega) (ds_bd hc.1 hx).2) (ds_bd hc.2.1 hx).2) (ds_bd hc.2.2 hx).2⟩
theorem sq_le {a b : Int} (ha : 0 ≤ a) (h : a ≤ b ∨ a ≤ -b) : a * a ≤ b * b := by
  rcases h with h | h
  · exact Int.mul_le_mul h h ha (by omega)
  · have := Int.mul_le_mul h h ha (by omega)
    rwa [Int.neg_mul_neg] at this
theorem gp_le {a b c x : Int} (h1 : a ≤ c) (h2 : c ≤ b) : gp a b x x * gp a b x x ≤ (c - x) * (c - x) := by
  refine sq_le (gp_nn _ _ _ _) ?_
  unfold gp mx
  (repeat' split) <;> omega
theorem nr_nn (a b c d : P3) : 0 ≤ nr a b c d := by
  have h1 := sq_nn (gp a.1 b.1 c.1 d.1); have h2 := sq_nn (gp a.2.1 b.2.1 c.2.1 d.2.1); have h3 := sq_nn (gp a.2.2 b.2.2 c.2.2 d.2.2)
  unfold nr; omega
theorem ne_le (c : PN) (x : P3) : 0 ≤ ne c x ∧ ne c x ≤ fa c x := by
  refine ⟨nr_nn _ _ _ _, Int.le_trans ?_ (Int.le_trans (le_mx2 _ _) (Int.le_trans (le_mx1 _ (ds c.2.1 x)) (le_mx1 _ (ds c.2.2 x))))⟩
  have h1 := gp_le (x := x.1) (lo3_le c.1.1 c.2.1.1 c.2.2.1).1 (le_hi3 c.1.1 c.2.1.1 c.2.2.1).1
  have h2 := gp_le (x := x.2.1) (lo3_le c.1.2.1 c.2.1.2.1 c.2.2.2.1).1 (le_hi3 c.1.2.1 c.2.1.2.1 c.2.2.2.1).1
  have h3 := gp_le (x := x.2.2) (lo3_le c.1.2.2 c.2.1.2.2 c.2.2.2.2).1 (le_hi3 c.1.2.2 c.2.1.2.2 c.2.2.2.2).1
  unfold ne nr ds dt sb
  simp only [blo, bhi]
  omega
/-- the sums over parts -/
noncomputable def acc (of : Int → Int × Int) (x : P3) : List PN → Int × Int → (Int × Int) ⊕ ((Int × Int) × Int)
  | [], v => .inl v
  | c :: l, v => if ne c x = 0 then .inr ((0, 0), 10) else acc of x l (v.1 + (of (fa c x)).1, v.2 + (of (ne c x)).2)
/-- sums that are not out of range -/
def okv (v : Int × Int) (n : Nat) : Prop := 0 ≤ v.1 ∧ v.1 ≤ v.2 ∧ v.2 + 536870913 * n ≤ 34359738432
theorem okv_next {of : Int → Int × Int} (ho : OfOk of) {c : PN} {x : P3} {v : Int × Int} {n : Nat} (h : okv v (n + 1)) (hn : ne c x ≠ 0) :
    okv (v.1 + (of (fa c x)).1, v.2 + (of (ne c x)).2) n := by
  have h0 := ne_le c x
  have h1 := ho.lo (fa c x); have h2 := ho.mono (ne c x) (fa c x) (by omega) h0.2; have h3 := ho.le (ne c x); have h4 := ho.hi (ne c x)
  unfold okv at *; simp only; omega
theorem acc_ok {of : Int → Int × Int} (ho : OfOk of) {x : P3} : ∀ {l : List PN} {v w : Int × Int}, okv v l.length → acc of x l v = .inl w → okv w 0
  | [], v, w, h, e => by cases e; exact h
  | c :: l, v, w, h, e => by
    unfold acc at e
    split at e
    · cases e
    · rename_i hn; exact acc_ok ho (okv_next ho h hn) e
theorem acc_runL {of : Int → Int × Int} (ho : OfOk of) {x : P3} {S : Int × Int → PN → (Int × Int) ⊕ ((Int × Int) × Int)} :
    ∀ {l : List PN} {v : Int × Int}, (∀ c ∈ l, ∀ v : Int × Int, S v c = if ne c x = 0 then .inr ((0, 0), 10) else .inl (W (v.1 + (of (fa c x)).1), W (v.2 + (of (ne c x)).2))) → okv v l.length → runL S l v = acc of x l v
  | [], v, _, _ => rfl
  | c :: l, v, hS, h => by
    have h0 := hS c (List.mem_cons_self) v
    unfold runL acc
    rw [h0]
    by_cases hn : ne c x = 0
    · rw [if_pos hn, if_pos hn]
    · rw [if_neg hn, if_neg hn]
      have h1 := okv_next ho h hn
      have h2 := h1
      unfold okv at h2; simp only at h2
      simp only
      rw [W_eq (by omega) (by omega), W_eq (by omega) (by omega)]
      exact acc_runL ho (fun c hc => hS c (List.mem_cons_of_mem _ hc)) h1
theorem acc_loopF {of : Int → Int × Int} (ho : OfOk of) {x : P3} {S : Int × Int × Int → (Int × Int × Int) ⊕ ((Int × Int) × Int)} {G : Int × Int → (Int × Int) × Int} {L : List PN}
    (hS : ∀ (i : Nat) (c : PN), L[i]? = some c → ∀ v1 v2 : Int, S (v1, v2, (i : Int)) = if ne c x = 0 then .inr ((0, 0), 10) else .inl (W (v1 + (of (fa c x)).1), W (v2 + (of (ne c x)).2), ((i + 1 : Nat) : Int)))
    (hE : ∀ v1 v2 : Int, S (v1, v2, (L.length : Int)) = .inr (G (v1, v2))) :
    ∀ (l : List PN) (i n : Nat) (v : Int × Int), L.drop i = l → i ≤ L.length → l.length < n → okv v l.length → loopF S n (v.1, v.2, (i : Int)) = thenL G (acc of x l v)
  | [], i, n, v, hd, hi, hn, h => by
    have : i = L.length := by have := List.drop_eq_nil_iff.1 hd; omega
    obtain ⟨n, rfl⟩ : ∃ m, n = m + 1 := ⟨n - 1, by simp only [List.length_nil] at hn; omega⟩
    subst this
    rw [loopF_inr (hE _ _)]; rfl
  | c :: l, i, n, v, hd, hi, hn, h => by
    have hc : L[i]? = some c := by
      have : (L.drop i)[0]? = some c := by rw [hd]; rfl
      simpa using this
    have hlt : i < L.length := by
      obtain ⟨hlt, _⟩ := List.getElem?_eq_some_iff.1 hc; exact hlt
    obtain ⟨n, rfl⟩ : ∃ m, n = m + 1 := ⟨n - 1, by omega⟩
    have h0 := hS i c hc v.1 v.2
    unfold acc
    by_cases hz : ne c x = 0
    · rw [if_pos hz] at h0
      rw [if_pos hz, loopF_inr h0]; rfl
    · rw [if_neg hz] at h0
      rw [if_neg hz, loopF_inl h0]
      have h1 := okv_next ho h hz
      have h2 := h1
      unfold okv at h2; simp only at h2
      rw [W_eq (by omega) (by omega), W_eq (by omega) (by omega)]
      exact acc_loopF ho hS hE l (i + 1) n _ (by rw [← List.drop_drop, hd]; rfl) (by omega) (by simp only [List.length_cons] at hn; omega) h1
/-! division by small numbers -/
theorem dn_f {a n : Int} (hn : n = 1 ∨ n = 4 ∨ n = 16 ∨ n = 64) (ha : -1099511627776 ≤ a ∧ a ≤ 1099511627776) : F114 a n = a / n := by
  unfold F114
  have h0 : ∀ b : Int, decide (n < 0) = false := fun _ => decide_eq_false (by omega)
  rw [h0 0]
  have key : (bif ((Int.tmod a n : Int) != 0) then (bif (!(decide (a < 0) == false)) then W (W (Int.tdiv a n) - 1) else W (Int.tdiv a n)) else W (Int.tdiv a n)) = if Int.tmod a n ≠ 0 ∧ a < 0 then W (W (Int.tdiv a n) - 1) else W (Int.tdiv a n) := by
    by_cases h1 : Int.tmod a n = 0
    · rw [h1]; simp
    · by_cases h2 : a < 0
      · rw [bne_iff_ne.2 h1, decide_eq_true h2, if_pos ⟨h1, h2⟩]; rfl
      · rw [bne_iff_ne.2 h1, decide_eq_false h2, if_neg (fun h => h2 h.2)]; rfl
  rw [key]
  rcases Int.lt_or_le a 0 with h | h
  · obtain ⟨b, rfl⟩ : ∃ b : Int, a = -b := ⟨-a, by omega⟩
    have hb : 0 ≤ b := by omega
    rw [Int.neg_tdiv, Int.neg_tmod, Int.tdiv_eq_ediv_of_nonneg hb, Int.tmod_eq_emod_of_nonneg hb]
    rcases hn with rfl | rfl | rfl | rfl <;>
    · rw [W_eq (n := -(b / _)) (by omega) (by omega)]
      split
      · rw [W_eq (by omega) (by omega)]; omega
      · omega
  · rw [if_neg (by omega), Int.tdiv_eq_ediv_of_nonneg h]
    rcases hn with rfl | rfl | rfl | rfl <;> exact W_eq (by omega) (by omega)
theorem dn_r {a n : Int} (hn : n = 1 ∨ n = 4 ∨ n = 16 ∨ n = 64) (ha : -1099511627776 ≤ a ∧ a ≤ 1099511627776) : F129 a n = a / n := by
  unfold F129
  rcases Int.lt_or_le a 0 with h | h
  · obtain ⟨b, rfl⟩ : ∃ b : Int, a = -b := ⟨-a, by omega⟩
    have hb : 0 ≤ b := by omega
    rw [Int.neg_tdiv, Int.neg_tmod, Int.tdiv_eq_ediv_of_nonneg hb, Int.tmod_eq_emod_of_nonneg hb]
    by_cases h1 : -(b % n) < (0 : Int)
    · rw [decide_eq_true h1, cond_true]
      rcases hn with rfl | rfl | rfl | rfl <;>
      · rw [W_eq (n := -(b / _)) (by omega) (by omega), W_eq (by omega) (by omega)]; omega
    · rw [decide_eq_false h1, cond_false]
      rcases hn with rfl | rfl | rfl | rfl <;>
      · rw [W_eq (n := -(b / _)) (by omega) (by omega)]; omega
  · rw [Int.tdiv_eq_ediv_of_nonneg h, Int.tmod_eq_emod_of_nonneg h]
    have : ¬ a % n < 0 := by have := Int.emod_nonneg a (show n ≠ 0 by omega); omega
    rw [decide_eq_false this, cond_false]
    rcases hn with rfl | rfl | rfl | rfl <;> exact W_eq (by omega) (by omega)
theorem up_f {a n : Int} (hn : n = 1 ∨ n = 4 ∨ n = 16 ∨ n = 64) (ha : -1099511627776 ≤ a ∧ a ≤ 1099511627776) : F115 a n = -(-a / n) := by
  unfold F115
  rw [W_eq (n := 0 - a) (by omega) (by omega), dn_f hn (by omega), Int.zero_sub]
  rcases hn with rfl | rfl | rfl | rfl <;> exact (W_eq (by omega) (by omega)).trans (by omega)
theorem up_r {a n : Int} (hn : n = 1 ∨ n = 4 ∨ n = 16 ∨ n = 64) (ha : -1099511627776 ≤ a ∧ a ≤ 1099511627776) : F130 a n = -(-a / n) := by
  unfold F130
  rw [W_eq (n := 0 - a) (by omega) (by omega), dn_r hn (by omega), Int.zero_sub]
  rcases hn with rfl | rfl | rfl | rfl <;> exact (W_eq (by omega) (by omega)).trans (by omega)
/-- the mean of so many spans -/
def avg (v : Int × Int) (n : Int) : Int × Int := (v.1 / n, -(-v.2 / n))
theorem val_f {a b : Int} (h1 : -1099511627776 ≤ a) (h2 : a ≤ b) (h3 : b ≤ 1099511627776) : F85 (a, b) = true := by
  unfold F85
  rw [decide_eq_true (show (a, b).1 ≥ -1099511627776 from h1), decide_eq_true (show (a, b).1 ≤ (a, b).2 from h2), decide_eq_true (show (a, b).2 ≤ 1099511627776 from h3)]; rfl
theorem avg_f {v : Int × Int} {n : Int} (hn : n = 1 ∨ n = 4 ∨ n = 16 ∨ n = 64) (h : okv v 0) : F102 v.1 v.2 n = avg v n := by
  unfold okv at h
  unfold F102 F66 F77_1
  rw [val_f (by omega) (by omega) (by omega)]
  simp only [Bool.not_true, cond_false, bne_self_eq_false]
  rw [decide_eq_false (show ¬ n < 1 by omega), decide_eq_false (show ¬ n > 1099511627776 by omega), cond_false, cond_false, dn_f hn (by omega), up_f hn (by omega)]
  have : v.1 / n ≤ -(-v.2 / n) ∧ -1099511627776 ≤ v.1 / n ∧ -(-v.2 / n) ≤ 1099511627776 := by
    rcases hn with rfl | rfl | rfl | rfl <;> omega
  rw [res_f this.2.1 this.1 this.2.2]; rfl
theorem cnt_in (d : Int) : sc d * sc d = 1 ∨ sc d * sc d = 4 ∨ sc d * sc d = 16 ∨ sc d * sc d = 64 := by
  rcases sc_in d with h | h | h | h <;> rw [h] <;> decide

end Go.Proofs.YtidhogejnafhaaaGreat

namespace Go.Proofs.YtidhogejnafhaaaGreat
open Go.Proofs Go.Aw Go.RowKit
set_option maxRecDepth 100000
set_option linter.unusedVariables false
set_option linter.unusedSimpArgs false

/-! ### The program's mean is the reference's -/
theorem thenL_ok {of : Int → Int × Int} (ho : OfOk of) {x : P3} {l : List PN} {R : Type} {G G' : Int × Int → R} {v : Int × Int} {w : (Int × Int) ⊕ R}
    (hv : okv v l.length) (hw : ∀ u, w = .inl u → acc of x l v = .inl u) (h : ∀ u, okv u 0 → G u = G' u) : thenL G w = thenL G' w := by
  cases w with
  | inl u => exact h u (acc_ok ho hv (hw u rfl))
  | inr r => rfl
theorem cutL_in {p c : PN} {d : Int} (hp : bdP 64 p) (hd : 0 ≤ d ∧ d ≤ 3) (hc : c ∈ cutL d.toNat p) : bdP 512 c := by
  have key : ∀ k : Nat, k ≤ 3 → c ∈ cutL k p → bdP 512 c := by
    intro k hk hc
    have : k = 0 ∨ k = 1 ∨ k = 2 ∨ k = 3 := by omega
    rcases this with rfl | rfl | rfl | rfl <;> exact (cutL_bd (m := 64) _ hp (by decide) (by decide) hc).mono (by decide)
  exact key _ (by omega) hc
theorem okv_0 {p : PN} {d : Int} (hd : 0 ≤ d ∧ d ≤ 3) : okv (0, 0) (cutL d.toNat p).length := by
  have h := cnt_len hd p
  have h1 := cnt_in d
  unfold okv; simp only; omega
noncomputable def meanS (of : Int → Int × Int) (p : PN) (x : P3) (d : Int) : (Int × Int) × Int :=
  thenL (fun v => (avg v (sc d * sc d), 0)) (acc of (tm (sc d) x) (cutL d.toNat p) (0, 0))
section
variable {p : PN} {x : P3} {d : Int}
theorem mean3_f (hp : bdP 64 p) (hx : bd 256 x) (hd : 0 ≤ d ∧ d ≤ 3) : F58_f112 p x d = meanS (of3 (sc d)) p x d := by
  have hs := sc_bd d
  have hx' : bd 5000 (tm (sc d) x) := (bd_tm hs (by omega) hx).mono (by omega)
  have ho := of3_ok (sc_in d)
  have hk := okv_0 (p := p) hd
  unfold F58_f112 meanS
  rw [acc_runL ho (x := tm (sc d) x) (S := S58_f112_r p x d) (fun c hc v => ?_) hk]
  · refine thenL_ok ho hk (fun u h => h) (fun u hu => ?_)
    show (F102 u.1 u.2 _, (0 : Int)) = _
    rw [cnt_f hd, avg_f (cnt_in d) hu]
  · have hb := (cutL_in hp hd hc).mono (show (512 : Int) ≤ 5000 by omega)
    obtain ⟨v1, v2⟩ := v
    simp only [S58_f112_r]
    rw [sc_f hd, tm_f hs (hx.mono (by omega)), ne_f hb hx', fa_f hb hx']
    have h1 := fa_bd hb hx'; have h2 := ne_le c (tm (sc d) x)
    rw [three_f (sc_in d) (by omega), three_f (sc_in d) (by omega)]
    by_cases h : ne c (tm (sc d) x) = 0
    · rw [if_pos h, beq_iff_eq.2 h, cond_true]
    · rw [if_neg h, beq_eq_false_iff_ne.2 h, cond_false]
theorem mean3_r (hp : bdP 64 p) (hx : bd 256 x) (hd : 0 ≤ d ∧ d ≤ 3) : F122 p x d true = meanS (of3 (sc d)) p x d := by
  have hs := sc_bd d
  have hx' : bd 5000 (tm (sc d) x) := (bd_tm hs (by omega) hx).mono (by omega)
  have ho := of3_ok (sc_in d)
  have hk := okv_0 (p := p) hd
  have hL := cutR hp hd
  have hl := cnt_len hd p
  unfold F122 meanS
  rw [show ((0, 0, 0) : Int × Int × Int) = (((0, 0) : Int × Int).1, ((0, 0) : Int × Int).2, ((0 : Nat) : Int)) from rfl,
    acc_loopF ho (x := tm (sc d) x) (S := S122_0 p x d true) (L := cutL d.toNat p) (G := fun v => ((F129 v.1 (sc d * sc d), F130 v.2 (sc d * sc d)), 0)) (fun i c hi v1 v2 => ?_) (fun v1 v2 => ?_) (cutL d.toNat p) 0 _ (0, 0) rfl (Nat.zero_le _) (by rw [hL]; omega) hk]
  · refine thenL_ok ho hk (fun u h => h) (fun u hu => ?_)
    unfold okv at hu
    rw [dn_r (cnt_in d) (by omega), up_r (cnt_in d) (by omega)]; rfl
  · obtain ⟨hlt, hc⟩ := List.getElem?_eq_some_iff.1 hi
    have hm : c ∈ cutL d.toNat p := hc ▸ List.getElem_mem hlt
    have hb := (cutL_in hp hd hm).mono (show (512 : Int) ≤ 5000 by omega)
    have hg : (cutL d.toNat p).getD i default = c := by rw [List.getD_eq_getElem?_getD, hi]; rfl
    simp only [S122_0]
    rw [hL, decide_eq_true (show ((i : Nat) : Int) < ((cutL d.toNat p).length : Nat) by omega), cond_true, Int.toNat_natCast, hg, sc_r hd, tm_r hs (hx.mono (by omega)), ne_r hb hx', fa_r hb hx']
    have h1 := fa_bd hb hx'; have h2 := ne_le c (tm (sc d) x)
    rw [three_r (sc_in d) (by omega), three_r (sc_in d) (by omega)]
    by_cases h : ne c (tm (sc d) x) = 0
    · rw [if_pos h, beq_iff_eq.2 h, cond_true]
    · rw [if_neg h, beq_eq_false_iff_ne.2 h, cond_false]; rfl
  · simp only [S122_0]
    rw [hL, decide_eq_false (Int.lt_irrefl _), cond_false, hl]
end
/-- Mean and MeanCube -/
noncomputable def meanV (of : Int → Int → Int × Int) (p : PN) (x : P3) (d : Int) : (Int × Int) × Int := if ck p x d = 0 then meanS (of (sc d)) p x d else ((0, 0), ck p x d)
theorem Cube_f (p : PN) (x : P3) (d : Int) : F62 p x d = meanV of3 p x d := by
  unfold F62 meanV
  rw [chk_eq]
  by_cases h : ck p x d = 0
  · obtain ⟨h1, h2, h3⟩ := ck_ok h
    rw [h, mean3_f (vp_ok h1).1 h2 h3]; rfl
  · rw [bne_iff_ne.2 h, if_neg h, cond_true]
theorem Cube_r (p : PN) (x : P3) (d : Int) : F69 p x d = meanV of3 p x d := by
  unfold F69 meanV
  rw [ask_eq]
  by_cases h : ck p x d = 0
  · obtain ⟨h1, h2, h3⟩ := ck_ok h
    rw [h, mean3_r (vp_ok h1).1 h2 h3]; rfl
  · rw [bne_iff_ne.2 h, if_neg h, cond_true]

end Go.Proofs.YtidhogejnafhaaaGreat

namespace Go.Proofs.YtidhogejnafhaaaGreat
open Go.Proofs Go.Aw Go.RowKit
set_option maxRecDepth 100000
set_option linter.unusedVariables false
set_option linter.unusedSimpArgs false

/-! ### The rim -/
def IsUp (T r : Int) : Prop := 0 ≤ r ∧ T ≤ r * r ∧ (r = 0 ∨ (r - 1) * (r - 1) < T)
theorem IsUp.le {T r m : Int} (h : IsUp T r) (hm : 0 ≤ m) (h' : T ≤ m * m) : r ≤ m := by
  rcases Int.lt_or_le m r with hlt | hle
  · rcases h.2.2 with h0 | h0
    · omega
    · have := Int.mul_le_mul (show m ≤ r - 1 by omega) (show m ≤ r - 1 by omega) hm (by omega)
      omega
  · exact hle
theorem IsUp.eq {T a b : Int} (h : IsUp T a) (h' : IsUp T b) : a = b := Int.le_antisymm (h.le h'.1 h'.2.1) (h'.le h.1 h.2.1)
theorem dn_any {a n : Int} (hn : 1 ≤ n) (ha : -1152921504606846976 ≤ a ∧ a ≤ 1152921504606846976) : F129 a n = a / n := by
  unfold F129
  rcases Int.lt_or_le a 0 with h | h
  · obtain ⟨b, rfl⟩ : ∃ b : Int, a = -b := ⟨-a, by omega⟩
    have hb : 0 ≤ b := by omega
    obtain ⟨h1, h2, _⟩ := quo_bd hb hn
    have hd := Int.mul_ediv_add_emod b n
    have hm0 := Int.emod_nonneg b (show n ≠ 0 by omega)
    have hm1 := Int.emod_lt_of_pos b (show 0 < n by omega)
    rw [Int.neg_tdiv, Int.neg_tmod, Int.tdiv_eq_ediv_of_nonneg hb, Int.tmod_eq_emod_of_nonneg hb, W_eq (n := -(b / n)) (by omega) (by omega)]
    by_cases h3 : -(b % n) < (0 : Int)
    · rw [decide_eq_true h3, cond_true, W_eq (by omega) (by omega)]
      refine (((Int.ediv_emod_unique (a := -b) (b := n) (q := -(b / n) - 1) (r := n - b % n) (by omega)).2 ⟨?_, by omega, by omega⟩).1).symm
      rw [Int.mul_sub, Int.mul_neg, Int.mul_one]; omega
    · rw [decide_eq_false h3, cond_false]
      refine (((Int.ediv_emod_unique (a := -b) (b := n) (q := -(b / n)) (r := 0) (by omega)).2 ⟨?_, by omega, by omega⟩).1).symm
      rw [Int.mul_neg]; omega
  · rw [Int.tdiv_eq_ediv_of_nonneg h, Int.tmod_eq_emod_of_nonneg h]
    have := Int.emod_nonneg a (show n ≠ 0 by omega)
    rw [decide_eq_false (by omega), cond_false]
    obtain ⟨h1, h2, _⟩ := quo_bd h hn
    exact W_eq (by omega) (by omega)
end Go.Proofs.YtidhogejnafhaaaGreat

namespace Go.Proofs.YtidhogejnafhaaaGreat
open Go.Proofs Go.Aw Go.RowKit
set_option maxRecDepth 100000
set_option linter.unusedVariables false
set_option linter.unusedSimpArgs false

/-! ### Between -/
/-! the normal of a part is the panel's -/
/-! sums of bounds -/
section
variable {p q : PN} {d : Int}
end
end Go.Proofs.YtidhogejnafhaaaGreat

namespace Go.Proofs.YtidhogejnafhaaaGreat
open Go.Proofs Go.Aw Go.RowKit
set_option maxRecDepth 100000
set_option linter.unusedVariables false
set_option linter.unusedSimpArgs false

theorem v1_ok {a : Int × Int} (h : ((F77_1 a : Int) != 0) = false) : -1099511627776 ≤ a.1 ∧ a.1 ≤ a.2 ∧ a.2 ≤ 1099511627776 := by
  have h : F77_1 a = 0 := by simpa using h
  unfold F77_1 at h
  cases h0 : F85 a with
  | false => rw [h0] at h; cases h
  | true =>
    unfold F85 at h0
    by_cases h1 : a.1 ≥ -1099511627776
    · by_cases h2 : a.1 ≤ a.2
      · rw [decide_eq_true h1, cond_true, decide_eq_true h2, cond_true] at h0
        exact ⟨h1, h2, of_decide_eq_true h0⟩
      · rw [decide_eq_true h1, cond_true, decide_eq_false h2, cond_false] at h0; cases h0
    · rw [decide_eq_false h1, cond_false] at h0; cases h0

/-- facet/span.whole -/
def F78 (a0 : Int) : Bool :=
  (bif (decide ((a0 : Int) ≥ (-1099511627776))) then
   (decide ((a0 : Int) ≤ 1099511627776))
  else
   false)

theorem C78 (a0 : Int) : Con Tryz.prog 78 [(iv a0)] [] (.v (.bool (F78 a0))) [] := by
  refine con_s Tryz.func78 (by kernel_rfl) fun cx hcx => ?_
  cases h0 : (decide ((a0 : Int) ≥ (-1099511627776))) with
  | true =>
   have q0 := of_decide_eq_true h0
   have e := Eq.refl (F78 a0); conv at e => rhs; simp only [F78, h0, cond_true, cond_false]
   rw [e]
   exact rt [.d h0] [] [] hcx (by kernel_rfl)
  | false =>
   have q0 := of_decide_eq_false h0
   have e := Eq.refl (F78 a0); conv at e => rhs; simp only [F78, h0, cond_true, cond_false]
   rw [e]
   exact rt [.d h0] [] [] hcx (by kernel_rfl)

/-- facet/span.Scale -/
def F38 (a0 : Int × Int) (a1 : Int) : (Int × Int) × Int :=
  (bif (((F77_1 a0) : Int) != 0) then
   ((0, 0), (F77_1 a0))
  else
   (bif (!(F78 a1)) then
    ((0, 0), 1)
   else
    ((F48 (if ((F79 a0.2 a1) : Int) < (F79 a0.1 a1) then (F79 a0.2 a1) else (F79 a0.1 a1)) (if ((F79 a0.1 a1) : Int) < (F79 a0.2 a1) then (F79 a0.2 a1) else (F79 a0.1 a1))).1, (F48 (if ((F79 a0.2 a1) : Int) < (F79 a0.1 a1) then (F79 a0.2 a1) else (F79 a0.1 a1)) (if ((F79 a0.1 a1) : Int) < (F79 a0.2 a1) then (F79 a0.2 a1) else (F79 a0.1 a1))).2)))

theorem C38 (a0 : Int × Int) (a1 : Int) : Con Tryz.prog 38 [(.a [(iv a0.1), (iv a0.2)]), (iv a1)] [] (.t [(.a (k2 (F38 a0 a1).1)), (iv (F38 a0 a1).2)]) [] := by
  refine con_s Tryz.func38 (by kernel_rfl) fun cx hcx => ?_
  let t0 : List (St Tryz.prog) := [.c [2] (C77_1 a0)]
  cases h0 : (((F77_1 a0) : Int) != 0) with
  | true =>
   have q0 := bne_iff_ne.1 h0
   have e := Eq.refl (F38 a0 a1); conv at e => rhs; simp only [F38, h0, cond_true, cond_false]
   rw [e]
   exact rt (t0 ++ [.d h0]) [] [] hcx (by kernel_rfl)
  | false =>
   have q0 := bne_eq_false_iff_eq.1 h0
   let t1 : List (St Tryz.prog) := (t0 ++ [.d h0, .c [] (C78 a1)])
   cases h1 : (!(F78 a1)) with
   | true =>
    have e := Eq.refl (F38 a0 a1); conv at e => rhs; simp only [F38, h0, h1, cond_true, cond_false]
    rw [e]
    exact rt (t1 ++ [.d h1]) [] [] hcx (by kernel_rfl)
   | false =>
    have e := Eq.refl (F38 a0 a1); conv at e => rhs; simp only [F38, h0, h1, cond_true, cond_false]
    rw [e]
    exact rt (t1 ++ [.d h1, .c [] (C79 a0.1 a1  (by have := v1_ok h0; omega)), .c [] (C79 a0.2 a1  (by have := v1_ok h0; omega)), .c [] (C48 (if ((F79 a0.2 a1) : Int) < (F79 a0.1 a1) then (F79 a0.2 a1) else (F79 a0.1 a1)) (if ((F79 a0.1 a1) : Int) < (F79 a0.2 a1) then (F79 a0.2 a1) else (F79 a0.1 a1)))]) [] [] hcx (by kernel_rfl)

/-- facet/facetref01.size -/
def F172 (a0 : Int) : Int :=
  (bif (decide ((a0 : Int) < 0)) then
   (IntKind.wrap .u64 (W (0 - a0)))
  else
   (IntKind.wrap .u64 a0))

theorem C172 (a0 : Int) : Con Tryz.prog 172 [(iv a0)] [] (.v (.int .u64 (F172 a0))) [] := by
  refine con_s Tryz.func172 (by kernel_rfl) fun cx hcx => ?_
  cases h0 : (decide ((a0 : Int) < 0)) with
  | true =>
   have q0 := of_decide_eq_true h0
   have e := Eq.refl (F172 a0); conv at e => rhs; simp only [F172, h0, cond_true, cond_false]
   rw [e]
   exact rt [.d h0] [] [] hcx (by kernel_rfl)
  | false =>
   have q0 := of_decide_eq_false h0
   have e := Eq.refl (F172 a0); conv at e => rhs; simp only [F172, h0, cond_true, cond_false]
   rw [e]
   exact rt [.d h0] [] [] hcx (by kernel_rfl)

/-- math/bits.Mul64 -/
def F171 (a0 : Int) (a1 : Int) : Int × Int :=
  ((IntKind.wrap .u64 ((IntKind.wrap .u64 ((IntKind.wrap .u64 ((Int.fdiv a0 (2 ^ (min (Int.toNat 32) 64))) * (Int.fdiv a1 (2 ^ (min (Int.toNat 32) 64))))) + (Int.fdiv (IntKind.wrap .u64 ((IntKind.wrap .u64 ((Int.fdiv a0 (2 ^ (min (Int.toNat 32) 64))) * (IntKind.wrap .u64 ((BitVec.ofInt 64 a1 &&& BitVec.ofInt 64 4294967295).toNat : Int)))) + (Int.fdiv (IntKind.wrap .u64 ((IntKind.wrap .u64 ((BitVec.ofInt 64 a0 &&& BitVec.ofInt 64 4294967295).toNat : Int)) * (IntKind.wrap .u64 ((BitVec.ofInt 64 a1 &&& BitVec.ofInt 64 4294967295).toNat : Int)))) (2 ^ (min (Int.toNat 32) 64))))) (2 ^ (min (Int.toNat 32) 64))))) + (Int.fdiv (IntKind.wrap .u64 ((IntKind.wrap .u64 ((BitVec.ofInt 64 (IntKind.wrap .u64 ((IntKind.wrap .u64 ((Int.fdiv a0 (2 ^ (min (Int.toNat 32) 64))) * (IntKind.wrap .u64 ((BitVec.ofInt 64 a1 &&& BitVec.ofInt 64 4294967295).toNat : Int)))) + (Int.fdiv (IntKind.wrap .u64 ((IntKind.wrap .u64 ((BitVec.ofInt 64 a0 &&& BitVec.ofInt 64 4294967295).toNat : Int)) * (IntKind.wrap .u64 ((BitVec.ofInt 64 a1 &&& BitVec.ofInt 64 4294967295).toNat : Int)))) (2 ^ (min (Int.toNat 32) 64))))) &&& BitVec.ofInt 64 4294967295).toNat : Int)) + (IntKind.wrap .u64 ((IntKind.wrap .u64 ((BitVec.ofInt 64 a0 &&& BitVec.ofInt 64 4294967295).toNat : Int)) * (Int.fdiv a1 (2 ^ (min (Int.toNat 32) 64))))))) (2 ^ (min (Int.toNat 32) 64))))), (IntKind.wrap .u64 (a0 * a1)))

theorem C171 (a0 : Int) (a1 : Int) : Con Tryz.prog 171 [(.v (.int .u64 a0)), (.v (.int .u64 a1))] [] (.t [(.v (.int .u64 (F171 a0 a1).1)), (.v (.int .u64 (F171 a0 a1).2))]) [] := by
  refine con_s Tryz.func171 (by kernel_rfl) fun cx hcx => ?_
  have e := Eq.refl (F171 a0 a1); conv at e => rhs; simp only [F171]
  rw [e]
  exact rt [.p (show 0 ≤ (32 : Int) from by decide), .p (show 0 ≤ (32 : Int) from by decide), .p (show 0 ≤ (32 : Int) from by decide), .p (show 0 ≤ (32 : Int) from by decide), .p (show 0 ≤ (32 : Int) from by decide)] [] [] hcx (by kernel_rfl)

/-- facet/facetref01.product -/
def F125 (a0 : Int) (a1 : Int) : Int :=
  (bif (((F171 (F172 a0) (F172 a1)).1 : Int) == 0) then
   (bif (decide (((F171 (F172 a0) (F172 a1)).2 : Int) ≤ 1099511627776)) then
    (bif (!((decide ((a0 : Int) < 0)) == (decide ((a1 : Int) < 0)))) then
     (W (0 - (W (F171 (F172 a0) (F172 a1)).2)))
    else
     (W (F171 (F172 a0) (F172 a1)).2))
   else
    (bif (!((decide ((a0 : Int) < 0)) == (decide ((a1 : Int) < 0)))) then
     (-1099511627777)
    else
     1099511627777))
  else
   (bif (!((decide ((a0 : Int) < 0)) == (decide ((a1 : Int) < 0)))) then
    (-1099511627777)
   else
    1099511627777))

theorem C125 (a0 : Int) (a1 : Int) : Con Tryz.prog 125 [(iv a0), (iv a1)] [] (iv (F125 a0 a1)) [] := by
  refine con_s Tryz.func125 (by kernel_rfl) fun cx hcx => ?_
  let t0 : List (St Tryz.prog) := [.c [] (C172 a0), .c [] (C172 a1), .c [] (C171 (F172 a0) (F172 a1))]
  cases h0 : (((F171 (F172 a0) (F172 a1)).1 : Int) == 0) with
  | true =>
   have q0 := eq_of_beq h0
   let t1 : List (St Tryz.prog) := (t0 ++ [.d h0])
   cases h1 : (decide (((F171 (F172 a0) (F172 a1)).2 : Int) ≤ 1099511627776)) with
   | true =>
    have q1 := of_decide_eq_true h1
    let t2 : List (St Tryz.prog) := (t1 ++ [.d h1])
    cases h2 : (!((decide ((a0 : Int) < 0)) == (decide ((a1 : Int) < 0)))) with
    | true =>
     have e := Eq.refl (F125 a0 a1); conv at e => rhs; simp only [F125, h0, h1, h2, cond_true, cond_false]
     rw [e]
     exact rt (t2 ++ [.d h2]) [] [] hcx (by kernel_rfl)
    | false =>
     have e := Eq.refl (F125 a0 a1); conv at e => rhs; simp only [F125, h0, h1, h2, cond_true, cond_false]
     rw [e]
     exact rt (t2 ++ [.d h2]) [] [] hcx (by kernel_rfl)
   | false =>
    have q1 := of_decide_eq_false h1
    let t2 : List (St Tryz.prog) := (t1 ++ [.d h1])
    cases h2 : (!((decide ((a0 : Int) < 0)) == (decide ((a1 : Int) < 0)))) with
    | true =>
     have e := Eq.refl (F125 a0 a1); conv at e => rhs; simp only [F125, h0, h1, h2, cond_true, cond_false]
     rw [e]
     exact rt (t2 ++ [.d h2]) [] [] hcx (by kernel_rfl)
    | false =>
     have e := Eq.refl (F125 a0 a1); conv at e => rhs; simp only [F125, h0, h1, h2, cond_true, cond_false]
     rw [e]
     exact rt (t2 ++ [.d h2]) [] [] hcx (by kernel_rfl)
  | false =>
   have q0 := ne_of_beq_false h0
   let t1 : List (St Tryz.prog) := (t0 ++ [.d h0])
   cases h1 : (!((decide ((a0 : Int) < 0)) == (decide ((a1 : Int) < 0)))) with
   | true =>
    have e := Eq.refl (F125 a0 a1); conv at e => rhs; simp only [F125, h0, h1, cond_true, cond_false]
    rw [e]
    exact rt (t1 ++ [.d h1]) [] [] hcx (by kernel_rfl)
   | false =>
    have e := Eq.refl (F125 a0 a1); conv at e => rhs; simp only [F125, h0, h1, cond_true, cond_false]
    rw [e]
    exact rt (t1 ++ [.d h1]) [] [] hcx (by kernel_rfl)

/-- facet/facetref01.Scale -/
def F70 (a0 : Int × Int) (a1 : Int) : (Int × Int) × Int :=
  (bif (!(F123 a0)) then
   ((0, 0), 1)
  else
   (bif (!(F124 a1 (-1099511627776) 1099511627776)) then
    ((0, 0), 1)
   else
    (bif (decide ((a1 : Int) < 0)) then
     ((F74 (F125 a0.2 a1) (F125 a0.1 a1)).1, (F74 (F125 a0.2 a1) (F125 a0.1 a1)).2)
    else
     ((F74 (F125 a0.1 a1) (F125 a0.2 a1)).1, (F74 (F125 a0.1 a1) (F125 a0.2 a1)).2))))

theorem C70 (a0 : Int × Int) (a1 : Int) : Con Tryz.prog 70 [(.a [(iv a0.1), (iv a0.2)]), (iv a1)] [] (.t [(.a (k2 (F70 a0 a1).1)), (iv (F70 a0 a1).2)]) [] := by
  refine con_s Tryz.func70 (by kernel_rfl) fun cx hcx => ?_
  let t0 : List (St Tryz.prog) := [.c [] (C123 a0)]
  cases h0 : (!(F123 a0)) with
  | true =>
   have e := Eq.refl (F70 a0 a1); conv at e => rhs; simp only [F70, h0, cond_true, cond_false]
   rw [e]
   exact rt (t0 ++ [.d h0]) [] [] hcx (by kernel_rfl)
  | false =>
   let t1 : List (St Tryz.prog) := (t0 ++ [.d h0, .c [] (C124 a1 (-1099511627776) 1099511627776)])
   cases h1 : (!(F124 a1 (-1099511627776) 1099511627776)) with
   | true =>
    have e := Eq.refl (F70 a0 a1); conv at e => rhs; simp only [F70, h0, h1, cond_true, cond_false]
    rw [e]
    exact rt (t1 ++ [.d h1]) [] [] hcx (by kernel_rfl)
   | false =>
    let t2 : List (St Tryz.prog) := (t1 ++ [.d h1])
    cases h2 : (decide ((a1 : Int) < 0)) with
    | true =>
     have q2 := of_decide_eq_true h2
     have e := Eq.refl (F70 a0 a1); conv at e => rhs; simp only [F70, h0, h1, h2, cond_true, cond_false]
     rw [e]
     exact rt (t2 ++ [.d h2, .c [] (C125 a0.2 a1), .c [] (C125 a0.1 a1), .c [] (C74 (F125 a0.2 a1) (F125 a0.1 a1))]) [] [] hcx (by kernel_rfl)
    | false =>
     have q2 := of_decide_eq_false h2
     have e := Eq.refl (F70 a0 a1); conv at e => rhs; simp only [F70, h0, h1, h2, cond_true, cond_false]
     rw [e]
     exact rt (t2 ++ [.d h2, .c [] (C125 a0.1 a1), .c [] (C125 a0.2 a1), .c [] (C74 (F125 a0.1 a1) (F125 a0.2 a1))]) [] [] hcx (by kernel_rfl)

/-- facet/field.SolidAngle -/
def F27 (a0 : (Int × Int × Int) × (Int × Int × Int) × Int × Int × Int) (a1 : Int × Int × Int) (a2 : Int) : (Int × Int) × Int :=
  (bif (((F62 a0 a1 a2).2 : Int) != 0) then
   ((0, 0), (F62 a0 a1 a2).2)
  else
   (bif (((F38 (F62 a0 a1 a2).1 (F63 (F64 a0.1 a1) (F65 (F64 a0.2.1 a1) (F64 a0.2.2 a1)))).2 : Int) != 0) then
    ((0, 0), (F38 (F62 a0 a1 a2).1 (F63 (F64 a0.1 a1) (F65 (F64 a0.2.1 a1) (F64 a0.2.2 a1)))).2)
   else
    ((F66 (F38 (F62 a0 a1 a2).1 (F63 (F64 a0.1 a1) (F65 (F64 a0.2.1 a1) (F64 a0.2.2 a1)))).1 2).1, (F66 (F38 (F62 a0 a1 a2).1 (F63 (F64 a0.1 a1) (F65 (F64 a0.2.1 a1) (F64 a0.2.2 a1)))).1 2).2)))

theorem C27 (a0 : (Int × Int × Int) × (Int × Int × Int) × Int × Int × Int) (a1 : Int × Int × Int) (a2 : Int) : Con Tryz.prog 27 [(.a (k9 a0)), (.a (k3 a1)), (iv a2)] [] (.t [(.a (k2 (F27 a0 a1 a2).1)), (iv (F27 a0 a1 a2).2)]) [] := by
  refine con_s Tryz.func27 (by kernel_rfl) fun cx hcx => ?_
  let t0 : List (St Tryz.prog) := [.c [] (C62 a0 a1 a2)]
  cases h0 : (((F62 a0 a1 a2).2 : Int) != 0) with
  | true =>
   have q0 := bne_iff_ne.1 h0
   have e := Eq.refl (F27 a0 a1 a2); conv at e => rhs; simp only [F27, h0, cond_true, cond_false]
   rw [e]
   exact rt (t0 ++ [.d h0]) [] [] hcx (by kernel_rfl)
  | false =>
   have q0 := bne_eq_false_iff_eq.1 h0
   let t1 : List (St Tryz.prog) := (t0 ++ [.d h0, .c [] (C64 a0.1 a1), .c [] (C64 a0.2.1 a1), .c [] (C64 a0.2.2 a1), .c [] (C65 (F64 a0.2.1 a1) (F64 a0.2.2 a1)), .c [] (C63 (F64 a0.1 a1) (F65 (F64 a0.2.1 a1) (F64 a0.2.2 a1))), .c [] (C38 (F62 a0 a1 a2).1 (F63 (F64 a0.1 a1) (F65 (F64 a0.2.1 a1) (F64 a0.2.2 a1))))])
   cases h1 : (((F38 (F62 a0 a1 a2).1 (F63 (F64 a0.1 a1) (F65 (F64 a0.2.1 a1) (F64 a0.2.2 a1)))).2 : Int) != 0) with
   | true =>
    have q1 := bne_iff_ne.1 h1
    have e := Eq.refl (F27 a0 a1 a2); conv at e => rhs; simp only [F27, h0, h1, cond_true, cond_false]
    rw [e]
    exact rt (t1 ++ [.d h1]) [] [] hcx (by kernel_rfl)
   | false =>
    have q1 := bne_eq_false_iff_eq.1 h1
    have e := Eq.refl (F27 a0 a1 a2); conv at e => rhs; simp only [F27, h0, h1, cond_true, cond_false]
    rw [e]
    exact rt (t1 ++ [.d h1, .c [] (C66 (F38 (F62 a0 a1 a2).1 (F63 (F64 a0.1 a1) (F65 (F64 a0.2.1 a1) (F64 a0.2.2 a1)))).1 2)]) [] [] hcx (by kernel_rfl)

/-- facet/facetref03.SolidAngle -/
def F31 (a0 : (Int × Int × Int) × (Int × Int × Int) × Int × Int × Int) (a1 : Int × Int × Int) (a2 : Int) : (Int × Int) × Int :=
  (bif (((F69 a0 a1 a2).2 : Int) != 0) then
   ((0, 0), (F69 a0 a1 a2).2)
  else
   (bif (((F70 (F69 a0 a1 a2).1 (F71 a0 a1)).2 : Int) != 0) then
    ((0, 0), (F70 (F69 a0 a1 a2).1 (F71 a0 a1)).2)
   else
    ((F72 (F70 (F69 a0 a1 a2).1 (F71 a0 a1)).1 2).1, (F72 (F70 (F69 a0 a1 a2).1 (F71 a0 a1)).1 2).2)))

theorem C31 (a0 : (Int × Int × Int) × (Int × Int × Int) × Int × Int × Int) (a1 : Int × Int × Int) (a2 : Int) : Con Tryz.prog 31 [(.a (k9 a0)), (.a (k3 a1)), (iv a2)] [] (.t [(.a (k2 (F31 a0 a1 a2).1)), (iv (F31 a0 a1 a2).2)]) [] := by
  refine con_s Tryz.func31 (by kernel_rfl) fun cx hcx => ?_
  let t0 : List (St Tryz.prog) := [.c [] (C69 a0 a1 a2)]
  cases h0 : (((F69 a0 a1 a2).2 : Int) != 0) with
  | true =>
   have q0 := bne_iff_ne.1 h0
   have e := Eq.refl (F31 a0 a1 a2); conv at e => rhs; simp only [F31, h0, cond_true, cond_false]
   rw [e]
   exact rt (t0 ++ [.d h0]) [] [] hcx (by kernel_rfl)
  | false =>
   have q0 := bne_eq_false_iff_eq.1 h0
   let t1 : List (St Tryz.prog) := (t0 ++ [.d h0, .c [] (C71 a0 a1), .c [] (C70 (F69 a0 a1 a2).1 (F71 a0 a1))])
   cases h1 : (((F70 (F69 a0 a1 a2).1 (F71 a0 a1)).2 : Int) != 0) with
   | true =>
    have q1 := bne_iff_ne.1 h1
    have e := Eq.refl (F31 a0 a1 a2); conv at e => rhs; simp only [F31, h0, h1, cond_true, cond_false]
    rw [e]
    exact rt (t1 ++ [.d h1]) [] [] hcx (by kernel_rfl)
   | false =>
    have q1 := bne_eq_false_iff_eq.1 h1
    have e := Eq.refl (F31 a0 a1 a2); conv at e => rhs; simp only [F31, h0, h1, cond_true, cond_false]
    rw [e]
    exact rt (t1 ++ [.d h1, .c [] (C72 (F70 (F69 a0 a1 a2).1 (F71 a0 a1)).1 2)]) [] [] hcx (by kernel_rfl)

end Go.Proofs.YtidhogejnafhaaaGreat

namespace Go.Proofs.YtidhogejnafhaaaGreat
open Go.Proofs Go.Aw Go.RowKit
set_option maxRecDepth 100000
set_option linter.unusedVariables false
set_option linter.unusedSimpArgs false

/-! ### Products that may be too large -/
theorem U_def (n : Int) : IntKind.wrap .u64 n = n % 18446744073709551616 := by
  simp [IntKind.wrap, IntKind.bits, IntKind.signed]
theorem fdiv32 (a : Int) : Int.fdiv a (2 ^ (min (Int.toNat 32) 64)) = a / 4294967296 := by
  rw [show (2 : Int) ^ (min (Int.toNat 32) 64) = 4294967296 from by kernel_rfl]
  exact Int.fdiv_eq_ediv_of_nonneg _ (by omega)
theorem and32 (a : Int) : ((BitVec.ofInt 64 a &&& BitVec.ofInt 64 4294967295).toNat : Int) = a % 4294967296 := by
  rw [BitVec.toNat_and, show (BitVec.ofInt 64 4294967295).toNat = 2 ^ 32 - 1 from by kernel_rfl, Nat.and_two_pow_sub_one_eq_mod, BitVec.toNat_ofInt]
  have h0 := Int.emod_nonneg a (show (18446744073709551616 : Int) ≠ 0 by omega)
  rw [show ((2 ^ 64 : Nat) : Int) = 18446744073709551616 from by kernel_rfl]
  have h1 : (((a % 18446744073709551616).toNat : Nat) : Int) = a % 18446744073709551616 := Int.toNat_of_nonneg h0
  rw [Int.natCast_emod, h1]
  show a % 18446744073709551616 % 4294967296 = _
  omega
theorem mul64 {x y : Int} (hx : 0 ≤ x ∧ x ≤ 1099511627776) (hy : 0 ≤ y ∧ y ≤ 1099511627776) : F171 x y = (x * y / 18446744073709551616, x * y % 18446744073709551616) := by
  unfold F171
  simp only [U_def, fdiv32, and32]
  have e0 : ∀ n : Int, n % 4294967296 % 18446744073709551616 = n % 4294967296 := fun n => by omega
  simp only [e0]
  have key : x * y = (x / 4294967296 * (y / 4294967296)) * 18446744073709551616 + (x / 4294967296 * (y % 4294967296) + x % 4294967296 * (y / 4294967296)) * 4294967296 + x % 4294967296 * (y % 4294967296) := by
    have h1 := Int.mul_ediv_add_emod x 4294967296
    have h2 := Int.mul_ediv_add_emod y 4294967296
    generalize x / 4294967296 = x1 at *
    generalize x % 4294967296 = x0 at *
    generalize y / 4294967296 = y1 at *
    generalize y % 4294967296 = y0 at *
    subst h1; subst h2; grind
  have b1 := mul_bd (a := 256) (b := 256) (x := x / 4294967296) (y := y / 4294967296) (by omega) (by omega)
  have b2 := mul_bd (a := 256) (b := 4294967295) (x := x / 4294967296) (y := y % 4294967296) (by omega) (by omega)
  have b3 := mul_bd (a := 4294967295) (b := 256) (x := x % 4294967296) (y := y / 4294967296) (by omega) (by omega)
  have b4 := mul_bd (a := 4294967295) (b := 4294967295) (x := x % 4294967296) (y := y % 4294967296) (by omega) (by omega)
  have n1 : 0 ≤ x / 4294967296 * (y / 4294967296) := Int.mul_nonneg (by omega) (by omega)
  have n2 : 0 ≤ x / 4294967296 * (y % 4294967296) := Int.mul_nonneg (by omega) (by omega)
  have n3 : 0 ≤ x % 4294967296 * (y / 4294967296) := Int.mul_nonneg (by omega) (by omega)
  have n4 : 0 ≤ x % 4294967296 * (y % 4294967296) := Int.mul_nonneg (by omega) (by omega)
  generalize x * y = m at *
  generalize x / 4294967296 * (y / 4294967296) = d at *
  generalize x / 4294967296 * (y % 4294967296) = b at *
  generalize x % 4294967296 * (y / 4294967296) = c at *
  generalize x % 4294967296 * (y % 4294967296) = a at *
  rw [Prod.mk.injEq]
  exact ⟨by omega, rfl⟩
/-- a product, or what stands for one that is too large -/
def sat (x n : Int) : Int := if 1099511627776 < x * n then 1099511627777 else if x * n < -1099511627776 then -1099511627777 else x * n
theorem ab_mul (x n : Int) : (x * n = (if x < 0 then 0 - x else x) * (if n < 0 then 0 - n else n) ∧ ((x < 0) = (n < 0))) ∨ (x * n = -((if x < 0 then 0 - x else x) * (if n < 0 then 0 - n else n)) ∧ ¬ ((x < 0) = (n < 0))) := by
  by_cases h1 : x < 0
  · by_cases h2 : n < 0
    · left; rw [if_pos h1, if_pos h2]; exact ⟨by grind, by simp [h1, h2]⟩
    · right; rw [if_pos h1, if_neg h2]; exact ⟨by grind, by simp [h1, h2]⟩
  · by_cases h2 : n < 0
    · right; rw [if_neg h1, if_pos h2]; exact ⟨by grind, by simp [h1, h2]⟩
    · left; rw [if_neg h1, if_neg h2]; exact ⟨by grind, by simp [h1, h2]⟩
theorem prod_r {x n : Int} (hx : -1099511627776 ≤ x ∧ x ≤ 1099511627776) (hn : -1099511627776 ≤ n ∧ n ≤ 1099511627776) : F125 x n = sat x n := by
  have hsz : ∀ z : Int, -1099511627776 ≤ z ∧ z ≤ 1099511627776 → F172 z = if z < 0 then 0 - z else z := by
    intro z hz
    unfold F172
    by_cases h : z < 0
    · rw [decide_eq_true h, cond_true, if_pos h, W_eq (by omega) (by omega), U_def]; omega
    · rw [decide_eq_false h, cond_false, if_neg h, U_def]; omega
  unfold F125 sat
  rw [hsz x hx, hsz n hn, mul64 (by split <;> omega) (by split <;> omega)]
  have hm := ab_mul x n
  have hnn : 0 ≤ (if x < 0 then 0 - x else x) * (if n < 0 then 0 - n else n) := Int.mul_nonneg (by split <;> omega) (by split <;> omega)
  generalize (if x < 0 then 0 - x else x) * (if n < 0 then 0 - n else n) = m at *
  have e : (!(decide (x < 0) == decide (n < 0))) = decide (x * n = -m ∧ ¬ ((x < 0) = (n < 0))) := by
    by_cases h1 : x < 0 <;> by_cases h2 : n < 0 <;> simp [h1, h2] at hm ⊢ <;> omega
  rw [e]
  simp only
  by_cases h1 : m / 18446744073709551616 = 0
  · rw [beq_iff_eq.2 h1, cond_true]
    have h2 : m % 18446744073709551616 = m := by omega
    rw [h2]
    by_cases h3 : m ≤ 1099511627776
    · rw [decide_eq_true h3, cond_true, W_eq (n := m) (by omega) (by omega), W_eq (n := 0 - m) (by omega) (by omega)]
      rcases hm with ⟨q1, q2⟩ | ⟨q1, q2⟩
      · rw [decide_eq_false (fun h => h.2 q2), cond_false, q1, if_neg (by omega), if_neg (by omega)]
      · rw [decide_eq_true ⟨q1, q2⟩, cond_true, q1, if_neg (by omega), if_neg (by omega)]; omega
    · rw [decide_eq_false h3, cond_false]
      rcases hm with ⟨q1, q2⟩ | ⟨q1, q2⟩
      · rw [decide_eq_false (fun h => h.2 q2), cond_false, q1, if_pos (by omega)]
      · rw [decide_eq_true ⟨q1, q2⟩, cond_true, q1, if_neg (by omega), if_pos (by omega)]
  · rw [beq_eq_false_iff_ne.2 h1, cond_false]
    rcases hm with ⟨q1, q2⟩ | ⟨q1, q2⟩
    · rw [decide_eq_false (fun h => h.2 q2), cond_false, q1, if_pos (by omega)]
    · rw [decide_eq_true ⟨q1, q2⟩, cond_true, q1, if_neg (by omega), if_pos (by omega)]

theorem prod_f {x n : Int} (hx : -1099511627776 ≤ x ∧ x ≤ 1099511627776) (hn : -1099511627776 ≤ n ∧ n ≤ 1099511627776) : F79 x n = sat x n := by
  have hm := ab_mul x n
  have ha : ∀ z : Int, (-1099511627776 ≤ z ∧ z ≤ 1099511627776) → (if (z : Int) < (W (0 - z)) then (W (0 - z)) else z) = if z < 0 then 0 - z else z := by
    intro z hz
    rw [W_eq (n := 0 - z) (by omega) (by omega)]
    (repeat' split) <;> omega
  unfold F79 sat
  rw [ha x hx, ha n hn]
  by_cases hx0 : x = 0
  · subst hx0; simp [W_eq]
  by_cases hn0 : n = 0
  · subst hn0; simp [W_eq]
  rw [bne_iff_ne.2 hx0, bne_iff_ne.2 hn0, cond_true, cond_true]
  have a1 : 1 ≤ (if x < 0 then 0 - x else x) ∧ (if x < 0 then 0 - x else x) ≤ 1099511627776 := by split <;> omega
  have a2 : 1 ≤ (if n < 0 then 0 - n else n) ∧ (if n < 0 then 0 - n else n) ≤ 1099511627776 := by split <;> omega
  have e : (!(decide (x < 0) == decide (n < 0))) = decide (x * n = -((if x < 0 then 0 - x else x) * (if n < 0 then 0 - n else n)) ∧ ¬ ((x < 0) = (n < 0))) := by
    by_cases h1 : x < 0 <;> by_cases h2 : n < 0 <;> simp [h1, h2] at hm ⊢ <;> omega
  rw [e]
  generalize (if x < 0 then 0 - x else x) = ax at *
  generalize (if n < 0 then 0 - n else n) = an at *
  rw [Int.tdiv_eq_ediv_of_nonneg (by omega)]
  obtain ⟨d1, d2, d3⟩ := quo_bd (N := 1099511627776) (n := ax) (by omega) (by omega)
  have d4 := Int.mul_ediv_add_emod 1099511627776 ax
  have d5 := Int.emod_lt_of_pos 1099511627776 (show 0 < ax by omega)
  rw [W_eq (n := 1099511627776 / ax) (by omega) (by omega)]
  have hbig : an > 1099511627776 / ax ↔ 1099511627776 < ax * an := by
    constructor
    · intro h
      have := Int.mul_le_mul_of_nonneg_left (show 1099511627776 / ax + 1 ≤ an by omega) (show 0 ≤ ax by omega)
      rw [Int.mul_add, Int.mul_one] at this; omega
    · intro h
      rcases Int.lt_or_le (1099511627776 / ax) an with h' | h'
      · exact h'
      · have := Int.mul_le_mul_of_nonneg_left h' (show 0 ≤ ax by omega)
        rw [Int.mul_comm] at d3; omega
  by_cases hb : an > 1099511627776 / ax
  · rw [decide_eq_true hb, cond_true]
    have := hbig.1 hb
    rcases hm with ⟨q1, q2⟩ | ⟨q1, q2⟩
    · rw [decide_eq_false (fun h => h.2 q2), cond_false, q1, if_pos (by omega)]
    · rw [decide_eq_true ⟨q1, q2⟩, cond_true, q1, if_neg (by omega), if_pos (by omega)]
  · rw [decide_eq_false hb, cond_false]
    have h1 : ax * an ≤ 1099511627776 := by
      rcases Int.lt_or_le 1099511627776 (ax * an) with h | h
      · exact absurd (hbig.2 h) hb
      · exact h
    have h2 : 0 ≤ ax * an := Int.mul_nonneg (by omega) (by omega)
    rcases hm with ⟨q1, q2⟩ | ⟨q1, q2⟩ <;> rw [q1, if_neg (by omega), if_neg (by omega)] <;> exact W_eq (by omega) (by omega)
theorem sat_mono {x y n : Int} (h : x ≤ y) (hn : 0 ≤ n) : sat x n ≤ sat y n := by
  have := Int.mul_le_mul_of_nonneg_right h hn
  unfold sat; (repeat' split) <;> omega
theorem sat_anti {x y n : Int} (h : x ≤ y) (hn : n ≤ 0) : sat y n ≤ sat x n := by
  have := Int.mul_le_mul_of_nonpos_right h hn
  unfold sat; (repeat' split) <;> omega
/-- the least span of the products -/
def scl (a : Int × Int) (n : Int) : Int × Int := if n < 0 then (sat a.2 n, sat a.1 n) else (sat a.1 n, sat a.2 n)
/-- a span that is valid -/
def vs (a : Int × Int) : Prop := -1099511627776 ≤ a.1 ∧ a.1 ≤ a.2 ∧ a.2 ≤ 1099511627776
theorem Scale_f {a : Int × Int} {n : Int} (ha : vs a) (hn : -1099511627776 ≤ n ∧ n ≤ 1099511627776) : F38 a n = F48 (scl a n).1 (scl a n).2 := by
  obtain ⟨h1, h2, h3⟩ := ha
  unfold F38 F77_1 F78
  rw [val_f (a := a.1) (b := a.2) h1 h2 h3, decide_eq_true (show n ≥ -1099511627776 from hn.1), decide_eq_true hn.2, prod_f (x := a.1) (by omega) hn, prod_f (x := a.2) (by omega) hn]
  show ((F48 _ _).1, (F48 _ _).2) = _
  unfold scl
  by_cases h : n < 0
  · have := sat_anti h2 (show n ≤ 0 by omega)
    rw [if_pos h]
    simp only
    rw [show (if (sat a.2 n : Int) < sat a.1 n then sat a.2 n else sat a.1 n) = sat a.2 n by split <;> omega, show (if (sat a.1 n : Int) < sat a.2 n then sat a.2 n else sat a.1 n) = sat a.1 n by split <;> omega]
  · have := sat_mono h2 (show 0 ≤ n by omega)
    rw [if_neg h]
    simp only
    rw [show (if (sat a.2 n : Int) < sat a.1 n then sat a.2 n else sat a.1 n) = sat a.1 n by split <;> omega, show (if (sat a.1 n : Int) < sat a.2 n then sat a.2 n else sat a.1 n) = sat a.2 n by split <;> omega]
theorem val_r {a b : Int} (h1 : -1099511627776 ≤ a) (h2 : a ≤ b) (h3 : b ≤ 1099511627776) : F123 (a, b) = true := val_f h1 h2 h3
theorem told_eq (a b : Int) : F74 a b = F48 a b := rfl
theorem Scale_r {a : Int × Int} {n : Int} (ha : vs a) (hn : -1099511627776 ≤ n ∧ n ≤ 1099511627776) : F70 a n = F48 (scl a n).1 (scl a n).2 := by
  obtain ⟨h1, h2, h3⟩ := ha
  unfold F70
  rw [val_r (a := a.1) (b := a.2) h1 h2 h3, within_eq1, decide_eq_true hn, prod_r (x := a.1) (by omega) hn, prod_r (x := a.2) (by omega) hn, told_eq, told_eq]
  unfold scl
  by_cases h : n < 0
  · rw [if_pos h, decide_eq_true h]; rfl
  · rw [if_neg h, decide_eq_false h]; rfl
/-! halves -/
def hlf (a : Int × Int) : Int × Int := (a.1 / 2, -(-a.2 / 2))
theorem hlf_ok {a : Int × Int} (h : vs a) : vs (hlf a) := by unfold vs hlf at *; simp only; omega
theorem dn2_f {a : Int} (ha : -1099511627776 ≤ a ∧ a ≤ 1099511627776) : F114 a 2 = a / 2 := by
  unfold F114
  rcases Int.lt_or_le a 0 with h | h
  · obtain ⟨b, rfl⟩ : ∃ b : Int, a = -b := ⟨-a, by omega⟩
    have hb : 0 ≤ b := by omega
    rw [Int.neg_tdiv, Int.neg_tmod, Int.tdiv_eq_ediv_of_nonneg hb, Int.tmod_eq_emod_of_nonneg hb, W_eq (n := -(b / 2)) (by omega) (by omega), decide_eq_true h, W_eq (n := -(b / 2) - 1) (by omega) (by omega)]
    by_cases h1 : -(b % 2) = 0
    · rw [h1]; show -(b / 2) = _; omega
    · rw [bne_iff_ne.2 h1]; show -(b / 2) - 1 = _; omega
  · rw [decide_eq_false (by omega), Int.tdiv_eq_ediv_of_nonneg h, W_eq (n := a / 2) (by omega) (by omega)]
    cases ((Int.tmod a 2 : Int) != 0) <;> rfl
theorem Part_f {a : Int × Int} (ha : vs a) : F66 a 2 = (hlf a, 0) := by
  have hh := hlf_ok ha
  obtain ⟨h1, h2, h3⟩ := ha
  unfold F66 F77_1 F115
  rw [val_f (a := a.1) (b := a.2) h1 h2 h3, dn2_f (by omega), W_eq (n := 0 - a.2) (by omega) (by omega), dn2_f (a := 0 - a.2) (by omega), W_eq (n := 0 - (0 - a.2) / 2) (by omega) (by omega), Int.zero_sub, Int.zero_sub]
  show ((F48 (hlf a).1 (hlf a).2).1, (F48 (hlf a).1 (hlf a).2).2) = _
  rw [res_f hh.1 hh.2.1 hh.2.2]
theorem Part_r {a : Int × Int} (ha : vs a) : F72 a 2 = (hlf a, 0) := by
  have hh := hlf_ok ha
  obtain ⟨h1, h2, h3⟩ := ha
  unfold F72 F130
  rw [val_r (a := a.1) (b := a.2) h1 h2 h3, dn_any (by omega) (by omega), W_eq (n := 0 - a.2) (by omega) (by omega), dn_any (a := 0 - a.2) (by omega) (by omega), W_eq (n := 0 - (0 - a.2) / 2) (by omega) (by omega), Int.zero_sub, Int.zero_sub]
  show ((F74 (hlf a).1 (hlf a).2).1, (F74 (hlf a).1 (hlf a).2).2) = _
  rw [res_r hh.1 hh.2.1 hh.2.2]
theorem res_cases (a b : Int) : (F48 a b = ((a, b), 0) ∧ vs (a, b)) ∨ F48 a b = ((0, 0), 4) := by
  by_cases h : vs (a, b)
  · exact Or.inl ⟨res_f h.1 h.2.1 h.2.2, h⟩
  · right
    unfold F48
    have : F85 (a, b) = false := by
      unfold F85
      by_cases h1 : (a, b).1 ≥ -1099511627776
      · by_cases h2 : (a, b).1 ≤ (a, b).2
        · rw [decide_eq_true h1, decide_eq_true h2, cond_true, cond_true]; exact decide_eq_false (fun h3 => h ⟨h1, h2, h3⟩)
        · rw [decide_eq_true h1, decide_eq_false h2]; rfl
      · rw [decide_eq_false h1]; rfl
    rw [this]; rfl

end Go.Proofs.YtidhogejnafhaaaGreat

namespace Go.Proofs.YtidhogejnafhaaaGreat
open Go.Proofs Go.Aw Go.RowKit
set_option maxRecDepth 100000
set_option linter.unusedVariables false
set_option linter.unusedSimpArgs false

/-! ### Solid angles -/
def ht (p : PN) (x : P3) : Int := dt (sb p.1 x) (cr (sb p.2.1 x) (sb p.2.2 x))
theorem ht_bd {p : PN} {x : P3} (hp : bdP 64 p) (hx : bd 256 x) : bd 320 (sb p.1 x) ∧ bd 204800 (cr (sb p.2.1 x) (sb p.2.2 x)) ∧ -1099511627776 ≤ ht p x ∧ ht p x ≤ 1099511627776 := by
  have h1 : bd 320 (sb p.1 x) := bd_sb hp.1 hx
  have h2 : bd 204800 (cr (sb p.2.1 x) (sb p.2.2 x)) := cr_bd (bd_sb hp.2.1 hx) (bd_sb hp.2.2 hx)
  have := dt_bd (h1.mono (show (320 : Int) ≤ 204800 by omega)) h2
  exact ⟨h1, h2, by unfold ht; omega⟩
theorem ht_f {p : PN} {x : P3} (hp : bdP 64 p) (hx : bd 256 x) : F63 (F64 p.1 x) (F65 (F64 p.2.1 x) (F64 p.2.2 x)) = ht p x := by
  obtain ⟨h1, h2, _⟩ := ht_bd hp hx
  have hx' := hx.mono (show (256 : Int) ≤ 100000 by omega)
  rw [fsb (hp.1.mono (by omega)) hx', fsb (hp.2.1.mono (by omega)) hx', fsb (hp.2.2.mono (by omega)) hx', fcr ((bd_sb hp.2.1 hx).mono (by omega)) ((bd_sb hp.2.2 hx).mono (by omega)), fdt (h1.mono (by omega)) (h2.mono (by omega))]; rfl
theorem ht_r {p : PN} {x : P3} (hp : bdP 64 p) (hx : bd 256 x) : F71 p x = ht p x := by
  obtain ⟨h1, h2, _⟩ := ht_bd hp hx
  have hx' := hx.mono (show (256 : Int) ≤ 100000 by omega)
  unfold F71
  rw [rsb (hp.1.mono (by omega)) hx', rsb (hp.2.1.mono (by omega)) hx', rsb (hp.2.2.mono (by omega)) hx', rcr ((bd_sb hp.2.1 hx).mono (by omega)) ((bd_sb hp.2.2 hx).mono (by omega)), rdt (h1.mono (by omega)) (h2.mono (by omega))]; rfl
open Classical in
noncomputable def angR (m : Int × Int) (h : Int) : (Int × Int) × Int := if vs (scl m h) then (hlf (scl m h), 0) else ((0, 0), 4)
theorem avg_vs {v : Int × Int} {n : Int} (hn : n = 1 ∨ n = 4 ∨ n = 16 ∨ n = 64) (h : okv v 0) : vs (avg v n) := by
  unfold okv at h; unfold vs avg; simp only
  rcases hn with rfl | rfl | rfl | rfl <;> omega
theorem meanS_vs {of : Int → Int × Int} (ho : OfOk of) {p : PN} {x : P3} {d : Int} (hd : 0 ≤ d ∧ d ≤ 3) : ((meanS of p x d).2 = 0 ∧ vs (meanS of p x d).1) ∨ meanS of p x d = ((0, 0), 10) := by
  unfold meanS
  cases h : acc of (tm (sc d) x) (cutL d.toNat p) (0, 0) with
  | inl v => exact Or.inl ⟨rfl, avg_vs (cnt_in d) (acc_ok ho (okv_0 hd) h)⟩
  | inr r =>
    right
    have key : ∀ (l : List PN) (v : Int × Int) (r : (Int × Int) × Int), acc of (tm (sc d) x) l v = .inr r → r = ((0, 0), 10) := by
      intro l
      induction l with
      | nil => intro v r h; cases h
      | cons c l ih =>
        intro v r h
        unfold acc at h
        split at h
        · cases h; rfl
        · exact ih _ _ h
    exact key _ _ _ h
theorem meanV_vs {p : PN} {x : P3} {d : Int} {of : Int → Int → Int × Int} (ho : ∀ s, s = 1 ∨ s = 2 ∨ s = 4 ∨ s = 8 → OfOk (of s)) (h : (meanV of p x d).2 = 0) : ck p x d = 0 ∧ vs (meanV of p x d).1 := by
  unfold meanV at *
  by_cases hc : ck p x d = 0
  · rw [if_pos hc] at *
    refine ⟨hc, ?_⟩
    rcases meanS_vs (ho _ (sc_in d)) (p := p) (x := x) (ck_ok hc).2.2 with h1 | h1
    · exact h1.2
    · rw [h1] at h; cases h
  · rw [if_neg hc] at h; exact absurd h hc
open Classical in
noncomputable def angV (p : PN) (x : P3) (d : Int) : (Int × Int) × Int := if (meanV of3 p x d).2 = 0 then angR (meanV of3 p x d).1 (ht p x) else ((0, 0), (meanV of3 p x d).2)
theorem of3_all : ∀ s : Int, s = 1 ∨ s = 2 ∨ s = 4 ∨ s = 8 → OfOk (of3 s) := fun s h => of3_ok h
theorem Angle_f (p : PN) (x : P3) (d : Int) : F27 p x d = angV p x d := by
  unfold F27 angV
  rw [Cube_f]
  by_cases h : (meanV of3 p x d).2 = 0
  · obtain ⟨h1, h2⟩ := meanV_vs of3_all h
    obtain ⟨h3, h4, _⟩ := ck_ok h1
    have hb := (vp_ok h3).1
    rw [if_pos h, h, ht_f hb h4, Scale_f h2 (ht_bd hb h4).2.2]
    unfold angR
    rcases res_cases (scl (meanV of3 p x d).1 (ht p x)).1 (scl (meanV of3 p x d).1 (ht p x)).2 with ⟨e, hv⟩ | e
    · rw [if_pos hv, e, Part_f hv]; rfl
    · have : ¬ vs (scl (meanV of3 p x d).1 (ht p x)) := fun hv => by rw [res_f hv.1 hv.2.1 hv.2.2] at e; exact absurd (congrArg Prod.snd e) (by show ¬ ((0 : Int) = 4); decide)
      rw [if_neg this, e]; rfl
  · rw [if_neg h, bne_iff_ne.2 h, cond_true]
theorem Angle_r (p : PN) (x : P3) (d : Int) : F31 p x d = angV p x d := by
  unfold F31 angV
  rw [Cube_r]
  by_cases h : (meanV of3 p x d).2 = 0
  · obtain ⟨h1, h2⟩ := meanV_vs of3_all h
    obtain ⟨h3, h4, _⟩ := ck_ok h1
    have hb := (vp_ok h3).1
    rw [if_pos h, h, ht_r hb h4, Scale_r h2 (ht_bd hb h4).2.2]
    unfold angR
    rcases res_cases (scl (meanV of3 p x d).1 (ht p x)).1 (scl (meanV of3 p x d).1 (ht p x)).2 with ⟨e, hv⟩ | e
    · rw [if_pos hv, e, Part_r hv]; rfl
    · have : ¬ vs (scl (meanV of3 p x d).1 (ht p x)) := fun hv => by rw [res_f hv.1 hv.2.1 hv.2.2] at e; exact absurd (congrArg Prod.snd e) (by show ¬ ((0 : Int) = 4); decide)
      rw [if_neg this, e]; rfl
  · rw [if_neg h, bne_iff_ne.2 h, cond_true]
/-! ### Corners exchanged -/
theorem angV_bd (p : PN) (x : P3) (d : Int) : vs (angV p x d).1 := by
  have h0 : vs (0, 0) := by unfold vs; simp
  unfold angV angR
  split
  · split
    · rename_i h; exact hlf_ok h
    · exact h0
  · exact h0

end Go.Proofs.YtidhogejnafhaaaGreat

namespace Go.Proofs.YtidhogejnafhaaaGreat
open Go.Proofs Go.Aw Go.RowKit
set_option maxRecDepth 100000
set_option linter.unusedVariables false
set_option linter.unusedSimpArgs false

/-! ### Finer parts -/
/-! what is proved of a part holds of its parts -/
/-! sums -/
end Go.Proofs.YtidhogejnafhaaaGreat

namespace Go.Proofs.YtidhogejnafhaaaGreat
open Go.Proofs Go.Aw Go.RowKit
set_option maxRecDepth 100000
set_option linter.unusedVariables false
set_option linter.unusedSimpArgs false

end Go.Proofs.YtidhogejnafhaaaGreat

namespace Go.Proofs.YtidhogejnafhaaaGreat
open Go.Proofs Go.Aw Go.RowKit
set_option maxRecDepth 100000
set_option linter.unusedVariables false
set_option linter.unusedSimpArgs false

/-! ### Means of lists of spans -/
def sums : List (Int × Int) → Int × Int → Int × Int
  | [], v => v
  | a :: l, v => sums l (v.1 + a.1, v.2 + a.2)
section
variable {l : List (Int × Int)}
end
/-! ### The mean over two panels -/
theorem foldl_map {α β : Type} (g : α → β) : ∀ (l : List α) (a : List β), l.foldl (fun v x => v ++ [g x]) a = a ++ l.map g
  | [], a => by simp
  | x :: l, a => by rw [List.foldl_cons, foldl_map g l]; simp
end Go.Proofs.YtidhogejnafhaaaGreat

namespace Go.Proofs.YtidhogejnafhaaaGreat
open Go.Proofs Go.Aw Go.RowKit
set_option maxRecDepth 100000
set_option linter.unusedVariables false
set_option linter.unusedSimpArgs false

end Go.Proofs.YtidhogejnafhaaaGreat

namespace Go.Proofs.YtidhogejnafhaaaGreat
open Go.Proofs Go.Aw Go.RowKit
set_option maxRecDepth 100000
set_option linter.unusedVariables false
set_option linter.unusedSimpArgs false

/-! ### Sound: what the small functions say -/
/-! distances -/
/-! what is asked -/
/-! how far sound goes -/
end Go.Proofs.YtidhogejnafhaaaGreat

namespace Go.Proofs.YtidhogejnafhaaaGreat
open Go.Proofs Go.Aw Go.RowKit
set_option maxRecDepth 100000
set_option linter.unusedVariables false
set_option linter.unusedSimpArgs false

end Go.Proofs.YtidhogejnafhaaaGreat

namespace Go.Proofs.YtidhogejnafhaaaGreat
open Go.Proofs Go.Aw Go.RowKit
set_option maxRecDepth 100000
set_option linter.unusedVariables false
set_option linter.unusedSimpArgs false

end Go.Proofs.YtidhogejnafhaaaGreat

namespace Go.Proofs.YtidhogejnafhaaaGreat
open Go.Proofs Go.Aw Go.RowKit
set_option maxRecDepth 100000
set_option linter.unusedVariables false
set_option linter.unusedSimpArgs false

end Go.Proofs.YtidhogejnafhaaaGreat

namespace Go.Proofs.YtidhogejnafhaaaGreat
open Go.Proofs Go.Aw Go.RowKit
set_option maxRecDepth 100000
set_option linter.unusedVariables false
set_option linter.unusedSimpArgs false

/-! ### Travels -/
section
variable {n s t : Int}
end
/-! ### From when to when -/
end Go.Proofs.YtidhogejnafhaaaGreat

namespace Go.Proofs.YtidhogejnafhaaaGreat
open Go.Proofs Go.Aw Go.RowKit
set_option maxRecDepth 100000
set_option linter.unusedVariables false
set_option linter.unusedSimpArgs false

/-! ### What is heard of a pulse -/
/-! a list that is filled, or left at the first error -/
def shs {α β : Type} (g : α → β × Int) : List α → List β → List β ⊕ Int
  | [], l => .inl l
  | c :: m, l => if (g c).2 = 0 then shs g m (l ++ [(g c).1]) else .inr (g c).2
def out8 {β R : Type} (G : List β → R) (E : Int → R) : List β ⊕ Int → R
  | .inl m => G m
  | .inr e => E e
theorem shs_loopF {α β R : Type} [Inhabited R] {g : α → β × Int} {S : List β × Int → (List β × Int) ⊕ R} {G : List β → R} {E : Int → R} {L : List α}
    (hS : ∀ (i : Nat) (c : α), L[i]? = some c → ∀ l : List β, S (l, (i : Int)) = bif ((g c).2 != 0) then .inr (E (g c).2) else .inl (l ++ [(g c).1], ((i + 1 : Nat) : Int)))
    (hE : ∀ l : List β, S (l, (L.length : Int)) = .inr (G l)) :
    ∀ (k : List α) (i n : Nat) (l : List β), L.drop i = k → i ≤ L.length → k.length < n → loopF S n (l, (i : Int)) = out8 G E (shs g k l)
  | [], i, n, l, hd, hi', hn => by
    have : i = L.length := by have := List.drop_eq_nil_iff.1 hd; omega
    obtain ⟨n, rfl⟩ : ∃ m, n = m + 1 := ⟨n - 1, by simp only [List.length_nil] at hn; omega⟩
    subst this
    rw [loopF_inr (hE _)]; rfl
  | c :: k, i, n, l, hd, hi', hn => by
    have hc : L[i]? = some c := by
      have : (L.drop i)[0]? = some c := by rw [hd]; rfl
      simpa using this
    obtain ⟨hlt, hce⟩ := List.getElem?_eq_some_iff.1 hc
    obtain ⟨n, rfl⟩ : ∃ m, n = m + 1 := ⟨n - 1, by omega⟩
    have h1 := hS i c hc l
    unfold shs
    by_cases h : (g c).2 = 0
    · rw [h] at h1
      rw [loopF_inl h1, if_pos h]
      exact shs_loopF hS hE k (i + 1) n _ (by rw [← List.drop_drop, hd]; rfl) (by omega) (by simp only [List.length_cons] at hn; omega)
    · rw [bne_iff_ne.2 h, cond_true] at h1
      rw [loopF_inr h1, if_neg h]; rfl
theorem shs_inl {α β : Type} {g : α → β × Int} : ∀ {k : List α} {l m : List β}, shs g k l = .inl m → m = l ++ k.map (fun c => (g c).1) ∧ ∀ c ∈ k, (g c).2 = 0
  | [], l, m, h => by simp only [shs] at h; cases h; simp
  | c :: k, l, m, h => by
    unfold shs at h
    split at h
    · rename_i h0
      obtain ⟨h1, h2⟩ := shs_inl h
      refine ⟨by rw [h1]; simp, fun x hx => ?_⟩
      rcases List.mem_cons.1 hx with rfl | hx
      · exact h0
      · exact h2 x hx
    · cases h
/-! a pulse in a tick -/
end Go.Proofs.YtidhogejnafhaaaGreat

namespace Go.Proofs.YtidhogejnafhaaaGreat
open Go.Proofs Go.Aw Go.RowKit
set_option maxRecDepth 100000
set_option linter.unusedVariables false
set_option linter.unusedSimpArgs false

/-! ### Slices of flat elements as arguments -/
open Go.ChangeShapes Go.WideShapes Go.ChangeAt
section
variable {H : Type} {enc : TypeId × Value → H} {P : Program} {w : World}
/-- what a slice of elements of es numbers holds -/
def SliceOf (w : World) (es : Nat) (v : Value) (nss : List (List Int)) : Prop :=
  (∀ ns ∈ nss, ns.length = es) ∧ nss.length ≤ 9223372036854775807 ∧
  ((v = .slice none 0 0 ∧ nss = []) ∨ ∃ b o cap, v = .slice (some ⟨b, o, none⟩) nss.length cap ∧ nss.length ≤ cap ∧ ∀ (i : Nat) (x : Value), ((nss.flatten).map (Value.int .i64))[i]? = some x → w.cell? ⟨b, o + i, none⟩ = some x)
theorem flat_cells {es b : Nat} : ∀ (nss : List (List Int)) (o : Nat), (∀ (j : Nat) (ns : List Int), nss[j]? = some ns → ns.length = es ∧ ∀ (q : Nat) (x : Value), (ns.map (Value.int .i64))[q]? = some x → w.cell? ⟨b, o + j * es + q, none⟩ = some x) →
    ∀ (i : Nat) (x : Value), ((nss.flatten).map (Value.int .i64))[i]? = some x → w.cell? ⟨b, o + i, none⟩ = some x
  | [], o, _, i, x, hi => by simp at hi
  | ns :: l, o, h, i, x, hi => by
    obtain ⟨h1, h2⟩ := h 0 ns rfl
    rw [List.flatten_cons, List.map_append] at hi
    by_cases hlt : i < ns.length
    · rw [List.getElem?_append_left (by simpa using hlt)] at hi
      have := h2 i x hi
      simpa using this
    · rw [List.getElem?_append_right (by simpa using hlt)] at hi
      have := flat_cells l (o + es) (fun j ms hj => ⟨(h (j + 1) ms hj).1, fun q y hq => by
        have := (h (j + 1) ms hj).2 q y hq
        rw [show o + es + j * es + q = o + (j + 1) * es + q by rw [Nat.add_mul]; omega]; exact this⟩) (i - es) x (by simpa [h1] using hi)
      rw [show o + es + (i - es) = o + i by omega] at this; exact this
/-- where a slice lies -/
def rho (es : Nat) : Value → Option (Nat × Nat × Nat)
  | .slice (some a) _ cap => some (a.block, a.off, cap * es)
  | _ => none
theorem slice_rel {es : Nat} {v : Value} {nss : List (List Int)} {ρ : Env} {k : Nat} (h : SliceOf w es v nss) (hk : ρ k = rho es v) : Rel ρ (.s k 0 nss.length es) v := by
  obtain ⟨h1, h2, ⟨rfl, rfl⟩ | ⟨b, o, cap, rfl, h3, h4⟩⟩ := h
  · simp only [Rel]; exact .inl ⟨hk, rfl, trivial⟩
  · simp only [Rel]; exact .inr ⟨b, o, cap * es, cap, 0, hk, rfl, h3, by omega, fun _ => rfl⟩
theorem flatten_len {es : Nat} : ∀ {nss : List (List Int)}, (∀ ns ∈ nss, ns.length = es) → nss.flatten.length = nss.length * es
  | [], _ => by simp
  | ns :: l, h => by
    rw [List.flatten_cons, List.length_append, flatten_len (fun m hm => h m (List.mem_cons_of_mem _ hm)), h ns List.mem_cons_self, List.length_cons, Nat.add_mul]; omega
theorem slice_brep {es : Nat} {v : Value} {nss : List (List Int)} {ρ : Env} {k : Nat} {M : Nat → Prop} (h : SliceOf w es v nss) (hk : ρ k = rho es v) (hM : ∀ b, M b → w.heap.size ≤ b) : BRep ρ M w k (.live false true ((nss.flatten).map iv)) := by
  obtain ⟨h1, h2, ⟨rfl, rfl⟩ | ⟨b, o, cap, rfl, h3, h4⟩⟩ := h
  · exact .inl ⟨hk, rfl⟩
  · have hlen := flatten_len h1
    refine .inr ⟨b, o, cap * es, (nss.flatten).map (Value.int .i64), hk, ⟨?_, fun hne hm => ?_⟩, rels_iv _, h4⟩
    · rw [List.length_map, hlen]; exact Nat.mul_le_mul_right _ h3
    · have hb := hM b hm
      obtain ⟨x, hx⟩ := List.exists_mem_of_ne_nil _ hne
      obtain ⟨i, hi⟩ := List.getElem?_of_mem hx
      have := World.block_lt_of_cell? w ⟨b, o + i, none⟩ (h4 i x hi)
      exact absurd this (Nat.not_lt_of_le hb)
theorem flat_mk {α : Type} {c : α → List SV} {f : List Int → α} {es : Nat} (hc : ∀ ns : List Int, ns.length = es → c (f ns) = ns.map iv) : ∀ {nss : List (List Int)}, (∀ ns ∈ nss, ns.length = es) → flat c (nss.map f) = (nss.flatten).map iv
  | [], _ => rfl
  | ns :: l, h => by
    have := flat_mk hc (nss := l) (fun m hm => h m (List.mem_cons_of_mem _ hm))
    unfold flat at *
    rw [List.map_cons, List.flatMap_cons, this, hc ns (h ns List.mem_cons_self), List.flatten_cons, List.map_append]
end
theorem plain_ivs : ∀ ns : List Int, Plain (ns.map iv)
  | [] => fun k hk => by simp [SV.hasl] at hk
  | n :: l => fun k hk => by
    simp only [List.map_cons, SV.hasl] at hk
    rcases hk with hk | hk
    · simp [iv, SV.has] at hk
    · exact plain_ivs l k hk
/-- A contract to which lists are handed over that it only reads, called. -/
theorem law_callsL {P : Program} {f : Nat} {args : List SV} {vs : List Value} {x : Value} {bs : List BK} (hc : Con P f args bs (.v x) []) (ρ : Env) {W : World} (hr : Rels ρ args vs) (hown : ∀ i, ¬ (bs.getD i .un).own)
    (hb : (∀ b, (callCx ρ W bs).mine b → W.heap.size ≤ b) → ∀ i, BRep ρ (callCx ρ W bs).mine W i (bs.getD i .un)) (hpl : ∀ i, (bs.getD i .un).pl) (hnf : ∀ b, ρ.fz b = none) :
    Calls P f vs.toArray W fun e W' => e = .returned x ∧ Below W.heap.size W W' := by
  have hM : ∀ b, (callCx ρ W bs).mine b → W.heap.size ≤ b := by
    rintro b (h | ⟨i, n, hi, _⟩)
    · exact h
    · exact absurd hi (hown i)
  refine (hc.2 ρ W vs hr (hb hM) hpl (fun i j b n b' n' _ h => absurd h (hown i)) (fun b o h => by rw [hnf b] at h; cases h)).mono fun e W' h => ?_
  obtain ⟨ρ', v, rfl, _, hv, hk, _⟩ := h
  refine ⟨by rw [show v = x from hv], hk.os, hk.tape, hk.output, hk.size, fun k hk' => hk.block k hk' ?_⟩
  rintro ⟨i, n, hi, _⟩
  exact hown i hi
end Go.Proofs.YtidhogejnafhaaaGreat

namespace Go.Proofs.YtidhogejnafhaaaGreat
open Go.Proofs Go.Aw Go.RowKit
set_option maxRecDepth 100000
set_option linter.unusedVariables false
set_option linter.unusedSimpArgs false

/-! ### Sums of lists of spans -/
def okw (v : Int × Int) (n : Nat) : Prop := (-4611686018427387904 + 1099511627776 * n ≤ v.1 ∧ v.1 + 1099511627776 * n ≤ 4611686018427387904) ∧ (-4611686018427387904 + 1099511627776 * n ≤ v.2 ∧ v.2 + 1099511627776 * n ≤ 4611686018427387904)
theorem okw_next {v a : Int × Int} {n : Nat} (h : okw v (n + 1)) (ha : vs a) : okw (v.1 + a.1, v.2 + a.2) n := by unfold okw vs at *; simp only; omega
theorem okw_W {v : Int × Int} {n : Nat} (h : okw v n) : W v.1 = v.1 ∧ W v.2 = v.2 := by unfold okw at h; exact ⟨W_eq (by omega) (by omega), W_eq (by omega) (by omega)⟩
theorem okw_0 {n : Nat} (h : n ≤ 10000) : okw (0, 0) n := by unfold okw; simp only; omega
theorem sumw_loopF {R : Type} [Inhabited R] {S : Int × Int × Int → (Int × Int × Int) ⊕ R} {G : Int × Int → R} {L : List (Int × Int)} (hl : ∀ a ∈ L, vs a)
    (hS : ∀ (i : Nat) (a : Int × Int), L[i]? = some a → ∀ v1 v2 : Int, S (v1, v2, (i : Int)) = .inl (W (v1 + a.1), W (v2 + a.2), ((i + 1 : Nat) : Int)))
    (hE : ∀ v1 v2 : Int, S (v1, v2, (L.length : Int)) = .inr (G (v1, v2))) :
    ∀ (l : List (Int × Int)) (i n : Nat) (v : Int × Int), L.drop i = l → i ≤ L.length → l.length < n → okw v l.length → loopF S n (v.1, v.2, (i : Int)) = G (sums l v) := by
  intro l
  induction l with
  | nil =>
    intro i n v hd hi' hn h
    have : i = L.length := by have := List.drop_eq_nil_iff.1 hd; omega
    obtain ⟨n, rfl⟩ : ∃ m, n = m + 1 := ⟨n - 1, by simp only [List.length_nil] at hn; omega⟩
    subst this
    rw [loopF_inr (hE _ _)]; rfl
  | cons c l ih =>
    intro i n v hd hi' hn h
    have hc : L[i]? = some c := by
      have : (L.drop i)[0]? = some c := by rw [hd]; rfl
      simpa using this
    obtain ⟨hlt, hce⟩ := List.getElem?_eq_some_iff.1 hc
    obtain ⟨n, rfl⟩ : ∃ m, n = m + 1 := ⟨n - 1, by omega⟩
    have h1 : okw (v.1 + c.1, v.2 + c.2) l.length := okw_next h (hl c (hce ▸ List.getElem_mem hlt))
    have hw := okw_W h1
    simp only at hw
    rw [loopF_inl (hS i c hc v.1 v.2), hw.1, hw.2]
    exact ih (i + 1) n (v.1 + c.1, v.2 + c.2) (by rw [← List.drop_drop, hd]; rfl) (by omega) (by simp only [List.length_cons] at hn; omega) h1
section
variable {l : List (Int × Int)}
theorem vs_val {a : Int × Int} (h : vs a) : F85 a = true := val_f (a := a.1) (b := a.2) h.1 h.2.1 h.2.2
theorem chkW (hl : ∀ a ∈ l, vs a) : F77_L l = 0 := by
  have key : ∀ (m : List (Int × Int)) (i n : Nat), l.drop i = m → i ≤ l.length → m.length < n → loopF (S77_L_0 l) n (i : Int) = 0 := by
    intro m
    induction m with
    | nil =>
      intro i n hd hi hn
      have : i = l.length := by have := List.drop_eq_nil_iff.1 hd; omega
      obtain ⟨n, rfl⟩ : ∃ m, n = m + 1 := ⟨n - 1, by simp only [List.length_nil] at hn; omega⟩
      subst this
      refine loopF_inr ?_
      simp only [S77_L_0]
      rw [decide_eq_false (Int.lt_irrefl _), cond_false]
    | cons c m ih =>
      intro i n hd hi hn
      have hc : l[i]? = some c := by
        have : (l.drop i)[0]? = some c := by rw [hd]; rfl
        simpa using this
      obtain ⟨hlt, hce⟩ := List.getElem?_eq_some_iff.1 hc
      obtain ⟨n, rfl⟩ : ∃ m, n = m + 1 := ⟨n - 1, by omega⟩
      have hg : l.getD i default = c := by rw [List.getD_eq_getElem?_getD, hc]; rfl
      have e : S77_L_0 l (i : Int) = .inl ((i + 1 : Nat) : Int) := by
        simp only [S77_L_0]
        rw [decide_eq_true (show ((i : Nat) : Int) < (l.length : Nat) by omega), cond_true, Int.toNat_natCast, hg, vs_val (hl c (hce ▸ List.getElem_mem hlt))]; rfl
      rw [loopF_inl e]
      exact ih (i + 1) n (by rw [← List.drop_drop, hd]; rfl) (by omega) (by simp only [List.length_cons] at hn; omega)
  unfold F77_L
  exact key l 0 _ rfl (Nat.zero_le _) (by omega)
theorem totw_f (hl : ∀ a ∈ l, vs a) (hn : l.length ≤ 10000) : F47_L l = ((sums l (0, 0)).1, (sums l (0, 0)).2, 0) := by
  unfold F47_L
  rw [decide_eq_false (by omega), cond_false, chkW hl]
  show loopF _ _ (((0, 0) : Int × Int).1, ((0, 0) : Int × Int).2, ((0 : Nat) : Int)) = _
  refine sumw_loopF (G := fun v => (v.1, v.2, 0)) hl (fun i a hi v1 v2 => ?_) (fun v1 v2 => ?_) l 0 _ (0, 0) rfl (Nat.zero_le _) (by omega) (okw_0 hn)
  · obtain ⟨hlt, hce⟩ := List.getElem?_eq_some_iff.1 hi
    have hg : l.getD i default = a := by rw [List.getD_eq_getElem?_getD, hi]; rfl
    simp only [S47_L_0]
    rw [decide_eq_true (show ((i : Nat) : Int) < (l.length : Nat) by omega), cond_true, Int.toNat_natCast, hg]; rfl
  · simp only [S47_L_0]
    rw [decide_eq_false (Int.lt_irrefl _), cond_false]
theorem totw_r (hl : ∀ a ∈ l, vs a) (hn : l.length ≤ 10000) : F73_L l = ((sums l (0, 0)).1, (sums l (0, 0)).2, 0) := by
  unfold F73_L
  rw [decide_eq_false (by omega), cond_false]
  show loopF _ _ (((0, 0) : Int × Int).1, ((0, 0) : Int × Int).2, ((0 : Nat) : Int)) = _
  refine sumw_loopF (G := fun v => (v.1, v.2, 0)) hl (fun i a hi v1 v2 => ?_) (fun v1 v2 => ?_) l 0 _ (0, 0) rfl (Nat.zero_le _) (by omega) (okw_0 hn)
  · obtain ⟨hlt, hce⟩ := List.getElem?_eq_some_iff.1 hi
    have hg : l.getD i default = a := by rw [List.getD_eq_getElem?_getD, hi]; rfl
    simp only [S73_L_0]
    rw [decide_eq_true (show ((i : Nat) : Int) < (l.length : Nat) by omega), cond_true, Int.toNat_natCast, hg, show F123 a = true from vs_val (hl a (hce ▸ List.getElem_mem hlt))]; rfl
  · simp only [S73_L_0]
    rw [decide_eq_false (Int.lt_irrefl _), cond_false]
/-- the least span of the sums, or an error -/
noncomputable def sumV (l : List (Int × Int)) : (Int × Int) × Int := F48 (sums l (0, 0)).1 (sums l (0, 0)).2
theorem Sum_f (hl : ∀ a ∈ l, vs a) (hn : l.length ≤ 10000) : F15_L l = sumV l := by
  unfold F15_L
  rw [totw_f hl hn]; rfl
theorem Sum_r (hl : ∀ a ∈ l, vs a) (hn : l.length ≤ 10000) : F32_L l = sumV l := by
  unfold F32_L
  rw [totw_r hl hn]; rfl
end
end Go.Proofs.YtidhogejnafhaaaGreat

namespace Go.Proofs.YtidhogejnafhaaaGreat
open Go.Proofs Go.Aw Go.RowKit
set_option maxRecDepth 100000
set_option linter.unusedVariables false
set_option linter.unusedSimpArgs false

theorem flat_set {α : Type} {c : α → List SV} {es : Nat} (hc : ∀ x, (c x).length = es) {L : List α} {i o : Nat} {xs : List SV} {d y : α} (hi : i < L.length) (ho : o + xs.length ≤ es) (hy : c y = splice (c (L.getD i d)) o xs) :
    splice (flat c L) (0 + i * es + o) xs = flat c (L.set i y) := by
  induction L generalizing i with
  | nil => simp at hi
  | cons x L ih =>
    cases i with
    | zero =>
      have hy' : c y = splice (c x) o xs := hy
      have hx := hc x
      simp only [flat, List.flatMap_cons, List.set_cons_zero, hy']
      unfold splice
      simp only [Nat.zero_mul, Nat.zero_add]
      rw [List.take_append_of_le_length (by omega), List.drop_append_of_le_length (by omega)]
      simp [List.append_assoc]
    | succ i =>
      have h := ih (i := i) (by simpa using hi) hy
      have hx := hc x
      simp only [flat, List.flatMap_cons, List.set_cons_succ] at h ⊢
      rw [← h]
      unfold splice
      have e1 : 0 + (i + 1) * es + o = (c x).length + (0 + i * es + o) := by rw [hx, Nat.add_mul]; omega
      rw [e1, List.take_length_add_append, show (c x).length + (0 + i * es + o) + xs.length = (c x).length + (0 + i * es + o + xs.length) by omega, List.drop_length_add_append]
      simp [List.append_assoc]
theorem flat_setl {α : Type} {c : α → List SV} {es : Nat} (hc : ∀ x, (c x).length = es) {L : List α} {i o n : Nat} (hi : i < L.length) (ho : o + n ≤ es) : 0 + i * es + o + n ≤ (flat c L).length := by
  rw [flat_length hc]
  have := Nat.mul_le_mul_right es (show i + 1 ≤ L.length by omega)
  rw [Nat.add_mul] at this
  omega

end Go.Proofs.YtidhogejnafhaaaGreat

namespace Go.Proofs.YtidhogejnafhaaaGreat
open Go.Proofs Go.Aw Go.RowKit
set_option maxRecDepth 100000
set_option linter.unusedVariables false
set_option linter.unusedSimpArgs false

/-! ### Arguments of mixed cells: numbers, truth values, slices of flat elements -/
open Go.ChangeShapes Go.WideShapes Go.ChangeAt
inductive CK where
  | i | b | s (es : Nat)
deriving DecidableEq
/-- what the cells of a type are -/
def kindsB (P : Program) : Nat → TypeId → Option (List CK)
  | 0, _ => none
  | k + 1, t => match P.underlying t with
    | some (.int .i64) => some [.i]
    | some .bool => some [.b]
    | some (.slice e) => bif flatB P 6 e then some [.s (P.cellsOf e)] else none
    | some (.struct fs) => fs.toList.foldr (fun f r o => bif f.offset == o then match kindsB P k f.type with
        | some a => bif a.length == P.cellsOf f.type then (r (o + P.cellsOf f.type)).map (a ++ ·) else none
        | none => none else none) (fun o => bif o == P.cellsOf t then some [] else none) 0
    | _ => none
section
variable {H : Type} {enc : TypeId × Value → H} {P : Program} {w : World}
theorem open_listC {e : TypeId} {t : TypeId} {v : Value} {fuel : Nat} {x : DataW H × List MemPlace} (ht : P.underlying t = some (.slice e)) (hf : flatB P 6 e = true)
    (hsp : ∀ a len cap, v = .slice (some a) len cap → a.spot = none) (hx : DataW.trod enc P w 0 (fun _ => true) true fuel t [v] = some x) : ∃ nss, SliceOf w (P.cellsOf e) v nss := by
  rcases Go.Deep.open_slice ht hx with ⟨hc, _⟩ | ⟨a', len', cap', m, n, D, Pl, hc, hb, hl, hm, hmm, _, hall⟩
  · simp only [List.cons.injEq, and_true] at hc
    exact ⟨[], fun ns h => by simp at h, by simp, .inl ⟨hc, rfl⟩⟩
  · simp only [List.cons.injEq, and_true] at hc
    subst hc
    have hsp := hsp a' len' cap' rfl
    obtain ⟨b, o, sp⟩ := a'
    simp only at hsp
    subst hsp
    simp only [if_true] at hmm
    obtain ⟨N, hN⟩ := Go.Deep.choose_lt (α := List Int) (p := fun i ns => ns.length = P.cellsOf e ∧ ∀ (q : Nat) (x : Value), (ns.map (Value.int .i64))[q]? = some x → w.cell? ⟨b, o + i * P.cellsOf e + q, none⟩ = some x) (n := len') (fun i hi => by
      obtain ⟨cs', h1, h2⟩ := hall i (by omega)
      obtain ⟨_, ns, rfl⟩ := flat_trod 6 e n cs' _ hf h2
      obtain ⟨_, hlen, hcell⟩ := World.cells?_some h1
      refine ⟨ns, by simpa using hlen, fun q x hq => ?_⟩
      have hq' := (List.getElem?_eq_some_iff.1 hq).1
      have := hcell q (by rw [← hlen]; omega)
      rw [Go.Aw.add_eq, Go.Aw.add_eq] at this
      rw [this, hq])
    refine ⟨(List.range len').map N, fun ns h => ?_, ?_, .inr ⟨b, o, cap', ?_, ?_, ?_⟩⟩
    · obtain ⟨i, hi, rfl⟩ := List.mem_map.1 h
      exact (hN i (by simpa using hi)).1
    · have : maxLen = 9223372036854775807 := rfl
      simp; omega
    · simp
    · simpa using hl
    · refine flat_cells (es := P.cellsOf e) _ o (fun j ns hj => ?_)
      have hjl := (List.getElem?_eq_some_iff.1 hj).1
      simp only [List.length_map, List.length_range] at hjl
      have : N j = ns := by simpa [hjl] using hj
      subst this
      exact hN j hjl
def CellIs (w : World) : CK → Value → Prop
  | .i, v => ∃ n : Int, v = .int .i64 n
  | .b, v => ∃ x : Bool, v = .bool x
  | .s es, v => ∃ nss, SliceOf w es v nss
def CellsAre (w : World) : List CK → List Value → Prop
  | [], [] => True
  | k :: ks, v :: vs => CellIs w k v ∧ CellsAre w ks vs
  | _, _ => False
theorem CellsAre.app : ∀ {ks ks' : List CK} {vs vs' : List Value}, CellsAre w ks vs → CellsAre w ks' vs' → CellsAre w (ks ++ ks') (vs ++ vs')
  | [], _, [], _, _, h => h
  | [], _, _ :: _, _, h, _ => h.elim
  | _ :: _, _, [], _, h, _ => h.elim
  | _ :: _, _, _ :: _, _, ⟨h1, h2⟩, h => ⟨h1, CellsAre.app h2 h⟩
theorem kinds_trod : ∀ (k : Nat) (t : TypeId) (ks : List CK) (fuel : Nat) (cs : List Value) (x : DataW H × List MemPlace), kindsB P k t = some ks →
    (∀ v ∈ cs, ∀ a len cap, v = .slice (some a) len cap → a.spot = none) → DataW.trod enc P w 0 (fun _ => true) true fuel t cs = some x → CellsAre w ks cs
  | 0, _, _, _, _, _, h, _, _ => by simp [kindsB] at h
  | k + 1, t, ks, fuel, cs, x, h, hsp, hx => by
    unfold kindsB at h
    split at h
    · rename_i ht
      obtain ⟨n, rfl, rfl, _⟩ := DataW.trod_int ht hx
      obtain rfl : [CK.i] = ks := Option.some.inj h
      exact ⟨⟨n, rfl⟩, trivial⟩
    · rename_i ht
      obtain ⟨n, rfl, rfl⟩ := DataW.trod_bool ht hx
      obtain rfl : [CK.b] = ks := Option.some.inj h
      exact ⟨⟨n, rfl⟩, trivial⟩
    · rename_i e ht
      cases hf : flatB P 6 e with
      | false => rw [hf] at h; cases h
      | true =>
        rw [hf] at h
        obtain rfl : [CK.s (P.cellsOf e)] = ks := Option.some.inj h
        have : ∃ v, cs = [v] := by
          rcases Go.Deep.open_slice ht hx with ⟨hc, _⟩ | ⟨a', len', cap', m, n, D, Pl, hc, _⟩ <;> exact ⟨_, hc⟩
        obtain ⟨v, rfl⟩ := this
        exact ⟨open_listC ht hf (hsp v List.mem_cons_self) hx, trivial⟩
    · rename_i fs ht
      obtain ⟨xs, m, rfl, rfl, hl, hlen, hF⟩ := DataW.trod_struct ht hx
      have key : ∀ (l : List Field) (o : Nat) (ks : List CK),
          l.foldr (fun f r o => bif f.offset == o then match kindsB P k f.type with
            | some a => bif a.length == P.cellsOf f.type then (r (o + P.cellsOf f.type)).map (a ++ ·) else none
            | none => none else none) (fun o => bif o == P.cellsOf t then some [] else none) o = some ks →
          (∀ f ∈ l, ∃ y, DataW.trod enc P w 0 (fun _ => true) true m f.type ((cs.drop f.offset).take (P.cellsOf f.type)) = some y) → CellsAre w ks (cs.drop o) := by
        intro l
        induction l with
        | nil =>
          intro o ks h _
          simp only [List.foldr_nil] at h
          cases ho : o == P.cellsOf t with
          | false => rw [ho] at h; cases h
          | true =>
            rw [ho] at h
            obtain rfl : [] = ks := Option.some.inj h
            rw [beq_iff_eq.1 ho, ← hl, List.drop_length]; trivial
        | cons f l ih =>
          intro o ks h hy
          simp only [List.foldr_cons] at h
          cases ho : f.offset == o with
          | false => rw [ho] at h; cases h
          | true =>
            rw [ho] at h
            simp only [cond_true] at h
            split at h
            · rename_i a ha
              cases hc : a.length == P.cellsOf f.type with
              | false => rw [hc] at h; cases h
              | true =>
                rw [hc] at h
                simp only [cond_true, Option.map_eq_some_iff] at h
                obtain ⟨ks', h1, rfl⟩ := h
                obtain ⟨y, hy0⟩ := hy f List.mem_cons_self
                rw [beq_iff_eq.1 ho] at hy0
                have g1 := kinds_trod k f.type a m _ y ha (fun v hv => hsp v (List.mem_of_mem_drop (List.mem_of_mem_take hv))) hy0
                have g2 := ih _ _ h1 (fun f' hf' => hy f' (List.mem_cons_of_mem _ hf'))
                have := g1.app g2
                rwa [← List.drop_drop, List.take_append_drop] at this
            · cases h
      have := key fs.toList 0 ks h (fun f hf => by
        obtain ⟨i, hi⟩ := List.getElem?_of_mem hf
        have := hF i f (by simpa using hi)
        have hil : i < xs.length := by rw [hlen]; have := (List.getElem?_eq_some_iff.1 hi).1; simpa using this
        rw [List.getElem?_eq_getElem hil] at this
        exact ⟨_, this⟩)
      simpa using this
    · cases h
theorem cell_spot {r : Reach} {b0 : Nat} {u : TypeId} {a : Addr} {len cap : Nat} (h : Cell.okWide P w r b0 u (.slice (some a) len cap)) : a.spot = none := by
  unfold Cell.okWide at h
  split at h <;> try (exact h.elim)
  all_goals try (simp_all; done)
  unfold Cell.ok at h
  split at h <;> simp_all [World.has]
theorem open_kinds {r : Reach} {b0 : Nat} {t : TypeId} {fs : Array Field} {v : Value} {d : DataW H} {ps : List MemPlace} (ks : List CK) (ht : P.underlying t = some (.struct fs)) (hk : kindsB P 6 t = some ks)
    (hval : Value.okWide P w r b0 t v) (hd : DataW.Trod enc P w 0 (fun _ => true) true t v d ps) : (∃ cs, v = .agg cs.toArray ∧ CellsAre w ks cs) ∧ ∀ x ∈ ps, x.block < w.heap.size := by
  obtain ⟨fuel, hx⟩ := hd
  refine ⟨?_, DataW.trod_lt fuel t _ _ hx⟩
  simp only [Value.okWide, ht] at hval
  obtain ⟨cs, rfl, hs, ts, _, _, hall⟩ := hval
  refine ⟨cs.toList, by simp, kinds_trod 6 t ks fuel _ _ hk (fun v hv a len cap e => ?_) (by simpa [Value.cells] using hx)⟩
  obtain ⟨i, hi⟩ := List.getElem?_of_mem hv
  obtain ⟨u, _, hu⟩ := hall i v (by simpa using hi)
  subst e
  exact cell_spot hu
theorem cells_cons {k : CK} {ks : List CK} {cs : List Value} (h : CellsAre w (k :: ks) cs) : ∃ v vs, cs = v :: vs ∧ CellIs w k v ∧ CellsAre w ks vs := by
  cases cs with
  | nil => exact h.elim
  | cons v vs => exact ⟨v, vs, rfl, h.1, h.2⟩
theorem cells_nil {cs : List Value} (h : CellsAre w [] cs) : cs = [] := by
  cases cs with
  | nil => rfl
  | cons v vs => exact h.elim
end
/-- slices that are handed over: size of an element, value, what they hold -/
def rhoN (l : List (Nat × Value × List (List Int))) : Env := ⟨fun k => match l[k]? with
  | some x => rho x.1 x.2.1
  | none => none, fun _ => none⟩
theorem law_callsN {P : Program} {f : Nat} {args : List SV} {vs : List Value} {x : Value} {W : World} (l : List (Nat × Value × List (List Int)))
    (hc : Con P f args (l.map fun y => .live false true ((y.2.2.flatten).map iv)) (.v x) []) (hs : ∀ y ∈ l, SliceOf W y.1 y.2.1 y.2.2) (hr : Rels (rhoN l) args vs) :
    Calls P f vs.toArray W fun e W' => e = .returned x ∧ Below W.heap.size W W' := by
  have hget : ∀ i, ((l.map fun y => BK.live false true ((y.2.2.flatten).map iv)).getD i .un = .un) ∨ ∃ y, l[i]? = some y ∧ (l.map fun y => BK.live false true ((y.2.2.flatten).map iv)).getD i .un = .live false true ((y.2.2.flatten).map iv) := by
    intro i
    rw [List.getD_eq_getElem?_getD, List.getElem?_map]
    cases h : l[i]? with
    | none => exact .inl rfl
    | some y => exact .inr ⟨y, rfl, rfl⟩
  refine law_callsL hc _ hr (fun i => ?_) (fun hM i => ?_) (fun i => ?_) (fun _ => rfl)
  · rcases hget i with h | ⟨y, _, h⟩ <;> rw [h] <;> simp [BK.own]
  · rcases hget i with h | ⟨y, h1, h⟩
    · rw [h]; simp [BRep]
    · rw [h]
      exact slice_brep (hs y (List.mem_of_getElem? h1)) (by simp only [rhoN, h1]) hM
  · rcases hget i with h | ⟨y, _, h⟩
    · rw [h]; simp [BK.pl]
    · rw [h]; exact plain_ivs _

/-! ### A loop over a list, whatever its state -/
/-- goes through a list with a state, until one round is the last -/
def foldE {α σ R : Type} (f : σ → α → σ ⊕ R) : List α → σ → σ ⊕ R
  | [], v => .inl v
  | c :: l, v => match f v c with
    | .inl v' => foldE f l v'
    | .inr r => .inr r
/-- what a loop gives in the end -/
def outE {σ R : Type} (G : σ → R) : σ ⊕ R → R
  | .inl v => G v
  | .inr r => r
theorem each_loopF {α σ T R : Type} [Inhabited R] (pk : σ → Int → T) {S : T → T ⊕ R} (f : σ → α → σ ⊕ R) (G : σ → R) {L : List α} (I : Nat → σ → Prop)
    (hS : ∀ (i : Nat) (c : α), L[i]? = some c → ∀ v, I i v → S (pk v (i : Int)) = match f v c with | .inl v' => .inl (pk v' ((i + 1 : Nat) : Int)) | .inr r => .inr r)
    (hI : ∀ (i : Nat) (c : α), L[i]? = some c → ∀ v v', I i v → f v c = .inl v' → I (i + 1) v')
    (hE : ∀ v, I L.length v → S (pk v (L.length : Int)) = .inr (G v)) :
    ∀ (k : List α) (i n : Nat) (v : σ), L.drop i = k → i ≤ L.length → k.length < n → I i v → loopF S n (pk v (i : Int)) = outE G (foldE f k v) := by
  intro k
  induction k with
  | nil =>
    intro i n v hd hi' hn hv
    have : i = L.length := by have := List.drop_eq_nil_iff.1 hd; omega
    obtain ⟨n, rfl⟩ : ∃ m, n = m + 1 := ⟨n - 1, by simp only [List.length_nil] at hn; omega⟩
    subst this
    rw [loopF_inr (hE _ hv)]; rfl
  | cons c k ih =>
    intro i n v hd hi' hn hv
    have hc : L[i]? = some c := by
      have : (L.drop i)[0]? = some c := by rw [hd]; rfl
      simpa using this
    obtain ⟨hlt, hce⟩ := List.getElem?_eq_some_iff.1 hc
    obtain ⟨n, rfl⟩ : ∃ m, n = m + 1 := ⟨n - 1, by omega⟩
    have hs := hS i c hc v hv
    unfold foldE
    cases hf : f v c with
    | inl v' =>
      rw [hf] at hs
      rw [loopF_inl hs]
      exact ih (i + 1) n v' (by rw [← List.drop_drop, hd]; rfl) (by omega) (by simp only [List.length_cons] at hn; omega) (hI i c hc v v' hv hf)
    | inr r =>
      rw [hf] at hs
      rw [loopF_inr hs]; rfl
/-- .. from the start -/
theorem each_loop {α σ T R : Type} [Inhabited R] (pk : σ → Int → T) {S : T → T ⊕ R} (f : σ → α → σ ⊕ R) (G : σ → R) {L : List α} (I : Nat → σ → Prop) {n : Nat} {v : σ}
    (hS : ∀ (i : Nat) (c : α), L[i]? = some c → ∀ v, I i v → S (pk v (i : Int)) = match f v c with | .inl v' => .inl (pk v' ((i + 1 : Nat) : Int)) | .inr r => .inr r)
    (hI : ∀ (i : Nat) (c : α), L[i]? = some c → ∀ v v', I i v → f v c = .inl v' → I (i + 1) v')
    (hE : ∀ v, I L.length v → S (pk v (L.length : Int)) = .inr (G v)) (hn : L.length < n) (hv : I 0 v) : loopF S n (pk v 0) = outE G (foldE f L v) :=
  each_loopF pk f G I hS hI hE L 0 n v rfl (Nat.zero_le _) hn hv
/-! ### Meshes: which faces are in range -/
abbrev inF (n : Nat) (f : Int × Int × Int) : Prop := (0 ≤ f.1 ∧ f.1 < (n : Int)) ∧ (0 ≤ f.2.1 ∧ f.2.1 < (n : Int)) ∧ 0 ≤ f.2.2 ∧ f.2.2 < (n : Int)
/-- the faces ahead of place k are in range -/
def okTo (m : List (Int × Int × Int) × List (Int × Int × Int)) (k : Int) : Prop := ∀ i : Int, 0 ≤ i → i < k → inF m.1.length (m.2.getD (Int.toNat i) default)
theorem okTo_0 {m : List (Int × Int × Int) × List (Int × Int × Int)} : okTo m 0 := fun i h1 h2 => absurd h1 (by omega)
theorem okTo_s {m : List (Int × Int × Int) × List (Int × Int × Int)} {k : Int} (h : okTo m k) (hf : inF m.1.length (m.2.getD (Int.toNat k) default)) : okTo m (k + 1) := fun i h1 h2 => by
  by_cases e : i = k
  · subst e; exact hf
  · exact h i h1 (by omega)
theorem okTo_le {m : List (Int × Int × Int) × List (Int × Int × Int)} {k j : Int} (h : okTo m k) (hj : j ≤ k) : okTo m j := fun i h1 h2 => h i h1 (by omega)
theorem okTo_get {m : List (Int × Int × Int) × List (Int × Int × Int)} {k i : Int} (h : okTo m k) (h1 : 0 ≤ i) (h2 : i < k) : inF m.1.length (m.2.getD (Int.toNat i) default) := h i h1 h2

end Go.Proofs.YtidhogejnafhaaaGreat

namespace Go.Proofs.YtidhogejnafhaaaGreat
open Go.Proofs Go.Aw Go.RowKit
set_option maxRecDepth 100000
set_option linter.unusedVariables false
set_option linter.unusedSimpArgs false

theorem from_p {a b c : Int} (h : (!F104 a b c) = false) : b ≤ a ∧ a ≤ c := by
  unfold F104 at h
  by_cases h1 : b ≤ a
  · by_cases h2 : a ≤ c
    · exact ⟨h1, h2⟩
    · rw [decide_eq_true h1, decide_eq_false h2] at h; simp at h
  · rw [decide_eq_false h1] at h; simp at h
theorem win_p2 {a b c : Int} (h : (!F116 a b c) = false) : b ≤ a ∧ a ≤ c := by
  unfold F116 at h
  by_cases h1 : b ≤ a
  · by_cases h2 : a ≤ c
    · exact ⟨h1, h2⟩
    · rw [decide_eq_true (show a ≥ b from h1), decide_eq_false h2] at h; simp at h
  · rw [decide_eq_false (show ¬ a ≥ b from h1)] at h; simp at h
theorem face_pre {n : Nat} {f : Int × Int × Int} (hn : n ≤ 64) (h0 : (!F104 f.1 0 (W ((n : Int) - 1))) = false) (h1 : (!F104 f.2.1 0 (W ((n : Int) - 1))) = false) (h2 : (!F104 f.2.2 0 (W ((n : Int) - 1))) = false) : inF n f := by
  have hw : W ((n : Int) - 1) = (n : Int) - 1 := W_eq (by omega) (by omega)
  have g0 := from_p h0; have g1 := from_p h1; have g2 := from_p h2
  rw [hw] at g0 g1 g2
  exact ⟨⟨g0.1, by omega⟩, ⟨g1.1, by omega⟩, g2.1, by omega⟩

/-- [3]int, as cells -/
def c119 (x : Int × Int × Int) : List SV := [(iv x.1), (iv x.2.1), (iv x.2.2)]
theorem c119_len (x : Int × Int × Int) : (c119 x).length = 3 := rfl

/-- facet/shape.panel -/
def F111 (a0 : (List (Int × Int × Int)) × List (Int × Int × Int)) (a1 : Int × Int × Int) : (Int × Int × Int) × (Int × Int × Int) × Int × Int × Int :=
  ((a0.1.getD (Int.toNat a1.1) default), (a0.1.getD (Int.toNat a1.2.1) default), (a0.1.getD (Int.toNat a1.2.2) default))

theorem C111 (a0 : (List (Int × Int × Int)) × List (Int × Int × Int)) (a1 : Int × Int × Int) (l0_1 : a0.1.length ≤ 9223372036854775807) (l0_2 : a0.2.length ≤ 9223372036854775807) (hf : inF a0.1.length a1) : Con Tryz.prog 111 [(.a [(.s 0 0 a0.1.length 3), (.s 1 0 a0.2.length 3)]), (.a (k3 a1))] [(.live false true (flat c27 a0.1)), (.live false true (flat c119 a0.2))] (.a (k9 (F111 a0 a1))) [] := by
  refine con_s Tryz.func111 (by kernel_rfl) fun cx hcx => ?_
  have e := Eq.refl (F111 a0 a1); conv at e => rhs; simp only [F111]
  rw [e]
  exact rt [.i 0 3 (by decide), .i (a1.1) (a0.1.length), .L c27_len a0.1 a1.1 0 3, .i 1 3 (by decide), .i (a1.2.1) (a0.1.length), .L c27_len a0.1 a1.2.1 0 3, .i 2 3 (by decide), .i (a1.2.2) (a0.1.length), .L c27_len a0.1 a1.2.2 0 3] [] [] hcx (by kernel_rfl)

/-- facet/shape.face -/
def F106 (a0 : (List (Int × Int × Int)) × List (Int × Int × Int)) (a1 : Int × Int × Int) : Int :=
  (bif (!(F104 a1.1 0 (W (((a0.1.length : Nat) : Int) - 1)))) then
   5
  else
   (bif (!(F104 a1.2.1 0 (W (((a0.1.length : Nat) : Int) - 1)))) then
    5
   else
    (bif (!(F104 a1.2.2 0 (W (((a0.1.length : Nat) : Int) - 1)))) then
     5
    else
     (bif ((((F157 (F111 (a0.1, a0.2) a1)).1 : Int) == 0) && ((((F157 (F111 (a0.1, a0.2) a1)).2.1 : Int) == 0) && ((((F157 (F111 (a0.1, a0.2) a1)).2.2 : Int) == 0) && true))) then
      6
     else
      0))))

theorem C106 (a0 : (List (Int × Int × Int)) × List (Int × Int × Int)) (a1 : Int × Int × Int) (l0_1 : a0.1.length ≤ 9223372036854775807) (l0_2 : a0.2.length ≤ 9223372036854775807) (hn : a0.1.length ≤ 64) : Con Tryz.prog 106 [(.a [(.s 0 0 a0.1.length 3), (.s 1 0 a0.2.length 3)]), (.a (k3 a1))] [(.live false true (flat c27 a0.1)), (.live false true (flat c119 a0.2))] (iv (F106 a0 a1)) [] := by
  refine con_s Tryz.func106 (by kernel_rfl) fun cx hcx => ?_
  try have hfi := face_pre hn h0 h1 h2
  let t0 : List (St Tryz.prog) := [.u 200, .T, .i 0 3 (by decide), .c [] (C104 a1.1 0 (W (((a0.1.length : Nat) : Int) - 1)))]
  cases h0 : (!(F104 a1.1 0 (W (((a0.1.length : Nat) : Int) - 1)))) with
  | true =>
   try have hfi := face_pre hn h0 h1 h2
   have e := Eq.refl (F106 a0 a1); conv at e => rhs; simp only [F106, h0, cond_true, cond_false]
   rw [e]
   exact rt (t0 ++ [.d h0]) [] [] hcx (by kernel_rfl)
  | false =>
   try have hfi := face_pre hn h0 h1 h2
   let t1 : List (St Tryz.prog) := (t0 ++ [.d h0, .u 0, .T, .i 1 3 (by decide), .c [] (C104 a1.2.1 0 (W (((a0.1.length : Nat) : Int) - 1)))])
   cases h1 : (!(F104 a1.2.1 0 (W (((a0.1.length : Nat) : Int) - 1)))) with
   | true =>
    try have hfi := face_pre hn h0 h1 h2
    have e := Eq.refl (F106 a0 a1); conv at e => rhs; simp only [F106, h0, h1, cond_true, cond_false]
    rw [e]
    exact rt (t1 ++ [.d h1]) [] [] hcx (by kernel_rfl)
   | false =>
    try have hfi := face_pre hn h0 h1 h2
    let t2 : List (St Tryz.prog) := (t1 ++ [.d h1, .u 0, .T, .i 2 3 (by decide), .c [] (C104 a1.2.2 0 (W (((a0.1.length : Nat) : Int) - 1)))])
    cases h2 : (!(F104 a1.2.2 0 (W (((a0.1.length : Nat) : Int) - 1)))) with
    | true =>
     try have hfi := face_pre hn h0 h1 h2
     have e := Eq.refl (F106 a0 a1); conv at e => rhs; simp only [F106, h0, h1, h2, cond_true, cond_false]
     rw [e]
     exact rt (t2 ++ [.d h2]) [] [] hcx (by kernel_rfl)
    | false =>
     try have hfi := face_pre hn h0 h1 h2
     let t3 : List (St Tryz.prog) := (t2 ++ [.d h2, .u 0, .F, .c [0, 1] (C111 (a0.1, a0.2) a1 (by (try simp only [List.length_append, List.length_cons, List.length_nil, Int.toNat_zero]); omega) (by (try simp only [List.length_append, List.length_cons, List.length_nil, Int.toNat_zero]); omega) hfi), .c [] (C157 (F111 (a0.1, a0.2) a1))])
     cases h3 : ((((F157 (F111 (a0.1, a0.2) a1)).1 : Int) == 0) && ((((F157 (F111 (a0.1, a0.2) a1)).2.1 : Int) == 0) && ((((F157 (F111 (a0.1, a0.2) a1)).2.2 : Int) == 0) && true))) with
     | true =>
      try have hfi := face_pre hn h0 h1 h2
      have e := Eq.refl (F106 a0 a1); conv at e => rhs; simp only [F106, h0, h1, h2, h3, cond_true, cond_false]
      rw [e]
      exact rt (t3 ++ [.d h3]) [] [] hcx (by kernel_rfl)
     | false =>
      try have hfi := face_pre hn h0 h1 h2
      have e := Eq.refl (F106 a0 a1); conv at e => rhs; simp only [F106, h0, h1, h2, h3, cond_true, cond_false]
      rw [e]
      exact rt (t3 ++ [.d h3]) [] [] hcx (by kernel_rfl)

theorem face_in {m : List (Int × Int × Int) × List (Int × Int × Int)} {f : Int × Int × Int} (h : (F106 m f != 0) = false) (hl : m.1.length ≤ 64) : inF m.1.length f := by
  have hw : W (((m.1.length : Nat) : Int) - 1) = (m.1.length : Int) - 1 := W_eq (by omega) (by omega)
  unfold F106 at h
  cases h0 : (!F104 f.1 0 (W (((m.1.length : Nat) : Int) - 1))) with
  | true => rw [h0, cond_true] at h; exact absurd h (by decide)
  | false =>
    cases h1 : (!F104 f.2.1 0 (W (((m.1.length : Nat) : Int) - 1))) with
    | true => rw [h0, h1, cond_false, cond_true] at h; exact absurd h (by decide)
    | false =>
      cases h2 : (!F104 f.2.2 0 (W (((m.1.length : Nat) : Int) - 1))) with
      | true => rw [h0, h1, h2, cond_false, cond_false, cond_true] at h; exact absurd h (by decide)
      | false =>
        have g0 := from_p h0; have g1 := from_p h1; have g2 := from_p h2
        rw [hw] at g0 g1 g2
        exact ⟨⟨g0.1, by omega⟩, ⟨g1.1, by omega⟩, g2.1, by omega⟩

def kc27 (x : Int × Int × Int) : SV := .a (c27 x)
theorem K27 : KeyOK T0 27 kc27 :=
  ⟨fun x => by kernel_rfl, fun x y => ⟨(((x.1 : Int) == y.1) && (((x.2.1 : Int) == y.2.1) && (((x.2.2 : Int) == y.2.2) && true))), by kernel_rfl, by
      simp only [kc27, c27, iv, SV.a.injEq, List.cons.injEq, SV.v.injEq, Value.int.injEq, Bool.and_eq_true, beq_iff_eq, true_and, and_true]
      constructor <;> intro h <;> omega⟩, fun x y h => by
      simp only [kc27, c27, iv, SV.a.injEq, List.cons.injEq, SV.v.injEq, Value.int.injEq, true_and, and_true] at h
      simp only [Prod.ext_iff]; omega, fun x => rfl⟩

noncomputable def B105_0 : Code := (loopAtD [1, 1, 0, 1] [] (bodyOf Tryz.f105) []).1
noncomputable def K105_0 : List K := (loopAtD [1, 1, 0, 1] [] (bodyOf Tryz.f105) []).2

def st105_0 (a0 : (List (Int × Int × Int)) × List (Int × Int × Int)) (v1 : List ((Int × Int × Int) × Bool)) (v2 : Int) : LS := ⟨slN 25 [(3, (.m 2)), (8, (.s 0 0 a0.1.length 3)), (9, (iv ((a0.1.length : Nat) : Int))), (10, (iv v2))], [(.live false true (flat c27 a0.1)), (.live false true (flat c119 a0.2)), (.map (mapE kc27 vB v1))]⟩

/-- a round of loop 0 of facet/shape.points; the variables: v1 = s3, v2 = s10 -/
def S105_0 (a0 : (List (Int × Int × Int)) × List (Int × Int × Int)) : (List ((Int × Int × Int) × Bool)) × Int → ((List ((Int × Int × Int) × Bool)) × Int) ⊕ (Int)
  | (v1, v2) =>
   (bif (decide ((v2 : Int) < ((a0.1.length : Nat) : Int))) then
    (bif (!(F156 (a0.1.getD (Int.toNat v2) default) 64)) then
     (.inr 1)
    else
     (bif (mget v1 (a0.1.getD (Int.toNat v2) default) false) then
      (.inr 1)
     else
      (.inl ((mput v1 (a0.1.getD (Int.toNat v2) default) true), (v2 + 1)))))
   else
    (.inr 0))

set_option maxHeartbeats 4000000 in
theorem L105_0 (a0 : (List (Int × Int × Int)) × List (Int × Int × Int)) (l0_1 : a0.1.length ≤ 9223372036854775807) (l0_2 : a0.2.length ≤ 9223372036854775807) {cx : Cx} (hcx : cx.base = 2) : ∀ (n : Nat) (v1 : List ((Int × Int × Int) × Bool)) (v2 : Int), 0 ≤ v2 → Int.toNat (((a0.1.length : Nat) : Int) - v2) < n → Aw.Good Tryz.prog none 9 (bodyPost Tryz.prog Tryz.f105 (RR cx (iv (loopF (S105_0 a0) n (v1, v2))) [] [])) cx [] (.l B105_0 n :: K105_0) (st105_0 a0 v1 v2) := by
  intro n
  induction n with
  | zero => intro v1 v2 hi hn; exact absurd hn (Nat.not_lt_zero _)
  | succ n ih =>
    intro v1 v2 hi hn
    refine good_round ?_
    cases h0 : (decide ((v2 : Int) < ((a0.1.length : Nat) : Int))) with
    | true =>
     have q0 := of_decide_eq_true h0
     let t1 : List (St Tryz.prog) := [.d h0, .i v2 (a0.1.length), .L c27_len a0.1 v2 0 3, .c [] (C156 (a0.1.getD (Int.toNat v2) default) 64)]
     cases h1 : (!(F156 (a0.1.getD (Int.toNat v2) default) 64)) with
     | true =>
      have e := Eq.refl (S105_0 a0 (v1, v2)); conv at e => rhs; simp only [S105_0, h0, h1, cond_true, cond_false]
      rw [loopF_s, e]
      exact rt (t1 ++ [.d h1]) [] [] hcx (by kernel_rfl)
     | false =>
      let t2 : List (St Tryz.prog) := (t1 ++ [.d h1, .mG K27 vB v1 (a0.1.getD (Int.toNat v2) default) false])
      cases h2 : (mget v1 (a0.1.getD (Int.toNat v2) default) false) with
      | true =>
       have e := Eq.refl (S105_0 a0 (v1, v2)); conv at e => rhs; simp only [S105_0, h0, h1, h2, cond_true, cond_false]
       rw [loopF_s, e]
       exact rt (t2 ++ [.d h2]) [] [] hcx (by kernel_rfl)
      | false =>
       have e := Eq.refl (S105_0 a0 (v1, v2)); conv at e => rhs; simp only [S105_0, h0, h1, h2, cond_true, cond_false]
       rw [loopF_inl e]
       refine ba (t2 ++ [.d h2, .mP K27 vB v1 (a0.1.getD (Int.toNat v2) default) true]) [] [3, 8, 9, 10] [2] hcx (m := n) B105_0 (K105_0) (st105_0 a0 (mput v1 (a0.1.getD (Int.toNat v2) default) true) (W (v2 + 1))) (by kernel_rfl) ?_
       have z0 : (W (v2 + 1)) = (v2 + 1) := W_eq (by omega) (by omega)
       rw [z0]
       exact ih (mput v1 (a0.1.getD (Int.toNat v2) default) true) (v2 + 1) (by (try simp only [List.length_append, List.length_cons, List.length_nil, Int.toNat_zero]); omega) (by (try simp only [List.length_append, List.length_cons, List.length_nil, Int.toNat_zero]); omega)
    | false =>
     have q0 := of_decide_eq_false h0
     have e := Eq.refl (S105_0 a0 (v1, v2)); conv at e => rhs; simp only [S105_0, h0, cond_true, cond_false]
     rw [loopF_s, e]
     exact rt [.d h0] [] [] hcx (by kernel_rfl)

/-- facet/shape.points -/
def F105 (a0 : (List (Int × Int × Int)) × List (Int × Int × Int)) : Int :=
  (loopF (S105_0 a0) (Int.toNat (((a0.1.length : Nat) : Int) - 0) + 1) (([] : List ((Int × Int × Int) × Bool)), 0))

theorem C105 (a0 : (List (Int × Int × Int)) × List (Int × Int × Int)) (l0_1 : a0.1.length ≤ 9223372036854775807) (l0_2 : a0.2.length ≤ 9223372036854775807) : Con Tryz.prog 105 [(.a [(.s 0 0 a0.1.length 3), (.s 1 0 a0.2.length 3)])] [(.live false true (flat c27 a0.1)), (.live false true (flat c119 a0.2))] (iv (F105 a0)) [] := by
  refine con_s Tryz.func105 (by kernel_rfl) fun cx hcx => ?_
  have e := Eq.refl (F105 a0); conv at e => rhs; simp only [F105]
  rw [e]
  refine en [] [] [3, 8, 9, 10] [3] hcx B105_0 (K105_0) (st105_0 a0 ([] : List ((Int × Int × Int) × Bool)) 0) (Int.toNat (((a0.1.length : Nat) : Int) - 0) + 1) (by kernel_rfl) ?_
  exact L105_0 a0 l0_1 l0_2 hcx (Int.toNat (((a0.1.length : Nat) : Int) - 0) + 1) ([] : List ((Int × Int × Int) × Bool)) 0 (by (try simp only [List.length_append, List.length_cons, List.length_nil, Int.toNat_zero]); omega) (by (try simp only [List.length_append, List.length_cons, List.length_nil, Int.toNat_zero]); omega)

/-- facet/shape.sides -/
def F108 (a0 : Int × Int × Int) : (Int × Int) × (Int × Int) × Int × Int :=
  ((a0.1, a0.2.1), a0.2, (a0.2.2, a0.1))

theorem C108 (a0 : Int × Int × Int) : Con Tryz.prog 108 [(.a (k3 a0))] [] (.a [(iv (F108 a0).1.1), (iv (F108 a0).1.2), (iv (F108 a0).2.1.1), (iv (F108 a0).2.1.2), (iv (F108 a0).2.2.1), (iv (F108 a0).2.2.2)]) [] := by
  refine con_s Tryz.func108 (by kernel_rfl) fun cx hcx => ?_
  have e := Eq.refl (F108 a0); conv at e => rhs; simp only [F108]
  rw [e]
  exact rt [.i 0 3 (by decide), .i 1 3 (by decide), .i 1 3 (by decide), .i 2 3 (by decide), .i 2 3 (by decide), .i 0 3 (by decide)] [] [] hcx (by kernel_rfl)

/-- shape.side, as cells -/
def c124 (x : Int × Int) : List SV := [(iv x.1), (iv x.2)]
def kc124 (x : Int × Int) : SV := .a (c124 x)
theorem K124 : KeyOK T0 124 kc124 :=
  ⟨fun x => by kernel_rfl, fun x y => ⟨(((x.1 : Int) == y.1) && (((x.2 : Int) == y.2) && true)), by kernel_rfl, by
      simp only [kc124, c124, iv, SV.a.injEq, List.cons.injEq, SV.v.injEq, Value.int.injEq, Bool.and_eq_true, beq_iff_eq, true_and, and_true]
      constructor <;> intro h <;> omega⟩, fun x y h => by
      simp only [kc124, c124, iv, SV.a.injEq, List.cons.injEq, SV.v.injEq, Value.int.injEq, true_and, and_true] at h
      simp only [Prod.ext_iff]; omega, fun x => rfl⟩

noncomputable def B107_0 : Code := (loopAtD [1, 1, 0, 1] [] (bodyOf Tryz.f107) []).1
noncomputable def K107_0 : List K := (loopAtD [1, 1, 0, 1] [] (bodyOf Tryz.f107) []).2

def st107_0 (a0 : (List (Int × Int × Int)) × List (Int × Int × Int)) (v1 : List ((Int × Int) × Int)) (v2 : Int) : LS := ⟨slN 30 [(3, (.m 2)), (10, (.s 1 0 a0.2.length 3)), (11, (iv ((a0.2.length : Nat) : Int))), (12, (iv v2))], [(.live false true (flat c27 a0.1)), (.live false true (flat c119 a0.2)), (.map (mapE kc124 iv v1))]⟩

/-- a round of loop 0 of facet/shape.counted; the variables: v1 = s3, v2 = s12 -/
def S107_0 (a0 : (List (Int × Int × Int)) × List (Int × Int × Int)) : (List ((Int × Int) × Int)) × Int → ((List ((Int × Int) × Int)) × Int) ⊕ (List ((Int × Int) × Int))
  | (v1, v2) =>
   (bif (decide ((v2 : Int) < ((a0.2.length : Nat) : Int))) then
    (.inl ((mput (mput (mput v1 ((F108 (a0.2.getD (Int.toNat v2) default)).1) (W ((mget v1 ((F108 (a0.2.getD (Int.toNat v2) default)).1) 0) + 1))) ((F108 (a0.2.getD (Int.toNat v2) default)).2.1) (W ((mget (mput v1 ((F108 (a0.2.getD (Int.toNat v2) default)).1) (W ((mget v1 ((F108 (a0.2.getD (Int.toNat v2) default)).1) 0) + 1))) ((F108 (a0.2.getD (Int.toNat v2) default)).2.1) 0) + 1))) ((F108 (a0.2.getD (Int.toNat v2) default)).2.2) (W ((mget (mput (mput v1 ((F108 (a0.2.getD (Int.toNat v2) default)).1) (W ((mget v1 ((F108 (a0.2.getD (Int.toNat v2) default)).1) 0) + 1))) ((F108 (a0.2.getD (Int.toNat v2) default)).2.1) (W ((mget (mput v1 ((F108 (a0.2.getD (Int.toNat v2) default)).1) (W ((mget v1 ((F108 (a0.2.getD (Int.toNat v2) default)).1) 0) + 1))) ((F108 (a0.2.getD (Int.toNat v2) default)).2.1) 0) + 1))) ((F108 (a0.2.getD (Int.toNat v2) default)).2.2) 0) + 1))), (v2 + 1)))
   else
    (.inr v1))

set_option maxHeartbeats 4000000 in
theorem L107_0 (a0 : (List (Int × Int × Int)) × List (Int × Int × Int)) (l0_1 : a0.1.length ≤ 9223372036854775807) (l0_2 : a0.2.length ≤ 9223372036854775807) {cx : Cx} (hcx : cx.base = 2) : ∀ (n : Nat) (v1 : List ((Int × Int) × Int)) (v2 : Int), 0 ≤ v2 → Int.toNat (((a0.2.length : Nat) : Int) - v2) < n → Aw.Good Tryz.prog none 9 (bodyPost Tryz.prog Tryz.f107 (RR cx (.m 2) [(.map (mapE kc124 iv (loopF (S107_0 a0) n (v1, v2))))] [])) cx [] (.l B107_0 n :: K107_0) (st107_0 a0 v1 v2) := by
  intro n
  induction n with
  | zero => intro v1 v2 hi hn; exact absurd hn (Nat.not_lt_zero _)
  | succ n ih =>
    intro v1 v2 hi hn
    refine good_round ?_
    cases h0 : (decide ((v2 : Int) < ((a0.2.length : Nat) : Int))) with
    | true =>
     have q0 := of_decide_eq_true h0
     have e := Eq.refl (S107_0 a0 (v1, v2)); conv at e => rhs; simp only [S107_0, h0, cond_true, cond_false]
     rw [loopF_inl e]
     refine ba [.d h0, .i v2 (a0.2.length), .L c119_len a0.2 v2 0 3, .c [] (C108 (a0.2.getD (Int.toNat v2) default)), .u 200, .T, .i 0 3 (by decide), .mGa K124 iv v1 ((F108 (a0.2.getD (Int.toNat v2) default)).1) 0 2, .mE K124 iv v1 ((F108 (a0.2.getD (Int.toNat v2) default)).1) 0, .mS K124 iv v1 ((F108 (a0.2.getD (Int.toNat v2) default)).1) 0 (W ((mget v1 ((F108 (a0.2.getD (Int.toNat v2) default)).1) 0) + 1)), .mR kc124 iv v1 ((F108 (a0.2.getD (Int.toNat v2) default)).1) 0, .u 0, .T, .i 1 3 (by decide), .mGa K124 iv (mput v1 ((F108 (a0.2.getD (Int.toNat v2) default)).1) (W ((mget v1 ((F108 (a0.2.getD (Int.toNat v2) default)).1) 0) + 1))) ((F108 (a0.2.getD (Int.toNat v2) default)).2.1) 0 2, .mE K124 iv (mput v1 ((F108 (a0.2.getD (Int.toNat v2) default)).1) (W ((mget v1 ((F108 (a0.2.getD (Int.toNat v2) default)).1) 0) + 1))) ((F108 (a0.2.getD (Int.toNat v2) default)).2.1) 0, .mS K124 iv (mput v1 ((F108 (a0.2.getD (Int.toNat v2) default)).1) (W ((mget v1 ((F108 (a0.2.getD (Int.toNat v2) default)).1) 0) + 1))) ((F108 (a0.2.getD (Int.toNat v2) default)).2.1) 0 (W ((mget (mput v1 ((F108 (a0.2.getD (Int.toNat v2) default)).1) (W ((mget v1 ((F108 (a0.2.getD (Int.toNat v2) default)).1) 0) + 1))) ((F108 (a0.2.getD (Int.toNat v2) default)).2.1) 0) + 1)), .mR kc124 iv (mput v1 ((F108 (a0.2.getD (Int.toNat v2) default)).1) (W ((mget v1 ((F108 (a0.2.getD (Int.toNat v2) default)).1) 0) + 1))) ((F108 (a0.2.getD (Int.toNat v2) default)).2.1) 0, .u 0, .T, .i 2 3 (by decide), .mGa K124 iv (mput (mput v1 ((F108 (a0.2.getD (Int.toNat v2) default)).1) (W ((mget v1 ((F108 (a0.2.getD (Int.toNat v2) default)).1) 0) + 1))) ((F108 (a0.2.getD (Int.toNat v2) default)).2.1) (W ((mget (mput v1 ((F108 (a0.2.getD (Int.toNat v2) default)).1) (W ((mget v1 ((F108 (a0.2.getD (Int.toNat v2) default)).1) 0) + 1))) ((F108 (a0.2.getD (Int.toNat v2) default)).2.1) 0) + 1))) ((F108 (a0.2.getD (Int.toNat v2) default)).2.2) 0 2, .mE K124 iv (mput (mput v1 ((F108 (a0.2.getD (Int.toNat v2) default)).1) (W ((mget v1 ((F108 (a0.2.getD (Int.toNat v2) default)).1) 0) + 1))) ((F108 (a0.2.getD (Int.toNat v2) default)).2.1) (W ((mget (mput v1 ((F108 (a0.2.getD (Int.toNat v2) default)).1) (W ((mget v1 ((F108 (a0.2.getD (Int.toNat v2) default)).1) 0) + 1))) ((F108 (a0.2.getD (Int.toNat v2) default)).2.1) 0) + 1))) ((F108 (a0.2.getD (Int.toNat v2) default)).2.2) 0, .mS K124 iv (mput (mput v1 ((F108 (a0.2.getD (Int.toNat v2) default)).1) (W ((mget v1 ((F108 (a0.2.getD (Int.toNat v2) default)).1) 0) + 1))) ((F108 (a0.2.getD (Int.toNat v2) default)).2.1) (W ((mget (mput v1 ((F108 (a0.2.getD (Int.toNat v2) default)).1) (W ((mget v1 ((F108 (a0.2.getD (Int.toNat v2) default)).1) 0) + 1))) ((F108 (a0.2.getD (Int.toNat v2) default)).2.1) 0) + 1))) ((F108 (a0.2.getD (Int.toNat v2) default)).2.2) 0 (W ((mget (mput (mput v1 ((F108 (a0.2.getD (Int.toNat v2) default)).1) (W ((mget v1 ((F108 (a0.2.getD (Int.toNat v2) default)).1) 0) + 1))) ((F108 (a0.2.getD (Int.toNat v2) default)).2.1) (W ((mget (mput v1 ((F108 (a0.2.getD (Int.toNat v2) default)).1) (W ((mget v1 ((F108 (a0.2.getD (Int.toNat v2) default)).1) 0) + 1))) ((F108 (a0.2.getD (Int.toNat v2) default)).2.1) 0) + 1))) ((F108 (a0.2.getD (Int.toNat v2) default)).2.2) 0) + 1)), .mR kc124 iv (mput (mput v1 ((F108 (a0.2.getD (Int.toNat v2) default)).1) (W ((mget v1 ((F108 (a0.2.getD (Int.toNat v2) default)).1) 0) + 1))) ((F108 (a0.2.getD (Int.toNat v2) default)).2.1) (W ((mget (mput v1 ((F108 (a0.2.getD (Int.toNat v2) default)).1) (W ((mget v1 ((F108 (a0.2.getD (Int.toNat v2) default)).1) 0) + 1))) ((F108 (a0.2.getD (Int.toNat v2) default)).2.1) 0) + 1))) ((F108 (a0.2.getD (Int.toNat v2) default)).2.2) 0, .u 0, .F] [] [3, 10, 11, 12] [2] hcx (m := n) B107_0 (K107_0) (st107_0 a0 (mput (mput (mput v1 ((F108 (a0.2.getD (Int.toNat v2) default)).1) (W ((mget v1 ((F108 (a0.2.getD (Int.toNat v2) default)).1) 0) + 1))) ((F108 (a0.2.getD (Int.toNat v2) default)).2.1) (W ((mget (mput v1 ((F108 (a0.2.getD (Int.toNat v2) default)).1) (W ((mget v1 ((F108 (a0.2.getD (Int.toNat v2) default)).1) 0) + 1))) ((F108 (a0.2.getD (Int.toNat v2) default)).2.1) 0) + 1))) ((F108 (a0.2.getD (Int.toNat v2) default)).2.2) (W ((mget (mput (mput v1 ((F108 (a0.2.getD (Int.toNat v2) default)).1) (W ((mget v1 ((F108 (a0.2.getD (Int.toNat v2) default)).1) 0) + 1))) ((F108 (a0.2.getD (Int.toNat v2) default)).2.1) (W ((mget (mput v1 ((F108 (a0.2.getD (Int.toNat v2) default)).1) (W ((mget v1 ((F108 (a0.2.getD (Int.toNat v2) default)).1) 0) + 1))) ((F108 (a0.2.getD (Int.toNat v2) default)).2.1) 0) + 1))) ((F108 (a0.2.getD (Int.toNat v2) default)).2.2) 0) + 1))) (W (v2 + 1))) (by kernel_rfl) ?_
     have z0 : (W (v2 + 1)) = (v2 + 1) := W_eq (by omega) (by omega)
     rw [z0]
     exact ih (mput (mput (mput v1 ((F108 (a0.2.getD (Int.toNat v2) default)).1) (W ((mget v1 ((F108 (a0.2.getD (Int.toNat v2) default)).1) 0) + 1))) ((F108 (a0.2.getD (Int.toNat v2) default)).2.1) (W ((mget (mput v1 ((F108 (a0.2.getD (Int.toNat v2) default)).1) (W ((mget v1 ((F108 (a0.2.getD (Int.toNat v2) default)).1) 0) + 1))) ((F108 (a0.2.getD (Int.toNat v2) default)).2.1) 0) + 1))) ((F108 (a0.2.getD (Int.toNat v2) default)).2.2) (W ((mget (mput (mput v1 ((F108 (a0.2.getD (Int.toNat v2) default)).1) (W ((mget v1 ((F108 (a0.2.getD (Int.toNat v2) default)).1) 0) + 1))) ((F108 (a0.2.getD (Int.toNat v2) default)).2.1) (W ((mget (mput v1 ((F108 (a0.2.getD (Int.toNat v2) default)).1) (W ((mget v1 ((F108 (a0.2.getD (Int.toNat v2) default)).1) 0) + 1))) ((F108 (a0.2.getD (Int.toNat v2) default)).2.1) 0) + 1))) ((F108 (a0.2.getD (Int.toNat v2) default)).2.2) 0) + 1))) (v2 + 1) (by (try simp only [List.length_append, List.length_cons, List.length_nil, Int.toNat_zero]); omega) (by (try simp only [List.length_append, List.length_cons, List.length_nil, Int.toNat_zero]); omega)
    | false =>
     have q0 := of_decide_eq_false h0
     have e := Eq.refl (S107_0 a0 (v1, v2)); conv at e => rhs; simp only [S107_0, h0, cond_true, cond_false]
     rw [loopF_s, e]
     exact rt [.d h0] [] [2] hcx (by kernel_rfl)

/-- facet/shape.counted -/
def F107 (a0 : (List (Int × Int × Int)) × List (Int × Int × Int)) : List ((Int × Int) × Int) :=
  (loopF (S107_0 a0) (Int.toNat (((a0.2.length : Nat) : Int) - 0) + 1) (([] : List ((Int × Int) × Int)), 0))

theorem C107 (a0 : (List (Int × Int × Int)) × List (Int × Int × Int)) (l0_1 : a0.1.length ≤ 9223372036854775807) (l0_2 : a0.2.length ≤ 9223372036854775807) : Con Tryz.prog 107 [(.a [(.s 0 0 a0.1.length 3), (.s 1 0 a0.2.length 3)])] [(.live false true (flat c27 a0.1)), (.live false true (flat c119 a0.2))] (.m 2) [(.map (mapE kc124 iv (F107 a0)))] := by
  refine con_s Tryz.func107 (by kernel_rfl) fun cx hcx => ?_
  have e := Eq.refl (F107 a0); conv at e => rhs; simp only [F107]
  rw [e]
  refine en [] [] [3, 10, 11, 12] [3] hcx B107_0 (K107_0) (st107_0 a0 ([] : List ((Int × Int) × Int)) 0) (Int.toNat (((a0.2.length : Nat) : Int) - 0) + 1) (by kernel_rfl) ?_
  exact L107_0 a0 l0_1 l0_2 hcx (Int.toNat (((a0.2.length : Nat) : Int) - 0) + 1) ([] : List ((Int × Int) × Int)) 0 (by (try simp only [List.length_append, List.length_cons, List.length_nil, Int.toNat_zero]); omega) (by (try simp only [List.length_append, List.length_cons, List.length_nil, Int.toNat_zero]); omega)

noncomputable def B61_0 : Code := (loopAtD [1, 1, 0, 1] [] (bodyOf Tryz.f61) []).1
noncomputable def K61_0 : List K := (loopAtD [1, 1, 0, 1] [] (bodyOf Tryz.f61) []).2

def st61_0 (a0 : (List (Int × Int × Int)) × List (Int × Int × Int)) (v2c : List SV) (v2n : Nat) (v3 : Int) : LS := ⟨slN 21 [(1, (.p 2 0)), (3, (.s 3 0 v2n 9)), (7, (.s 1 0 a0.2.length 3)), (8, (iv ((a0.2.length : Nat) : Int))), (9, (iv v3))], [(.live false true (flat c27 a0.1)), (.live false true (flat c119 a0.2)), (.live true false [(.s 0 0 a0.1.length 3), (.s 1 0 a0.2.length 3)]), (.live true true v2c)]⟩

/-- a round of loop 0 of facet/shape.panels; the variables: v2 = s3, v3 = s9 -/
def S61_0 (a0 : (List (Int × Int × Int)) × List (Int × Int × Int)) : (List ((Int × Int × Int) × (Int × Int × Int) × Int × Int × Int)) × Int → ((List ((Int × Int × Int) × (Int × Int × Int) × Int × Int × Int)) × Int) ⊕ (List ((Int × Int × Int) × (Int × Int × Int) × Int × Int × Int))
  | (v2, v3) =>
   (bif (decide ((v3 : Int) < ((a0.2.length : Nat) : Int))) then
    (.inl ((v2 ++ [(F111 (a0.1, a0.2) (a0.2.getD (Int.toNat v3) default))]), (v3 + 1)))
   else
    (.inr v2))

set_option maxHeartbeats 4000000 in
theorem L61_0 (a0 : (List (Int × Int × Int)) × List (Int × Int × Int)) (l0_1 : a0.1.length ≤ 9223372036854775807) (l0_2 : a0.2.length ≤ 9223372036854775807) (hv : okTo a0 a0.2.length) (hn : a0.2.length ≤ 96) {cx : Cx} (hcx : cx.base = 2) : ∀ (n : Nat) (v2 : List ((Int × Int × Int) × (Int × Int × Int) × Int × Int × Int)) (v3 : Int), (0 ≤ v3) ∧ (v2.length = Int.toNat v3) ∧ (v3 ≤ a0.2.length) → Int.toNat (((a0.2.length : Nat) : Int) - v3) < n → Aw.Good Tryz.prog none 9 (bodyPost Tryz.prog Tryz.f61 (RR cx (.s 2 0 (loopF (S61_0 a0) n (v2, v3)).length 9) [(.live true true (flat c57 (loopF (S61_0 a0) n (v2, v3))))] [])) cx [] (.l B61_0 n :: K61_0) (st61_0 a0 (flat c57 v2) v2.length v3) := by
  intro n
  induction n with
  | zero => intro v2 v3 hi hn; exact absurd hn (Nat.not_lt_zero _)
  | succ n ih =>
    intro v2 v3 hi hn
    refine good_round ?_
    cases h0 : (decide ((v3 : Int) < ((a0.2.length : Nat) : Int))) with
    | true =>
     have q0 := of_decide_eq_true h0
     have e := Eq.refl (S61_0 a0 (v2, v3)); conv at e => rhs; simp only [S61_0, h0, cond_true, cond_false]
     rw [loopF_inl e]
     refine ba [.d h0, .i v3 (a0.2.length), .L c119_len a0.2 v3 0 3, .c [0, 1] (C111 (a0.1, a0.2) (a0.2.getD (Int.toNat v3) default) (by (try simp only [List.length_append, List.length_cons, List.length_nil, Int.toNat_zero]); omega) (by (try simp only [List.length_append, List.length_cons, List.length_nil, Int.toNat_zero]); omega) (okTo_get hv (by omega) (by omega))), .p (show ((flat c57 v2).length = v2.length * 9 ∧ v2.length + 1 ≤ 2 ^ 40 ∧ (v2.length + 1) * 72 ≤ 2 ^ 47) from app_ok c57_len (by omega) (by omega))] [] [1, 3, 7, 8, 9] [2, 6] hcx (m := n) B61_0 (K61_0) (st61_0 a0 (flat c57 v2 ++ (k9 (F111 (a0.1, a0.2) (a0.2.getD (Int.toNat v3) default)))) (v2.length + 1) (W (v3 + 1))) (by kernel_rfl) ?_
     have z0 : (W (v3 + 1)) = (v3 + 1) := W_eq (by omega) (by omega)
     have z1 : (flat c57 v2 ++ (k9 (F111 (a0.1, a0.2) (a0.2.getD (Int.toNat v3) default)))) = (flat c57 (v2 ++ [(F111 (a0.1, a0.2) (a0.2.getD (Int.toNat v3) default))])) := (flat_append (c := c57) (l := v2) (m := [(F111 (a0.1, a0.2) (a0.2.getD (Int.toNat v3) default))])).symm
     have z2 : (v2.length + 1) = (v2 ++ [(F111 (a0.1, a0.2) (a0.2.getD (Int.toNat v3) default))]).length := len_app v2 [(F111 (a0.1, a0.2) (a0.2.getD (Int.toNat v3) default))] rfl
     rw [z0, z1, z2]
     exact ih (v2 ++ [(F111 (a0.1, a0.2) (a0.2.getD (Int.toNat v3) default))]) (v3 + 1) (by refine ⟨?_, ?_, ?_⟩ <;> (try simp only [List.length_append, List.length_cons, List.length_nil, Int.toNat_zero]) <;> first | omega | assumption | simp) (by (try simp only [List.length_append, List.length_cons, List.length_nil, Int.toNat_zero]); omega)
    | false =>
     have q0 := of_decide_eq_false h0
     have e := Eq.refl (S61_0 a0 (v2, v3)); conv at e => rhs; simp only [S61_0, h0, cond_true, cond_false]
     rw [loopF_s, e]
     exact rt [.d h0] [] [3] hcx (by kernel_rfl)

/-- facet/shape.panels -/
def F61 (a0 : (List (Int × Int × Int)) × List (Int × Int × Int)) : List ((Int × Int × Int) × (Int × Int × Int) × Int × Int × Int) :=
  (loopF (S61_0 a0) (Int.toNat (((a0.2.length : Nat) : Int) - 0) + 1) (([] : List ((Int × Int × Int) × (Int × Int × Int) × Int × Int × Int)), 0))

theorem C61 (a0 : (List (Int × Int × Int)) × List (Int × Int × Int)) (l0_1 : a0.1.length ≤ 9223372036854775807) (l0_2 : a0.2.length ≤ 9223372036854775807) (hv : okTo a0 a0.2.length) (hn : a0.2.length ≤ 96) : Con Tryz.prog 61 [(.a [(.s 0 0 a0.1.length 3), (.s 1 0 a0.2.length 3)])] [(.live false true (flat c27 a0.1)), (.live false true (flat c119 a0.2))] (.s 2 0 (F61 a0).length 9) [(.live true true (flat c57 (F61 a0)))] := by
  refine con_s Tryz.func61 (by kernel_rfl) fun cx hcx => ?_
  have e := Eq.refl (F61 a0); conv at e => rhs; simp only [F61]
  rw [e]
  refine en [] [.slot 3 9] [1, 3, 7, 8, 9] [2, 3] hcx B61_0 (K61_0) (st61_0 a0 (flat c57 ([] : List ((Int × Int × Int) × (Int × Int × Int) × Int × Int × Int))) 0 0) (Int.toNat (((a0.2.length : Nat) : Int) - 0) + 1) (by kernel_rfl) ?_
  exact L61_0 a0 l0_1 l0_2 hv hn hcx (Int.toNat (((a0.2.length : Nat) : Int) - 0) + 1) ([] : List ((Int × Int × Int) × (Int × Int × Int) × Int × Int × Int)) 0 (by refine ⟨?_, ?_, ?_⟩ <;> (try simp only [List.length_append, List.length_cons, List.length_nil, Int.toNat_zero]) <;> first | omega | assumption | simp) (by (try simp only [List.length_append, List.length_cons, List.length_nil, Int.toNat_zero]); omega)

/-- the panels are those of the faces -/
theorem pnl_map (m : List (Int × Int × Int) × List (Int × Int × Int)) : F61 m = m.2.map (F111 m) := by
  unfold F61
  rw [show (Int.toNat (((m.2.length : Nat) : Int) - 0) + 1) = m.2.length + 1 by omega]
  rw [each_loop (fun v i => (v, i)) (fun v c => .inl (v ++ [F111 m c])) (fun v => v) (L := m.2) (fun _ _ => True) ?_ (fun _ _ _ _ _ _ _ => trivial) ?_ (by omega) trivial]
  · have key : ∀ (l : List (Int × Int × Int)) (v : List ((Int × Int × Int) × (Int × Int × Int) × Int × Int × Int)), foldE (σ := List ((Int × Int × Int) × (Int × Int × Int) × Int × Int × Int)) (R := List ((Int × Int × Int) × (Int × Int × Int) × Int × Int × Int)) (fun v c => .inl (v ++ [F111 m c])) l v = .inl (v ++ l.map (F111 m)) := by
      intro l
      induction l with
      | nil => intro v; simp [foldE]
      | cons c l ih => intro v; simp only [foldE]; rw [ih]; simp
    rw [key]; simp [outE]
  · intro i c hc v _
    obtain ⟨hlt, hce⟩ := List.getElem?_eq_some_iff.1 hc
    simp only [S61_0]
    rw [decide_eq_true (by omega), cond_true, Int.toNat_natCast, List.getD_eq_getElem?_getD, hc]
    rfl
  · intro v _
    simp only [S61_0]
    rw [decide_eq_false (by omega), cond_false]
theorem pnl_len (m : List (Int × Int × Int) × List (Int × Int × Int)) : (F61 m).length = m.2.length := by rw [pnl_map, List.length_map]

/-- facet/shape.dot -/
def F184 (a0 : Int × Int × Int) (a1 : Int × Int × Int) : Int :=
  (W ((W ((W (a0.1 * a1.1)) + (W (a0.2.1 * a1.2.1)))) + (W (a0.2.2 * a1.2.2))))

theorem C184 (a0 : Int × Int × Int) (a1 : Int × Int × Int) : Con Tryz.prog 184 [(.a (k3 a0)), (.a (k3 a1))] [] (iv (F184 a0 a1)) [] := by
  refine con_s Tryz.func184 (by kernel_rfl) fun cx hcx => ?_
  have e := Eq.refl (F184 a0 a1); conv at e => rhs; simp only [F184]
  rw [e]
  exact rt [] [] [] hcx (by kernel_rfl)

/-- facet/shape.product -/
def F164 (a0 : (Int × Int × Int) × (Int × Int × Int) × Int × Int × Int) : Int :=
  (F184 a0.1 (F182 a0.2.1 a0.2.2))

theorem C164 (a0 : (Int × Int × Int) × (Int × Int × Int) × Int × Int × Int) : Con Tryz.prog 164 [(.a (k9 a0))] [] (iv (F164 a0)) [] := by
  refine con_s Tryz.func164 (by kernel_rfl) fun cx hcx => ?_
  have e := Eq.refl (F164 a0); conv at e => rhs; simp only [F164]
  rw [e]
  exact rt [.c [] (C182 a0.2.1 a0.2.2), .c [] (C184 a0.1 (F182 a0.2.1 a0.2.2))] [] [] hcx (by kernel_rfl)

noncomputable def B110_0 : Code := (loopAtD [1, 1, 0, 1] [] (bodyOf Tryz.f110) []).1
noncomputable def K110_0 : List K := (loopAtD [1, 1, 0, 1] [] (bodyOf Tryz.f110) []).2

def st110_0 (a0 : (List (Int × Int × Int)) × List (Int × Int × Int)) (v1 : Int) (v2 : Int) : LS := ⟨slN 19 [(3, (iv v1)), (7, (.s 2 0 (F61 (a0.1, a0.2)).length 9)), (8, (iv (((F61 (a0.1, a0.2)).length : Nat) : Int))), (9, (iv v2))], [(.live false true (flat c27 a0.1)), (.live false true (flat c119 a0.2)), (.live true true (flat c57 (F61 (a0.1, a0.2))))]⟩

/-- a round of loop 0 of facet/shape.volume6; the variables: v1 = s3, v2 = s9 -/
def S110_0 (a0 : (List (Int × Int × Int)) × List (Int × Int × Int)) : Int × Int → (Int × Int) ⊕ (Int)
  | (v1, v2) =>
   (bif (decide ((v2 : Int) < (((F61 (a0.1, a0.2)).length : Nat) : Int))) then
    (.inl ((W (v1 + (F164 ((F61 (a0.1, a0.2)).getD (Int.toNat v2) default)))), (v2 + 1)))
   else
    (.inr v1))

set_option maxHeartbeats 4000000 in
theorem L110_0 (a0 : (List (Int × Int × Int)) × List (Int × Int × Int)) (l0_1 : a0.1.length ≤ 9223372036854775807) (l0_2 : a0.2.length ≤ 9223372036854775807) (hv : okTo a0 a0.2.length) (hn : a0.2.length ≤ 96) {cx : Cx} (hcx : cx.base = 2) : ∀ (n : Nat) (v1 : Int) (v2 : Int), 0 ≤ v2 → Int.toNat ((((F61 (a0.1, a0.2)).length : Nat) : Int) - v2) < n → Aw.Good Tryz.prog none 9 (bodyPost Tryz.prog Tryz.f110 (RR cx (iv (loopF (S110_0 a0) n (v1, v2))) [] [])) cx [] (.l B110_0 n :: K110_0) (st110_0 a0 v1 v2) := by
  intro n
  induction n with
  | zero => intro v1 v2 hi hn; exact absurd hn (Nat.not_lt_zero _)
  | succ n ih =>
    intro v1 v2 hi hn
    refine good_round ?_
    have hpl : (F61 (a0.1, a0.2)).length = a0.2.length := pnl_len a0
    cases h0 : (decide ((v2 : Int) < (((F61 (a0.1, a0.2)).length : Nat) : Int))) with
    | true =>
     have q0 := of_decide_eq_true h0
     have e := Eq.refl (S110_0 a0 (v1, v2)); conv at e => rhs; simp only [S110_0, h0, cond_true, cond_false]
     rw [loopF_inl e]
     refine ba [.d h0, .i v2 ((F61 (a0.1, a0.2)).length), .L c57_len (F61 (a0.1, a0.2)) v2 0 9, .c [] (C164 ((F61 (a0.1, a0.2)).getD (Int.toNat v2) default))] [] [3, 7, 8, 9] [2] hcx (m := n) B110_0 (K110_0) (st110_0 a0 (W (v1 + (F164 ((F61 (a0.1, a0.2)).getD (Int.toNat v2) default)))) (W (v2 + 1))) (by kernel_rfl) ?_
     have z0 : (W (v2 + 1)) = (v2 + 1) := W_eq (by omega) (by omega)
     rw [z0]
     exact ih (W (v1 + (F164 ((F61 (a0.1, a0.2)).getD (Int.toNat v2) default)))) (v2 + 1) (by (try simp only [List.length_append, List.length_cons, List.length_nil, Int.toNat_zero]); omega) (by (try simp only [List.length_append, List.length_cons, List.length_nil, Int.toNat_zero]); omega)
    | false =>
     have q0 := of_decide_eq_false h0
     have e := Eq.refl (S110_0 a0 (v1, v2)); conv at e => rhs; simp only [S110_0, h0, cond_true, cond_false]
     rw [loopF_s, e]
     exact rt [.d h0] [] [] hcx (by kernel_rfl)

/-- facet/shape.volume6 -/
def F110 (a0 : (List (Int × Int × Int)) × List (Int × Int × Int)) : Int :=
  (loopF (S110_0 a0) (Int.toNat ((((F61 (a0.1, a0.2)).length : Nat) : Int) - 0) + 1) (0, 0))

theorem C110 (a0 : (List (Int × Int × Int)) × List (Int × Int × Int)) (l0_1 : a0.1.length ≤ 9223372036854775807) (l0_2 : a0.2.length ≤ 9223372036854775807) (hv : okTo a0 a0.2.length) (hn : a0.2.length ≤ 96) : Con Tryz.prog 110 [(.a [(.s 0 0 a0.1.length 3), (.s 1 0 a0.2.length 3)])] [(.live false true (flat c27 a0.1)), (.live false true (flat c119 a0.2))] (iv (F110 a0)) [] := by
  refine con_s Tryz.func110 (by kernel_rfl) fun cx hcx => ?_
  have e := Eq.refl (F110 a0); conv at e => rhs; simp only [F110]
  rw [e]
  refine en [.c [0, 1] (C61 (a0.1, a0.2) (by (try simp only [List.length_append, List.length_cons, List.length_nil, Int.toNat_zero]); omega) (by (try simp only [List.length_append, List.length_cons, List.length_nil, Int.toNat_zero]); omega) hv hn)] [] [3, 7, 8, 9] [3] hcx B110_0 (K110_0) (st110_0 a0 0 0) (Int.toNat ((((F61 (a0.1, a0.2)).length : Nat) : Int) - 0) + 1) (by kernel_rfl) ?_
  exact L110_0 a0 l0_1 l0_2 hv hn hcx (Int.toNat ((((F61 (a0.1, a0.2)).length : Nat) : Int) - 0) + 1) 0 0 (by (try simp only [List.length_append, List.length_cons, List.length_nil, Int.toNat_zero]); omega) (by (try simp only [List.length_append, List.length_cons, List.length_nil, Int.toNat_zero]); omega)

/-- bool, as cells -/
def c4 (x : Bool) : List SV := [(.v (.bool x))]
theorem c4_len (x : Bool) : (c4 x).length = 1 := rfl

/-- (facet/shape.side).back -/
def F109 (a0 : Int × Int) : Int × Int :=
  (a0.2, a0.1)

theorem C109 (a0 : Int × Int) : Con Tryz.prog 109 [(.a [(iv a0.1), (iv a0.2)])] [] (.a (k2 (F109 a0))) [] := by
  refine con_s Tryz.func109 (by kernel_rfl) fun cx hcx => ?_
  have e := Eq.refl (F109 a0); conv at e => rhs; simp only [F109]
  rw [e]
  exact rt [.i 1 2 (by decide), .i 0 2 (by decide)] [] [] hcx (by kernel_rfl)

noncomputable def B60_4 : Code := (loopAtD [1, 1, 1, 1, 1, 1, 1, 0, 1] [] (bodyOf Tryz.f60) []).1
noncomputable def K60_4 : List K := (loopAtD [1, 1, 1, 1, 1, 1, 1, 0, 1] [] (bodyOf Tryz.f60) []).2

def st60_4 (a0 : (List (Int × Int × Int)) × List (Int × Int × Int)) (v8c : List SV) (v8n : Nat) (v9 : Int) (v10 : Int) : LS := ⟨slN 98 [(1, (.p 2 0)), (86, (.s 3 0 v8n 1)), (87, (iv v9)), (88, (iv v10))], [(.live false true (flat c27 a0.1)), (.live false true (flat c119 a0.2)), (.live true false [(.s 0 0 a0.1.length 3), (.s 1 0 a0.2.length 3)]), (.live true true v8c)]⟩

/-- a round of loop 4 of facet/shape.Validate; the variables: v8 = s86, v9 = s87, v10 = s88 -/
def S60_4 (a0 : (List (Int × Int × Int)) × List (Int × Int × Int)) : List (Bool) × Int × Int → (List (Bool) × Int × Int) ⊕ (Int)
  | (v8, v9, v10) =>
   (bif (decide ((v10 : Int) < v9)) then
    (bif (!(v8.getD (Int.toNat v10) default)) then
     (.inr 5)
    else
     (.inl (v8, v9, (v10 + 1))))
   else
    (bif (decide (((F110 (a0.1, a0.2)) : Int) ≤ 0)) then
     (.inr 8)
    else
     (.inr 0)))

noncomputable def B60_2 : Code := (loopAtD [1, 1, 1, 1, 1, 1, 0, 1] [] (bodyOf Tryz.f60) []).1
noncomputable def K60_2 : List K := (loopAtD [1, 1, 1, 1, 1, 1, 0, 1] [] (bodyOf Tryz.f60) []).2

def st60_2 (a0 : (List (Int × Int × Int)) × List (Int × Int × Int)) (v4c : List SV) (v4n : Nat) (v5 : Int) : LS := ⟨slN 98 [(1, (.p 2 0)), (4, (.s 3 0 v4n 1)), (10, (.m 4)), (62, (.s 1 0 a0.2.length 3)), (63, (iv ((a0.2.length : Nat) : Int))), (64, (iv v5))], [(.live false true (flat c27 a0.1)), (.live false true (flat c119 a0.2)), (.live true false [(.s 0 0 a0.1.length 3), (.s 1 0 a0.2.length 3)]), (.live true true v4c), (.map (mapE kc124 iv (F107 (a0.1, a0.2))))]⟩

/-- a round of loop 2 of facet/shape.Validate; the variables: v4 = s4, v5 = s64 -/
def S60_2 (a0 : (List (Int × Int × Int)) × List (Int × Int × Int)) : List (Bool) × Int → (List (Bool) × Int) ⊕ (Int)
  | (v4, v5) =>
   (bif (decide ((v5 : Int) < ((a0.2.length : Nat) : Int))) then
    (bif (((mget (F107 (a0.1, a0.2)) ((F108 (a0.2.getD (Int.toNat v5) default)).1) 0) : Int) != 1) then
     (.inr 7)
    else
     (bif (((mget (F107 (a0.1, a0.2)) (F109 (F108 (a0.2.getD (Int.toNat v5) default)).1) 0) : Int) != 1) then
      (.inr 7)
     else
      (bif (((mget (F107 (a0.1, a0.2)) ((F108 (a0.2.getD (Int.toNat v5) default)).2.1) 0) : Int) != 1) then
       (.inr 7)
      else
       (bif (((mget (F107 (a0.1, a0.2)) (F109 (F108 (a0.2.getD (Int.toNat v5) default)).2.1) 0) : Int) != 1) then
        (.inr 7)
       else
        (bif (((mget (F107 (a0.1, a0.2)) ((F108 (a0.2.getD (Int.toNat v5) default)).2.2) 0) : Int) != 1) then
         (.inr 7)
        else
         (bif (((mget (F107 (a0.1, a0.2)) (F109 (F108 (a0.2.getD (Int.toNat v5) default)).2.2) 0) : Int) != 1) then
          (.inr 7)
         else
          (.inl (v4, (v5 + 1)))))))))
   else
    (.inr (loopF (S60_4 a0) (Int.toNat (((v4.length : Nat) : Int) - 0) + 1) (v4, ((v4.length : Nat) : Int), 0))))

noncomputable def B60_0 : Code := (loopAtD [1, 1, 1, 1, 0, 1] [] (bodyOf Tryz.f60) []).1
noncomputable def K60_0 : List K := (loopAtD [1, 1, 1, 1, 0, 1] [] (bodyOf Tryz.f60) []).2

def st60_0 (a0 : (List (Int × Int × Int)) × List (Int × Int × Int)) (v1c : List SV) (v1n : Nat) (v2 : Int) : LS := ⟨slN 98 [(1, (.p 2 0)), (4, (.s 3 0 v1n 1)), (38, (.s 1 0 a0.2.length 3)), (39, (iv ((a0.2.length : Nat) : Int))), (40, (iv v2))], [(.live false true (flat c27 a0.1)), (.live false true (flat c119 a0.2)), (.live true false [(.s 0 0 a0.1.length 3), (.s 1 0 a0.2.length 3)]), (.live true true v1c)]⟩

/-- a round of loop 0 of facet/shape.Validate; the variables: v1 = s4, v2 = s40 -/
def S60_0 (a0 : (List (Int × Int × Int)) × List (Int × Int × Int)) : List (Bool) × Int → (List (Bool) × Int) ⊕ (Int)
  | (v1, v2) =>
   (bif (decide ((v2 : Int) < ((a0.2.length : Nat) : Int))) then
    (bif (((F106 (a0.1, a0.2) (a0.2.getD (Int.toNat v2) default)) : Int) != 0) then
     (.inr (F106 (a0.1, a0.2) (a0.2.getD (Int.toNat v2) default)))
    else
     (.inl ((((v1.set (Int.toNat (a0.2.getD (Int.toNat v2) default).1) true).set (Int.toNat (a0.2.getD (Int.toNat v2) default).2.1) true).set (Int.toNat (a0.2.getD (Int.toNat v2) default).2.2) true), (v2 + 1))))
   else
    (.inr (loopF (S60_2 a0) (Int.toNat (((a0.2.length : Nat) : Int) - 0) + 1) (v1, 0))))

set_option maxHeartbeats 4000000 in
theorem L60_4 (a0 : (List (Int × Int × Int)) × List (Int × Int × Int)) (l0_1 : a0.1.length ≤ 9223372036854775807) (l0_2 : a0.2.length ≤ 9223372036854775807) {cx : Cx} (hcx : cx.base = 2) : ∀ (n : Nat) (v8 : List (Bool)) (v9 : Int) (v10 : Int), (0 ≤ v10) ∧ (okTo a0 a0.2.length) ∧ (a0.1.length ≤ 64) ∧ (a0.2.length ≤ 96) ∧ (v9 = ((v8.length : Nat) : Int)) ∧ (v8.length = a0.1.length) → Int.toNat (v9 - v10) < n → Aw.Good Tryz.prog none 9 (bodyPost Tryz.prog Tryz.f60 (RR cx (iv (loopF (S60_4 a0) n (v8, v9, v10))) [] [])) cx [] (.l B60_4 n :: K60_4) (st60_4 a0 (flat c4 v8) v8.length v9 v10) := by
  intro n
  induction n with
  | zero => intro v8 v9 v10 hi hn; exact absurd hn (Nat.not_lt_zero _)
  | succ n ih =>
    intro v8 v9 v10 hi hn
    refine good_round ?_
    cases h0 : (decide ((v10 : Int) < v9)) with
    | true =>
     have q0 := of_decide_eq_true h0
     let t1 : List (St Tryz.prog) := [.d h0, .i v10 (v8.length), .L c4_len v8 v10 0 1]
     cases h1 : (!(v8.getD (Int.toNat v10) default)) with
     | true =>
      have e := Eq.refl (S60_4 a0 (v8, v9, v10)); conv at e => rhs; simp only [S60_4, h0, h1, cond_true, cond_false]
      rw [loopF_s, e]
      exact rt (t1 ++ [.d h1]) [] [] hcx (by kernel_rfl)
     | false =>
      have e := Eq.refl (S60_4 a0 (v8, v9, v10)); conv at e => rhs; simp only [S60_4, h0, h1, cond_true, cond_false]
      rw [loopF_inl e]
      refine ba (t1 ++ [.d h1]) [] [1, 86, 87, 88] [2, 3] hcx (m := n) B60_4 (K60_4) (st60_4 a0 (flat c4 v8) (v8.length) v9 (W (v10 + 1))) (by kernel_rfl) ?_
      have z0 : (W (v10 + 1)) = (v10 + 1) := W_eq (by omega) (by omega)
      rw [z0]
      exact ih v8 v9 (v10 + 1) (by refine ⟨?_, ?_, ?_, ?_, ?_, ?_⟩ <;> first | omega | assumption | exact okTo_0 | exact hi.2.1 | exact hi.2.2.1 | exact okTo_le hi.2.2.1 (by omega) | exact okTo_s hi.2.2.1 hfo | exact okTo_s hi.2.2.1 (by refine ⟨⟨?_, ?_⟩, ⟨?_, ?_⟩, ?_, ?_⟩ <;> omega) | (simp only [List.length_replicate, List.length_set]; omega)) (by (try simp only [List.length_append, List.length_cons, List.length_nil, Int.toNat_zero]); omega)
    | false =>
     have q0 := of_decide_eq_false h0
     let t1 : List (St Tryz.prog) := [.d h0, .c [0, 1] (C110 (a0.1, a0.2) (by (try simp only [List.length_append, List.length_cons, List.length_nil, Int.toNat_zero]); omega) (by (try simp only [List.length_append, List.length_cons, List.length_nil, Int.toNat_zero]); omega) hi.2.1 (by show a0.2.length ≤ 96; omega))]
     cases h1 : (decide (((F110 (a0.1, a0.2)) : Int) ≤ 0)) with
     | true =>
      have q1 := of_decide_eq_true h1
      have e := Eq.refl (S60_4 a0 (v8, v9, v10)); conv at e => rhs; simp only [S60_4, h0, h1, cond_true, cond_false]
      rw [loopF_s, e]
      exact rt (t1 ++ [.d h1]) [] [] hcx (by kernel_rfl)
     | false =>
      have q1 := of_decide_eq_false h1
      have e := Eq.refl (S60_4 a0 (v8, v9, v10)); conv at e => rhs; simp only [S60_4, h0, h1, cond_true, cond_false]
      rw [loopF_s, e]
      exact rt (t1 ++ [.d h1]) [] [] hcx (by kernel_rfl)

set_option maxHeartbeats 4000000 in
theorem L60_2 (a0 : (List (Int × Int × Int)) × List (Int × Int × Int)) (l0_1 : a0.1.length ≤ 9223372036854775807) (l0_2 : a0.2.length ≤ 9223372036854775807) {cx : Cx} (hcx : cx.base = 2) : ∀ (n : Nat) (v4 : List (Bool)) (v5 : Int), (0 ≤ v5) ∧ (okTo a0 a0.2.length) ∧ (a0.1.length ≤ 64) ∧ (a0.2.length ≤ 96) ∧ (v4.length = a0.1.length) → Int.toNat (((a0.2.length : Nat) : Int) - v5) < n → Aw.Good Tryz.prog none 9 (bodyPost Tryz.prog Tryz.f60 (RR cx (iv (loopF (S60_2 a0) n (v4, v5))) [] [])) cx [] (.l B60_2 n :: K60_2) (st60_2 a0 (flat c4 v4) v4.length v5) := by
  intro n
  induction n with
  | zero => intro v4 v5 hi hn; exact absurd hn (Nat.not_lt_zero _)
  | succ n ih =>
    intro v4 v5 hi hn
    refine good_round ?_
    cases h0 : (decide ((v5 : Int) < ((a0.2.length : Nat) : Int))) with
    | true =>
     have q0 := of_decide_eq_true h0
     let t1 : List (St Tryz.prog) := [.d h0, .i v5 (a0.2.length), .L c119_len a0.2 v5 0 3, .c [] (C108 (a0.2.getD (Int.toNat v5) default)), .u 200, .T, .i 0 3 (by decide), .mG K124 iv (F107 (a0.1, a0.2)) ((F108 (a0.2.getD (Int.toNat v5) default)).1) 0]
     cases h1 : (((mget (F107 (a0.1, a0.2)) ((F108 (a0.2.getD (Int.toNat v5) default)).1) 0) : Int) != 1) with
     | true =>
      have q1 := bne_iff_ne.1 h1
      have e := Eq.refl (S60_2 a0 (v4, v5)); conv at e => rhs; simp only [S60_2, h0, h1, cond_true, cond_false]
      rw [loopF_s, e]
      exact rt (t1 ++ [.d h1]) [] [] hcx (by kernel_rfl)
     | false =>
      have q1 := bne_eq_false_iff_eq.1 h1
      let t2 : List (St Tryz.prog) := (t1 ++ [.d h1, .c [] (C109 (F108 (a0.2.getD (Int.toNat v5) default)).1), .mG K124 iv (F107 (a0.1, a0.2)) (F109 (F108 (a0.2.getD (Int.toNat v5) default)).1) 0])
      cases h2 : (((mget (F107 (a0.1, a0.2)) (F109 (F108 (a0.2.getD (Int.toNat v5) default)).1) 0) : Int) != 1) with
      | true =>
       have q2 := bne_iff_ne.1 h2
       have e := Eq.refl (S60_2 a0 (v4, v5)); conv at e => rhs; simp only [S60_2, h0, h1, h2, cond_true, cond_false]
       rw [loopF_s, e]
       exact rt (t2 ++ [.d h2]) [] [] hcx (by kernel_rfl)
      | false =>
       have q2 := bne_eq_false_iff_eq.1 h2
       let t3 : List (St Tryz.prog) := (t2 ++ [.d h2, .u 0, .T, .i 1 3 (by decide), .mG K124 iv (F107 (a0.1, a0.2)) ((F108 (a0.2.getD (Int.toNat v5) default)).2.1) 0])
       cases h3 : (((mget (F107 (a0.1, a0.2)) ((F108 (a0.2.getD (Int.toNat v5) default)).2.1) 0) : Int) != 1) with
       | true =>
        have q3 := bne_iff_ne.1 h3
        have e := Eq.refl (S60_2 a0 (v4, v5)); conv at e => rhs; simp only [S60_2, h0, h1, h2, h3, cond_true, cond_false]
        rw [loopF_s, e]
        exact rt (t3 ++ [.d h3]) [] [] hcx (by kernel_rfl)
       | false =>
        have q3 := bne_eq_false_iff_eq.1 h3
        let t4 : List (St Tryz.prog) := (t3 ++ [.d h3, .c [] (C109 (F108 (a0.2.getD (Int.toNat v5) default)).2.1), .mG K124 iv (F107 (a0.1, a0.2)) (F109 (F108 (a0.2.getD (Int.toNat v5) default)).2.1) 0])
        cases h4 : (((mget (F107 (a0.1, a0.2)) (F109 (F108 (a0.2.getD (Int.toNat v5) default)).2.1) 0) : Int) != 1) with
        | true =>
         have q4 := bne_iff_ne.1 h4
         have e := Eq.refl (S60_2 a0 (v4, v5)); conv at e => rhs; simp only [S60_2, h0, h1, h2, h3, h4, cond_true, cond_false]
         rw [loopF_s, e]
         exact rt (t4 ++ [.d h4]) [] [] hcx (by kernel_rfl)
        | false =>
         have q4 := bne_eq_false_iff_eq.1 h4
         let t5 : List (St Tryz.prog) := (t4 ++ [.d h4, .u 0, .T, .i 2 3 (by decide), .mG K124 iv (F107 (a0.1, a0.2)) ((F108 (a0.2.getD (Int.toNat v5) default)).2.2) 0])
         cases h5 : (((mget (F107 (a0.1, a0.2)) ((F108 (a0.2.getD (Int.toNat v5) default)).2.2) 0) : Int) != 1) with
         | true =>
          have q5 := bne_iff_ne.1 h5
          have e := Eq.refl (S60_2 a0 (v4, v5)); conv at e => rhs; simp only [S60_2, h0, h1, h2, h3, h4, h5, cond_true, cond_false]
          rw [loopF_s, e]
          exact rt (t5 ++ [.d h5]) [] [] hcx (by kernel_rfl)
         | false =>
          have q5 := bne_eq_false_iff_eq.1 h5
          let t6 : List (St Tryz.prog) := (t5 ++ [.d h5, .c [] (C109 (F108 (a0.2.getD (Int.toNat v5) default)).2.2), .mG K124 iv (F107 (a0.1, a0.2)) (F109 (F108 (a0.2.getD (Int.toNat v5) default)).2.2) 0])
          cases h6 : (((mget (F107 (a0.1, a0.2)) (F109 (F108 (a0.2.getD (Int.toNat v5) default)).2.2) 0) : Int) != 1) with
          | true =>
           have q6 := bne_iff_ne.1 h6
           have e := Eq.refl (S60_2 a0 (v4, v5)); conv at e => rhs; simp only [S60_2, h0, h1, h2, h3, h4, h5, h6, cond_true, cond_false]
           rw [loopF_s, e]
           exact rt (t6 ++ [.d h6]) [] [] hcx (by kernel_rfl)
          | false =>
           have q6 := bne_eq_false_iff_eq.1 h6
           have e := Eq.refl (S60_2 a0 (v4, v5)); conv at e => rhs; simp only [S60_2, h0, h1, h2, h3, h4, h5, h6, cond_true, cond_false]
           rw [loopF_inl e]
           refine ba (t6 ++ [.d h6, .u 0, .F]) [] [1, 4, 10, 62, 63, 64] [2, 3, 4] hcx (m := n) B60_2 (K60_2) (st60_2 a0 (flat c4 v4) (v4.length) (W (v5 + 1))) (by kernel_rfl) ?_
           have z0 : (W (v5 + 1)) = (v5 + 1) := W_eq (by omega) (by omega)
           rw [z0]
           exact ih v4 (v5 + 1) (by refine ⟨?_, ?_, ?_, ?_, ?_⟩ <;> first | omega | assumption | exact okTo_0 | exact hi.2.1 | exact hi.2.2.1 | exact okTo_le hi.2.2.1 (by omega) | exact okTo_s hi.2.2.1 hfo | exact okTo_s hi.2.2.1 (by refine ⟨⟨?_, ?_⟩, ⟨?_, ?_⟩, ?_, ?_⟩ <;> omega) | (simp only [List.length_replicate, List.length_set]; omega)) (by (try simp only [List.length_append, List.length_cons, List.length_nil, Int.toNat_zero]); omega)
    | false =>
     have q0 := of_decide_eq_false h0
     have e := Eq.refl (S60_2 a0 (v4, v5)); conv at e => rhs; simp only [S60_2, h0, cond_true, cond_false]
     rw [loopF_s, e]
     refine en [.d h0] [] [1, 86, 87, 88] [2, 3] hcx B60_4 (K60_4) (st60_4 a0 (flat c4 v4) (v4.length) ((v4.length : Nat) : Int) 0) (Int.toNat (((v4.length : Nat) : Int) - 0) + 1) (by kernel_rfl) ?_
     exact L60_4 a0 l0_1 l0_2 hcx (Int.toNat (((v4.length : Nat) : Int) - 0) + 1) v4 ((v4.length : Nat) : Int) 0 (by refine ⟨?_, ?_, ?_, ?_, ?_, ?_⟩ <;> first | omega | assumption | exact okTo_0 | exact hi.2.1 | exact hi.2.2.1 | exact okTo_le hi.2.2.1 (by omega) | exact okTo_s hi.2.2.1 hfo | exact okTo_s hi.2.2.1 (by refine ⟨⟨?_, ?_⟩, ⟨?_, ?_⟩, ?_, ?_⟩ <;> omega) | (simp only [List.length_replicate, List.length_set]; omega)) (by (try simp only [List.length_append, List.length_cons, List.length_nil, Int.toNat_zero]); omega)

set_option maxHeartbeats 4000000 in
theorem L60_0 (a0 : (List (Int × Int × Int)) × List (Int × Int × Int)) (l0_1 : a0.1.length ≤ 9223372036854775807) (l0_2 : a0.2.length ≤ 9223372036854775807) {cx : Cx} (hcx : cx.base = 2) : ∀ (n : Nat) (v1 : List (Bool)) (v2 : Int), (0 ≤ v2) ∧ (v1.length = a0.1.length) ∧ (okTo a0 v2) ∧ (v2 ≤ a0.2.length) ∧ (a0.1.length ≤ 64) ∧ (a0.2.length ≤ 96) → Int.toNat (((a0.2.length : Nat) : Int) - v2) < n → Aw.Good Tryz.prog none 9 (bodyPost Tryz.prog Tryz.f60 (RR cx (iv (loopF (S60_0 a0) n (v1, v2))) [] [])) cx [] (.l B60_0 n :: K60_0) (st60_0 a0 (flat c4 v1) v1.length v2) := by
  intro n
  induction n with
  | zero => intro v1 v2 hi hn; exact absurd hn (Nat.not_lt_zero _)
  | succ n ih =>
    intro v1 v2 hi hn
    refine good_round ?_
    try have hfo : inF a0.1.length (a0.2.getD (Int.toNat v2) default) := face_in (m := a0) h1 (by omega)
    try have hfo2 := hfo
    try obtain ⟨⟨hf1, hf2⟩, ⟨hf3, hf4⟩, hf5, hf6⟩ := hfo2
    cases h0 : (decide ((v2 : Int) < ((a0.2.length : Nat) : Int))) with
    | true =>
     have q0 := of_decide_eq_true h0
     try have hfo : inF a0.1.length (a0.2.getD (Int.toNat v2) default) := face_in (m := a0) h1 (by omega)
     let t1 : List (St Tryz.prog) := [.d h0, .i v2 (a0.2.length), .L c119_len a0.2 v2 0 3, .c [0, 1] (C106 (a0.1, a0.2) (a0.2.getD (Int.toNat v2) default) (by (try simp only [List.length_append, List.length_cons, List.length_nil, Int.toNat_zero]); omega) (by (try simp only [List.length_append, List.length_cons, List.length_nil, Int.toNat_zero]); omega) (by (try simp only [List.length_append, List.length_cons, List.length_nil, Int.toNat_zero]); omega))]
     cases h1 : (((F106 (a0.1, a0.2) (a0.2.getD (Int.toNat v2) default)) : Int) != 0) with
     | true =>
      have q1 := bne_iff_ne.1 h1
      try have hfo : inF a0.1.length (a0.2.getD (Int.toNat v2) default) := face_in (m := a0) h1 (by omega)
      have e := Eq.refl (S60_0 a0 (v1, v2)); conv at e => rhs; simp only [S60_0, h0, h1, cond_true, cond_false]
      rw [loopF_s, e]
      exact rt (t1 ++ [.d h1]) [] [] hcx (by kernel_rfl)
     | false =>
      have q1 := bne_eq_false_iff_eq.1 h1
      try have hfo : inF a0.1.length (a0.2.getD (Int.toNat v2) default) := face_in (m := a0) h1 (by omega)
      have e := Eq.refl (S60_0 a0 (v1, v2)); conv at e => rhs; simp only [S60_0, h0, h1, cond_true, cond_false]
      rw [loopF_inl e]
      refine ba (t1 ++ [.d h1, .u 200, .T, .i 0 3 (by decide), .i ((a0.2.getD (Int.toNat v2) default).1) (v1.length), .p (show ((0 + Int.toNat (a0.2.getD (Int.toNat v2) default).1 * 1) + 1 ≤ (flat c4 v1).length) from (flat_setl c4_len (by first | omega | (simp only [List.length_set]; omega)) (i := Int.toNat (a0.2.getD (Int.toNat v2) default).1) (o := 0) (n := 1) (Nat.le_of_ble_eq_true rfl))), .u 0, .T, .i 1 3 (by decide), .i ((a0.2.getD (Int.toNat v2) default).2.1) (v1.length), .p (show ((0 + Int.toNat (a0.2.getD (Int.toNat v2) default).2.1 * 1) + 1 ≤ (splice (flat c4 v1) (0 + Int.toNat (a0.2.getD (Int.toNat v2) default).1 * 1) [(.v (.bool true))]).length) from (by rw [show (splice (flat c4 v1) (0 + Int.toNat (a0.2.getD (Int.toNat v2) default).1 * 1) [(.v (.bool true))]) = flat c4 (v1.set (Int.toNat (a0.2.getD (Int.toNat v2) default).1) true) from (flat_set c4_len (by first | omega | (simp only [List.length_set]; omega)) (i := Int.toNat (a0.2.getD (Int.toNat v2) default).1) (o := 0) (d := default) (y := true) (Nat.le_of_ble_eq_true rfl) rfl)]; exact flat_setl c4_len (by first | omega | (simp only [List.length_set]; omega)) (i := Int.toNat (a0.2.getD (Int.toNat v2) default).2.1) (o := 0) (n := 1) (Nat.le_of_ble_eq_true rfl))), .u 0, .T, .i 2 3 (by decide), .i ((a0.2.getD (Int.toNat v2) default).2.2) (v1.length), .p (show ((0 + Int.toNat (a0.2.getD (Int.toNat v2) default).2.2 * 1) + 1 ≤ (splice (splice (flat c4 v1) (0 + Int.toNat (a0.2.getD (Int.toNat v2) default).1 * 1) [(.v (.bool true))]) (0 + Int.toNat (a0.2.getD (Int.toNat v2) default).2.1 * 1) [(.v (.bool true))]).length) from (by rw [show (splice (splice (flat c4 v1) (0 + Int.toNat (a0.2.getD (Int.toNat v2) default).1 * 1) [(.v (.bool true))]) (0 + Int.toNat (a0.2.getD (Int.toNat v2) default).2.1 * 1) [(.v (.bool true))]) = flat c4 ((v1.set (Int.toNat (a0.2.getD (Int.toNat v2) default).1) true).set (Int.toNat (a0.2.getD (Int.toNat v2) default).2.1) true) from (by rw [show (splice (flat c4 v1) (0 + Int.toNat (a0.2.getD (Int.toNat v2) default).1 * 1) [(.v (.bool true))]) = flat c4 (v1.set (Int.toNat (a0.2.getD (Int.toNat v2) default).1) true) from (flat_set c4_len (by first | omega | (simp only [List.length_set]; omega)) (i := Int.toNat (a0.2.getD (Int.toNat v2) default).1) (o := 0) (d := default) (y := true) (Nat.le_of_ble_eq_true rfl) rfl)]; exact flat_set c4_len (by first | omega | (simp only [List.length_set]; omega)) (i := Int.toNat (a0.2.getD (Int.toNat v2) default).2.1) (o := 0) (d := default) (y := true) (Nat.le_of_ble_eq_true rfl) rfl)]; exact flat_setl c4_len (by first | omega | (simp only [List.length_set]; omega)) (i := Int.toNat (a0.2.getD (Int.toNat v2) default).2.2) (o := 0) (n := 1) (Nat.le_of_ble_eq_true rfl))), .u 0, .F]) [] [1, 4, 38, 39, 40] [2, 3] hcx (m := n) B60_0 (K60_0) (st60_0 a0 (splice (splice (splice (flat c4 v1) (0 + Int.toNat (a0.2.getD (Int.toNat v2) default).1 * 1) [(.v (.bool true))]) (0 + Int.toNat (a0.2.getD (Int.toNat v2) default).2.1 * 1) [(.v (.bool true))]) (0 + Int.toNat (a0.2.getD (Int.toNat v2) default).2.2 * 1) [(.v (.bool true))]) (v1.length) (W (v2 + 1))) (by kernel_rfl) ?_
      have z0 : (W (v2 + 1)) = (v2 + 1) := W_eq (by omega) (by omega)
      have z1 : (splice (splice (splice (flat c4 v1) (0 + Int.toNat (a0.2.getD (Int.toNat v2) default).1 * 1) [(.v (.bool true))]) (0 + Int.toNat (a0.2.getD (Int.toNat v2) default).2.1 * 1) [(.v (.bool true))]) (0 + Int.toNat (a0.2.getD (Int.toNat v2) default).2.2 * 1) [(.v (.bool true))]) = flat c4 (((v1.set (Int.toNat (a0.2.getD (Int.toNat v2) default).1) true).set (Int.toNat (a0.2.getD (Int.toNat v2) default).2.1) true).set (Int.toNat (a0.2.getD (Int.toNat v2) default).2.2) true) := (by rw [show (splice (splice (flat c4 v1) (0 + Int.toNat (a0.2.getD (Int.toNat v2) default).1 * 1) [(.v (.bool true))]) (0 + Int.toNat (a0.2.getD (Int.toNat v2) default).2.1 * 1) [(.v (.bool true))]) = flat c4 ((v1.set (Int.toNat (a0.2.getD (Int.toNat v2) default).1) true).set (Int.toNat (a0.2.getD (Int.toNat v2) default).2.1) true) from (by rw [show (splice (flat c4 v1) (0 + Int.toNat (a0.2.getD (Int.toNat v2) default).1 * 1) [(.v (.bool true))]) = flat c4 (v1.set (Int.toNat (a0.2.getD (Int.toNat v2) default).1) true) from (flat_set c4_len (by first | omega | (simp only [List.length_set]; omega)) (i := Int.toNat (a0.2.getD (Int.toNat v2) default).1) (o := 0) (d := default) (y := true) (Nat.le_of_ble_eq_true rfl) rfl)]; exact flat_set c4_len (by first | omega | (simp only [List.length_set]; omega)) (i := Int.toNat (a0.2.getD (Int.toNat v2) default).2.1) (o := 0) (d := default) (y := true) (Nat.le_of_ble_eq_true rfl) rfl)]; exact flat_set c4_len (by first | omega | (simp only [List.length_set]; omega)) (i := Int.toNat (a0.2.getD (Int.toNat v2) default).2.2) (o := 0) (d := default) (y := true) (Nat.le_of_ble_eq_true rfl) rfl)
      have z2 : v1.length = (((v1.set (Int.toNat (a0.2.getD (Int.toNat v2) default).1) true).set (Int.toNat (a0.2.getD (Int.toNat v2) default).2.1) true).set (Int.toNat (a0.2.getD (Int.toNat v2) default).2.2) true).length := by simp
      rw [z0, z1, z2]
      exact ih (((v1.set (Int.toNat (a0.2.getD (Int.toNat v2) default).1) true).set (Int.toNat (a0.2.getD (Int.toNat v2) default).2.1) true).set (Int.toNat (a0.2.getD (Int.toNat v2) default).2.2) true) (v2 + 1) (by refine ⟨?_, ?_, ?_, ?_, ?_, ?_⟩ <;> first | omega | assumption | exact okTo_0 | exact hi.2.1 | exact hi.2.2.1 | exact okTo_le hi.2.2.1 (by omega) | exact okTo_s hi.2.2.1 hfo | exact okTo_s hi.2.2.1 (by refine ⟨⟨?_, ?_⟩, ⟨?_, ?_⟩, ?_, ?_⟩ <;> omega) | (simp only [List.length_replicate, List.length_set]; omega)) (by (try simp only [List.length_append, List.length_cons, List.length_nil, Int.toNat_zero]); omega)
    | false =>
     have q0 := of_decide_eq_false h0
     try have hfo : inF a0.1.length (a0.2.getD (Int.toNat v2) default) := face_in (m := a0) h1 (by omega)
     have e := Eq.refl (S60_0 a0 (v1, v2)); conv at e => rhs; simp only [S60_0, h0, cond_true, cond_false]
     rw [loopF_s, e]
     refine en [.d h0, .c [0, 1] (C107 (a0.1, a0.2) (by (try simp only [List.length_append, List.length_cons, List.length_nil, Int.toNat_zero]); omega) (by (try simp only [List.length_append, List.length_cons, List.length_nil, Int.toNat_zero]); omega))] [] [1, 4, 10, 62, 63, 64] [2, 3, 4] hcx B60_2 (K60_2) (st60_2 a0 (flat c4 v1) (v1.length) 0) (Int.toNat (((a0.2.length : Nat) : Int) - 0) + 1) (by kernel_rfl) ?_
     exact L60_2 a0 l0_1 l0_2 hcx (Int.toNat (((a0.2.length : Nat) : Int) - 0) + 1) v1 0 (by refine ⟨?_, ?_, ?_, ?_, ?_⟩ <;> first | omega | assumption | exact okTo_0 | exact hi.2.1 | exact hi.2.2.1 | exact okTo_le hi.2.2.1 (by omega) | exact okTo_s hi.2.2.1 hfo | exact okTo_s hi.2.2.1 (by refine ⟨⟨?_, ?_⟩, ⟨?_, ?_⟩, ?_, ?_⟩ <;> omega) | (simp only [List.length_replicate, List.length_set]; omega)) (by (try simp only [List.length_append, List.length_cons, List.length_nil, Int.toNat_zero]); omega)

/-- facet/shape.Validate -/
def F60 (a0 : (List (Int × Int × Int)) × List (Int × Int × Int)) : Int :=
  (bif (decide ((((a0.1.length : Nat) : Int) : Int) > 64)) then
   4
  else
   (bif (!(F104 ((a0.2.length : Nat) : Int) 1 96)) then
    4
   else
    (bif (((F105 (a0.1, a0.2)) : Int) != 0) then
     (F105 (a0.1, a0.2))
    else
     (loopF (S60_0 a0) (Int.toNat (((a0.2.length : Nat) : Int) - 0) + 1) ((List.replicate (Int.toNat ((a0.1.length : Nat) : Int)) false), 0)))))

theorem C60 (a0 : (List (Int × Int × Int)) × List (Int × Int × Int)) (l0_1 : a0.1.length ≤ 9223372036854775807) (l0_2 : a0.2.length ≤ 9223372036854775807) : Con Tryz.prog 60 [(.a [(.s 0 0 a0.1.length 3), (.s 1 0 a0.2.length 3)])] [(.live false true (flat c27 a0.1)), (.live false true (flat c119 a0.2))] (iv (F60 a0)) [] := by
  refine con_s Tryz.func60 (by kernel_rfl) fun cx hcx => ?_
  try have hl96 := from_p h1
  cases h0 : (decide ((((a0.1.length : Nat) : Int) : Int) > 64)) with
  | true =>
   have q0 := of_decide_eq_true h0
   try have hl96 := from_p h1
   have e := Eq.refl (F60 a0); conv at e => rhs; simp only [F60, h0, cond_true, cond_false]
   rw [e]
   exact rt [.d h0] [] [] hcx (by kernel_rfl)
  | false =>
   have q0 := of_decide_eq_false h0
   try have hl96 := from_p h1
   let t1 : List (St Tryz.prog) := [.d h0, .c [] (C104 ((a0.2.length : Nat) : Int) 1 96)]
   cases h1 : (!(F104 ((a0.2.length : Nat) : Int) 1 96)) with
   | true =>
    try have hl96 := from_p h1
    have e := Eq.refl (F60 a0); conv at e => rhs; simp only [F60, h0, h1, cond_true, cond_false]
    rw [e]
    exact rt (t1 ++ [.d h1]) [] [] hcx (by kernel_rfl)
   | false =>
    try have hl96 := from_p h1
    let t2 : List (St Tryz.prog) := (t1 ++ [.d h1, .c [0, 1] (C105 (a0.1, a0.2) (by (try simp only [List.length_append, List.length_cons, List.length_nil, Int.toNat_zero]); omega) (by (try simp only [List.length_append, List.length_cons, List.length_nil, Int.toNat_zero]); omega))])
    cases h2 : (((F105 (a0.1, a0.2)) : Int) != 0) with
    | true =>
     have q2 := bne_iff_ne.1 h2
     try have hl96 := from_p h1
     have e := Eq.refl (F60 a0); conv at e => rhs; simp only [F60, h0, h1, h2, cond_true, cond_false]
     rw [e]
     exact rt (t2 ++ [.d h2]) [] [] hcx (by kernel_rfl)
    | false =>
     have q2 := bne_eq_false_iff_eq.1 h2
     try have hl96 := from_p h1
     have e := Eq.refl (F60 a0); conv at e => rhs; simp only [F60, h0, h1, h2, cond_true, cond_false]
     rw [e]
     refine en (t2 ++ [.d h2, .Z c4 false [(.v (.bool false))] ((a0.1.length : Nat) : Int) 1]) [] [1, 4, 38, 39, 40] [2, 3] hcx B60_0 (K60_0) (st60_0 a0 (flat c4 (List.replicate (Int.toNat ((a0.1.length : Nat) : Int)) false)) (Int.toNat ((a0.1.length : Nat) : Int)) 0) (Int.toNat (((a0.2.length : Nat) : Int) - 0) + 1) (by kernel_rfl) ?_
     have q := L60_0 a0 l0_1 l0_2 hcx (Int.toNat (((a0.2.length : Nat) : Int) - 0) + 1) (List.replicate (Int.toNat ((a0.1.length : Nat) : Int)) false) 0 (by refine ⟨?_, ?_, ?_, ?_, ?_, ?_⟩ <;> first | omega | assumption | exact okTo_0 | exact hi.2.1 | exact hi.2.2.1 | exact okTo_le hi.2.2.1 (by omega) | exact okTo_s hi.2.2.1 hfo | exact okTo_s hi.2.2.1 (by refine ⟨⟨?_, ?_⟩, ⟨?_, ?_⟩, ?_, ?_⟩ <;> omega) | (simp only [List.length_replicate, List.length_set]; omega)) (by (try simp only [List.length_append, List.length_cons, List.length_nil, Int.toNat_zero]); omega)
     simp only [List.length_replicate] at q
     exact q

/-- facet/facetref02.corners -/
def F68 (a0 : (List (Int × Int × Int)) × List (Int × Int × Int)) (a1 : Int) : (Int × Int × Int) × (Int × Int × Int) × Int × Int × Int :=
  ((a0.1.getD (Int.toNat (a0.2.getD (Int.toNat a1) default).1) default), (a0.1.getD (Int.toNat (a0.2.getD (Int.toNat a1) default).2.1) default), (a0.1.getD (Int.toNat (a0.2.getD (Int.toNat a1) default).2.2) default))

theorem C68 (a0 : (List (Int × Int × Int)) × List (Int × Int × Int)) (a1 : Int) (l0_1 : a0.1.length ≤ 9223372036854775807) (l0_2 : a0.2.length ≤ 9223372036854775807) (hi : 0 ≤ a1 ∧ a1 < (a0.2.length : Int)) (hf : inF a0.1.length (a0.2.getD (Int.toNat a1) default)) : Con Tryz.prog 68 [(.a [(.s 0 0 a0.1.length 3), (.s 1 0 a0.2.length 3)]), (iv a1)] [(.live false true (flat c27 a0.1)), (.live false true (flat c119 a0.2))] (.a (k9 (F68 a0 a1))) [] := by
  refine con_s Tryz.func68 (by kernel_rfl) fun cx hcx => ?_
  have e := Eq.refl (F68 a0 a1); conv at e => rhs; simp only [F68]
  rw [e]
  exact rt [.i a1 (a0.2.length), .L c119_len a0.2 a1 0 3, .i 0 3 (by decide), .i ((a0.2.getD (Int.toNat a1) default).1) (a0.1.length), .L c27_len a0.1 (a0.2.getD (Int.toNat a1) default).1 0 3, .i 1 3 (by decide), .i ((a0.2.getD (Int.toNat a1) default).2.1) (a0.1.length), .L c27_len a0.1 (a0.2.getD (Int.toNat a1) default).2.1 0 3, .i 2 3 (by decide), .i ((a0.2.getD (Int.toNat a1) default).2.2) (a0.1.length), .L c27_len a0.1 (a0.2.getD (Int.toNat a1) default).2.2 0 3] [] [] hcx (by kernel_rfl)

noncomputable def B119_0 : Code := (loopAtD [1, 1, 0, 1] [] (bodyOf Tryz.f119) []).1
noncomputable def K119_0 : List K := (loopAtD [1, 1, 0, 1] [] (bodyOf Tryz.f119) []).2

def st119_0 (a0 : (List (Int × Int × Int)) × List (Int × Int × Int)) (a1 : Int) (a2 : Int) (v1 : Int) (v2 : Int) : LS := ⟨slN 46 [(1, (iv a1)), (2, (iv a2)), (3, (.p 2 0)), (7, (iv v1)), (8, (iv v2))], [(.live false true (flat c27 a0.1)), (.live false true (flat c119 a0.2)), (.live true false [(.s 0 0 a0.1.length 3), (.s 1 0 a0.2.length 3)])]⟩

/-- a round of loop 0 of facet/facetref02.edges; the variables: v1 = s7, v2 = s8 -/
def S119_0 (a0 : (List (Int × Int × Int)) × List (Int × Int × Int)) (a1 : Int) (a2 : Int) : Int × Int → (Int × Int) ⊕ (Int)
  | (v1, v2) =>
   (bif (decide ((v2 : Int) < ((a0.2.length : Nat) : Int))) then
    (bif (((a0.2.getD (Int.toNat v2) default).1 : Int) == a1) then
     (bif (((a0.2.getD (Int.toNat v2) default).2.1 : Int) == a2) then
      (bif (((a0.2.getD (Int.toNat v2) default).2.1 : Int) == a1) then
       (bif (((a0.2.getD (Int.toNat v2) default).2.2 : Int) == a2) then
        (bif (((a0.2.getD (Int.toNat v2) default).2.2 : Int) == a1) then
         (bif (((a0.2.getD (Int.toNat v2) default).1 : Int) == a2) then
          (.inl ((W ((W ((W (v1 + 1)) + 1)) + 1)), (v2 + 1)))
         else
          (.inl ((W ((W (v1 + 1)) + 1)), (v2 + 1))))
        else
         (.inl ((W ((W (v1 + 1)) + 1)), (v2 + 1))))
       else
        (bif (((a0.2.getD (Int.toNat v2) default).2.2 : Int) == a1) then
         (bif (((a0.2.getD (Int.toNat v2) default).1 : Int) == a2) then
          (.inl ((W ((W (v1 + 1)) + 1)), (v2 + 1)))
         else
          (.inl ((W (v1 + 1)), (v2 + 1))))
        else
         (.inl ((W (v1 + 1)), (v2 + 1)))))
      else
       (bif (((a0.2.getD (Int.toNat v2) default).2.2 : Int) == a1) then
        (bif (((a0.2.getD (Int.toNat v2) default).1 : Int) == a2) then
         (.inl ((W ((W (v1 + 1)) + 1)), (v2 + 1)))
        else
         (.inl ((W (v1 + 1)), (v2 + 1))))
       else
        (.inl ((W (v1 + 1)), (v2 + 1)))))
     else
      (bif (((a0.2.getD (Int.toNat v2) default).2.1 : Int) == a1) then
       (bif (((a0.2.getD (Int.toNat v2) default).2.2 : Int) == a2) then
        (bif (((a0.2.getD (Int.toNat v2) default).2.2 : Int) == a1) then
         (bif (((a0.2.getD (Int.toNat v2) default).1 : Int) == a2) then
          (.inl ((W ((W (v1 + 1)) + 1)), (v2 + 1)))
         else
          (.inl ((W (v1 + 1)), (v2 + 1))))
        else
         (.inl ((W (v1 + 1)), (v2 + 1))))
       else
        (bif (((a0.2.getD (Int.toNat v2) default).2.2 : Int) == a1) then
         (bif (((a0.2.getD (Int.toNat v2) default).1 : Int) == a2) then
          (.inl ((W (v1 + 1)), (v2 + 1)))
         else
          (.inl (v1, (v2 + 1))))
        else
         (.inl (v1, (v2 + 1)))))
      else
       (bif (((a0.2.getD (Int.toNat v2) default).2.2 : Int) == a1) then
        (bif (((a0.2.getD (Int.toNat v2) default).1 : Int) == a2) then
         (.inl ((W (v1 + 1)), (v2 + 1)))
        else
         (.inl (v1, (v2 + 1))))
       else
        (.inl (v1, (v2 + 1))))))
    else
     (bif (((a0.2.getD (Int.toNat v2) default).2.1 : Int) == a1) then
      (bif (((a0.2.getD (Int.toNat v2) default).2.2 : Int) == a2) then
       (bif (((a0.2.getD (Int.toNat v2) default).2.2 : Int) == a1) then
        (bif (((a0.2.getD (Int.toNat v2) default).1 : Int) == a2) then
         (.inl ((W ((W (v1 + 1)) + 1)), (v2 + 1)))
        else
         (.inl ((W (v1 + 1)), (v2 + 1))))
       else
        (.inl ((W (v1 + 1)), (v2 + 1))))
      else
       (bif (((a0.2.getD (Int.toNat v2) default).2.2 : Int) == a1) then
        (bif (((a0.2.getD (Int.toNat v2) default).1 : Int) == a2) then
         (.inl ((W (v1 + 1)), (v2 + 1)))
        else
         (.inl (v1, (v2 + 1))))
       else
        (.inl (v1, (v2 + 1)))))
     else
      (bif (((a0.2.getD (Int.toNat v2) default).2.2 : Int) == a1) then
       (bif (((a0.2.getD (Int.toNat v2) default).1 : Int) == a2) then
        (.inl ((W (v1 + 1)), (v2 + 1)))
       else
        (.inl (v1, (v2 + 1))))
      else
       (.inl (v1, (v2 + 1))))))
   else
    (.inr v1))

set_option maxHeartbeats 4000000 in
theorem L119_0 (a0 : (List (Int × Int × Int)) × List (Int × Int × Int)) (a1 : Int) (a2 : Int) (l0_1 : a0.1.length ≤ 9223372036854775807) (l0_2 : a0.2.length ≤ 9223372036854775807) {cx : Cx} (hcx : cx.base = 2) : ∀ (n : Nat) (v1 : Int) (v2 : Int), 0 ≤ v2 → Int.toNat (((a0.2.length : Nat) : Int) - v2) < n → Aw.Good Tryz.prog none 9 (bodyPost Tryz.prog Tryz.f119 (RR cx (iv (loopF (S119_0 a0 a1 a2) n (v1, v2))) [] [])) cx [] (.l B119_0 n :: K119_0) (st119_0 a0 a1 a2 v1 v2) := by
  intro n
  induction n with
  | zero => intro v1 v2 hi hn; exact absurd hn (Nat.not_lt_zero _)
  | succ n ih =>
    intro v1 v2 hi hn
    refine good_round ?_
    cases h0 : (decide ((v2 : Int) < ((a0.2.length : Nat) : Int))) with
    | true =>
     have q0 := of_decide_eq_true h0
     let t1 : List (St Tryz.prog) := [.d h0, .u 200, .T, .i v2 (a0.2.length), .i 0 3 (by decide), .L c119_len a0.2 v2 0 1]
     cases h1 : (((a0.2.getD (Int.toNat v2) default).1 : Int) == a1) with
     | true =>
      have q1 := eq_of_beq h1
      let t2 : List (St Tryz.prog) := (t1 ++ [.d h1, .p (show (3 : Int) ≠ 0 from by decide), .i v2 (a0.2.length), .i 1 3 (by decide), .L c119_len a0.2 v2 1 1])
      cases h2 : (((a0.2.getD (Int.toNat v2) default).2.1 : Int) == a2) with
      | true =>
       have q2 := eq_of_beq h2
       let t3 : List (St Tryz.prog) := (t2 ++ [.d h2, .u 0, .T, .i v2 (a0.2.length), .i 1 3 (by decide), .L c119_len a0.2 v2 1 1])
       cases h3 : (((a0.2.getD (Int.toNat v2) default).2.1 : Int) == a1) with
       | true =>
        have q3 := eq_of_beq h3
        let t4 : List (St Tryz.prog) := (t3 ++ [.d h3, .p (show (3 : Int) ≠ 0 from by decide), .i v2 (a0.2.length), .i 2 3 (by decide), .L c119_len a0.2 v2 2 1])
        cases h4 : (((a0.2.getD (Int.toNat v2) default).2.2 : Int) == a2) with
        | true =>
         have q4 := eq_of_beq h4
         let t5 : List (St Tryz.prog) := (t4 ++ [.d h4, .u 0, .T, .i v2 (a0.2.length), .i 2 3 (by decide), .L c119_len a0.2 v2 2 1])
         cases h5 : (((a0.2.getD (Int.toNat v2) default).2.2 : Int) == a1) with
         | true =>
          have q5 := eq_of_beq h5
          let t6 : List (St Tryz.prog) := (t5 ++ [.d h5, .p (show (3 : Int) ≠ 0 from by decide), .i v2 (a0.2.length), .i 0 3 (by decide), .L c119_len a0.2 v2 0 1])
          cases h6 : (((a0.2.getD (Int.toNat v2) default).1 : Int) == a2) with
          | true =>
           have q6 := eq_of_beq h6
           have e := Eq.refl (S119_0 a0 a1 a2 (v1, v2)); conv at e => rhs; simp only [S119_0, h0, h1, h2, h3, h4, h5, h6, cond_true, cond_false]
           rw [loopF_inl e]
           refine ba (t6 ++ [.d h6, .u 0, .F]) [] [1, 2, 3, 7, 8] [2] hcx (m := n) B119_0 (K119_0) (st119_0 a0 a1 a2 (W ((W ((W (v1 + 1)) + 1)) + 1)) (W (v2 + 1))) (by kernel_rfl) ?_
           have z0 : (W (v2 + 1)) = (v2 + 1) := W_eq (by omega) (by omega)
           rw [z0]
           exact ih (W ((W ((W (v1 + 1)) + 1)) + 1)) (v2 + 1) (by (try simp only [List.length_append, List.length_cons, List.length_nil, Int.toNat_zero]); omega) (by (try simp only [List.length_append, List.length_cons, List.length_nil, Int.toNat_zero]); omega)
          | false =>
           have q6 := ne_of_beq_false h6
           have e := Eq.refl (S119_0 a0 a1 a2 (v1, v2)); conv at e => rhs; simp only [S119_0, h0, h1, h2, h3, h4, h5, h6, cond_true, cond_false]
           rw [loopF_inl e]
           refine ba (t6 ++ [.d h6, .u 0, .F]) [] [1, 2, 3, 7, 8] [2] hcx (m := n) B119_0 (K119_0) (st119_0 a0 a1 a2 (W ((W (v1 + 1)) + 1)) (W (v2 + 1))) (by kernel_rfl) ?_
           have z0 : (W (v2 + 1)) = (v2 + 1) := W_eq (by omega) (by omega)
           rw [z0]
           exact ih (W ((W (v1 + 1)) + 1)) (v2 + 1) (by (try simp only [List.length_append, List.length_cons, List.length_nil, Int.toNat_zero]); omega) (by (try simp only [List.length_append, List.length_cons, List.length_nil, Int.toNat_zero]); omega)
         | false =>
          have q5 := ne_of_beq_false h5
          have e := Eq.refl (S119_0 a0 a1 a2 (v1, v2)); conv at e => rhs; simp only [S119_0, h0, h1, h2, h3, h4, h5, cond_true, cond_false]
          rw [loopF_inl e]
          refine ba (t5 ++ [.d h5, .u 0, .F]) [] [1, 2, 3, 7, 8] [2] hcx (m := n) B119_0 (K119_0) (st119_0 a0 a1 a2 (W ((W (v1 + 1)) + 1)) (W (v2 + 1))) (by kernel_rfl) ?_
          have z0 : (W (v2 + 1)) = (v2 + 1) := W_eq (by omega) (by omega)
          rw [z0]
          exact ih (W ((W (v1 + 1)) + 1)) (v2 + 1) (by (try simp only [List.length_append, List.length_cons, List.length_nil, Int.toNat_zero]); omega) (by (try simp only [List.length_append, List.length_cons, List.length_nil, Int.toNat_zero]); omega)
        | false =>
         have q4 := ne_of_beq_false h4
         let t5 : List (St Tryz.prog) := (t4 ++ [.d h4, .u 0, .T, .i v2 (a0.2.length), .i 2 3 (by decide), .L c119_len a0.2 v2 2 1])
         cases h5 : (((a0.2.getD (Int.toNat v2) default).2.2 : Int) == a1) with
         | true =>
          have q5 := eq_of_beq h5
          let t6 : List (St Tryz.prog) := (t5 ++ [.d h5, .p (show (3 : Int) ≠ 0 from by decide), .i v2 (a0.2.length), .i 0 3 (by decide), .L c119_len a0.2 v2 0 1])
          cases h6 : (((a0.2.getD (Int.toNat v2) default).1 : Int) == a2) with
          | true =>
           have q6 := eq_of_beq h6
           have e := Eq.refl (S119_0 a0 a1 a2 (v1, v2)); conv at e => rhs; simp only [S119_0, h0, h1, h2, h3, h4, h5, h6, cond_true, cond_false]
           rw [loopF_inl e]
           refine ba (t6 ++ [.d h6, .u 0, .F]) [] [1, 2, 3, 7, 8] [2] hcx (m := n) B119_0 (K119_0) (st119_0 a0 a1 a2 (W ((W (v1 + 1)) + 1)) (W (v2 + 1))) (by kernel_rfl) ?_
           have z0 : (W (v2 + 1)) = (v2 + 1) := W_eq (by omega) (by omega)
           rw [z0]
           exact ih (W ((W (v1 + 1)) + 1)) (v2 + 1) (by (try simp only [List.length_append, List.length_cons, List.length_nil, Int.toNat_zero]); omega) (by (try simp only [List.length_append, List.length_cons, List.length_nil, Int.toNat_zero]); omega)
          | false =>
           have q6 := ne_of_beq_false h6
           have e := Eq.refl (S119_0 a0 a1 a2 (v1, v2)); conv at e => rhs; simp only [S119_0, h0, h1, h2, h3, h4, h5, h6, cond_true, cond_false]
           rw [loopF_inl e]
           refine ba (t6 ++ [.d h6, .u 0, .F]) [] [1, 2, 3, 7, 8] [2] hcx (m := n) B119_0 (K119_0) (st119_0 a0 a1 a2 (W (v1 + 1)) (W (v2 + 1))) (by kernel_rfl) ?_
           have z0 : (W (v2 + 1)) = (v2 + 1) := W_eq (by omega) (by omega)
           rw [z0]
           exact ih (W (v1 + 1)) (v2 + 1) (by (try simp only [List.length_append, List.length_cons, List.length_nil, Int.toNat_zero]); omega) (by (try simp only [List.length_append, List.length_cons, List.length_nil, Int.toNat_zero]); omega)
         | false =>
          have q5 := ne_of_beq_false h5
          have e := Eq.refl (S119_0 a0 a1 a2 (v1, v2)); conv at e => rhs; simp only [S119_0, h0, h1, h2, h3, h4, h5, cond_true, cond_false]
          rw [loopF_inl e]
          refine ba (t5 ++ [.d h5, .u 0, .F]) [] [1, 2, 3, 7, 8] [2] hcx (m := n) B119_0 (K119_0) (st119_0 a0 a1 a2 (W (v1 + 1)) (W (v2 + 1))) (by kernel_rfl) ?_
          have z0 : (W (v2 + 1)) = (v2 + 1) := W_eq (by omega) (by omega)
          rw [z0]
          exact ih (W (v1 + 1)) (v2 + 1) (by (try simp only [List.length_append, List.length_cons, List.length_nil, Int.toNat_zero]); omega) (by (try simp only [List.length_append, List.length_cons, List.length_nil, Int.toNat_zero]); omega)
       | false =>
        have q3 := ne_of_beq_false h3
        let t4 : List (St Tryz.prog) := (t3 ++ [.d h3, .u 0, .T, .i v2 (a0.2.length), .i 2 3 (by decide), .L c119_len a0.2 v2 2 1])
        cases h4 : (((a0.2.getD (Int.toNat v2) default).2.2 : Int) == a1) with
        | true =>
         have q4 := eq_of_beq h4
         let t5 : List (St Tryz.prog) := (t4 ++ [.d h4, .p (show (3 : Int) ≠ 0 from by decide), .i v2 (a0.2.length), .i 0 3 (by decide), .L c119_len a0.2 v2 0 1])
         cases h5 : (((a0.2.getD (Int.toNat v2) default).1 : Int) == a2) with
         | true =>
          have q5 := eq_of_beq h5
          have e := Eq.refl (S119_0 a0 a1 a2 (v1, v2)); conv at e => rhs; simp only [S119_0, h0, h1, h2, h3, h4, h5, cond_true, cond_false]
          rw [loopF_inl e]
          refine ba (t5 ++ [.d h5, .u 0, .F]) [] [1, 2, 3, 7, 8] [2] hcx (m := n) B119_0 (K119_0) (st119_0 a0 a1 a2 (W ((W (v1 + 1)) + 1)) (W (v2 + 1))) (by kernel_rfl) ?_
          have z0 : (W (v2 + 1)) = (v2 + 1) := W_eq (by omega) (by omega)
          rw [z0]
          exact ih (W ((W (v1 + 1)) + 1)) (v2 + 1) (by (try simp only [List.length_append, List.length_cons, List.length_nil, Int.toNat_zero]); omega) (by (try simp only [List.length_append, List.length_cons, List.length_nil, Int.toNat_zero]); omega)
         | false =>
          have q5 := ne_of_beq_false h5
          have e := Eq.refl (S119_0 a0 a1 a2 (v1, v2)); conv at e => rhs; simp only [S119_0, h0, h1, h2, h3, h4, h5, cond_true, cond_false]
          rw [loopF_inl e]
          refine ba (t5 ++ [.d h5, .u 0, .F]) [] [1, 2, 3, 7, 8] [2] hcx (m := n) B119_0 (K119_0) (st119_0 a0 a1 a2 (W (v1 + 1)) (W (v2 + 1))) (by kernel_rfl) ?_
          have z0 : (W (v2 + 1)) = (v2 + 1) := W_eq (by omega) (by omega)
          rw [z0]
          exact ih (W (v1 + 1)) (v2 + 1) (by (try simp only [List.length_append, List.length_cons, List.length_nil, Int.toNat_zero]); omega) (by (try simp only [List.length_append, List.length_cons, List.length_nil, Int.toNat_zero]); omega)
        | false =>
         have q4 := ne_of_beq_false h4
         have e := Eq.refl (S119_0 a0 a1 a2 (v1, v2)); conv at e => rhs; simp only [S119_0, h0, h1, h2, h3, h4, cond_true, cond_false]
         rw [loopF_inl e]
         refine ba (t4 ++ [.d h4, .u 0, .F]) [] [1, 2, 3, 7, 8] [2] hcx (m := n) B119_0 (K119_0) (st119_0 a0 a1 a2 (W (v1 + 1)) (W (v2 + 1))) (by kernel_rfl) ?_
         have z0 : (W (v2 + 1)) = (v2 + 1) := W_eq (by omega) (by omega)
         rw [z0]
         exact ih (W (v1 + 1)) (v2 + 1) (by (try simp only [List.length_append, List.length_cons, List.length_nil, Int.toNat_zero]); omega) (by (try simp only [List.length_append, List.length_cons, List.length_nil, Int.toNat_zero]); omega)
      | false =>
       have q2 := ne_of_beq_false h2
       let t3 : List (St Tryz.prog) := (t2 ++ [.d h2, .u 0, .T, .i v2 (a0.2.length), .i 1 3 (by decide), .L c119_len a0.2 v2 1 1])
       cases h3 : (((a0.2.getD (Int.toNat v2) default).2.1 : Int) == a1) with
       | true =>
        have q3 := eq_of_beq h3
        let t4 : List (St Tryz.prog) := (t3 ++ [.d h3, .p (show (3 : Int) ≠ 0 from by decide), .i v2 (a0.2.length), .i 2 3 (by decide), .L c119_len a0.2 v2 2 1])
        cases h4 : (((a0.2.getD (Int.toNat v2) default).2.2 : Int) == a2) with
        | true =>
         have q4 := eq_of_beq h4
         let t5 : List (St Tryz.prog) := (t4 ++ [.d h4, .u 0, .T, .i v2 (a0.2.length), .i 2 3 (by decide), .L c119_len a0.2 v2 2 1])
         cases h5 : (((a0.2.getD (Int.toNat v2) default).2.2 : Int) == a1) with
         | true =>
          have q5 := eq_of_beq h5
          let t6 : List (St Tryz.prog) := (t5 ++ [.d h5, .p (show (3 : Int) ≠ 0 from by decide), .i v2 (a0.2.length), .i 0 3 (by decide), .L c119_len a0.2 v2 0 1])
          cases h6 : (((a0.2.getD (Int.toNat v2) default).1 : Int) == a2) with
          | true =>
           have q6 := eq_of_beq h6
           have e := Eq.refl (S119_0 a0 a1 a2 (v1, v2)); conv at e => rhs; simp only [S119_0, h0, h1, h2, h3, h4, h5, h6, cond_true, cond_false]
           rw [loopF_inl e]
           refine ba (t6 ++ [.d h6, .u 0, .F]) [] [1, 2, 3, 7, 8] [2] hcx (m := n) B119_0 (K119_0) (st119_0 a0 a1 a2 (W ((W (v1 + 1)) + 1)) (W (v2 + 1))) (by kernel_rfl) ?_
           have z0 : (W (v2 + 1)) = (v2 + 1) := W_eq (by omega) (by omega)
           rw [z0]
           exact ih (W ((W (v1 + 1)) + 1)) (v2 + 1) (by (try simp only [List.length_append, List.length_cons, List.length_nil, Int.toNat_zero]); omega) (by (try simp only [List.length_append, List.length_cons, List.length_nil, Int.toNat_zero]); omega)
          | false =>
           have q6 := ne_of_beq_false h6
           have e := Eq.refl (S119_0 a0 a1 a2 (v1, v2)); conv at e => rhs; simp only [S119_0, h0, h1, h2, h3, h4, h5, h6, cond_true, cond_false]
           rw [loopF_inl e]
           refine ba (t6 ++ [.d h6, .u 0, .F]) [] [1, 2, 3, 7, 8] [2] hcx (m := n) B119_0 (K119_0) (st119_0 a0 a1 a2 (W (v1 + 1)) (W (v2 + 1))) (by kernel_rfl) ?_
           have z0 : (W (v2 + 1)) = (v2 + 1) := W_eq (by omega) (by omega)
           rw [z0]
           exact ih (W (v1 + 1)) (v2 + 1) (by (try simp only [List.length_append, List.length_cons, List.length_nil, Int.toNat_zero]); omega) (by (try simp only [List.length_append, List.length_cons, List.length_nil, Int.toNat_zero]); omega)
         | false =>
          have q5 := ne_of_beq_false h5
          have e := Eq.refl (S119_0 a0 a1 a2 (v1, v2)); conv at e => rhs; simp only [S119_0, h0, h1, h2, h3, h4, h5, cond_true, cond_false]
          rw [loopF_inl e]
          refine ba (t5 ++ [.d h5, .u 0, .F]) [] [1, 2, 3, 7, 8] [2] hcx (m := n) B119_0 (K119_0) (st119_0 a0 a1 a2 (W (v1 + 1)) (W (v2 + 1))) (by kernel_rfl) ?_
          have z0 : (W (v2 + 1)) = (v2 + 1) := W_eq (by omega) (by omega)
          rw [z0]
          exact ih (W (v1 + 1)) (v2 + 1) (by (try simp only [List.length_append, List.length_cons, List.length_nil, Int.toNat_zero]); omega) (by (try simp only [List.length_append, List.length_cons, List.length_nil, Int.toNat_zero]); omega)
        | false =>
         have q4 := ne_of_beq_false h4
         let t5 : List (St Tryz.prog) := (t4 ++ [.d h4, .u 0, .T, .i v2 (a0.2.length), .i 2 3 (by decide), .L c119_len a0.2 v2 2 1])
         cases h5 : (((a0.2.getD (Int.toNat v2) default).2.2 : Int) == a1) with
         | true =>
          have q5 := eq_of_beq h5
          let t6 : List (St Tryz.prog) := (t5 ++ [.d h5, .p (show (3 : Int) ≠ 0 from by decide), .i v2 (a0.2.length), .i 0 3 (by decide), .L c119_len a0.2 v2 0 1])
          cases h6 : (((a0.2.getD (Int.toNat v2) default).1 : Int) == a2) with
          | true =>
           have q6 := eq_of_beq h6
           have e := Eq.refl (S119_0 a0 a1 a2 (v1, v2)); conv at e => rhs; simp only [S119_0, h0, h1, h2, h3, h4, h5, h6, cond_true, cond_false]
           rw [loopF_inl e]
           refine ba (t6 ++ [.d h6, .u 0, .F]) [] [1, 2, 3, 7, 8] [2] hcx (m := n) B119_0 (K119_0) (st119_0 a0 a1 a2 (W (v1 + 1)) (W (v2 + 1))) (by kernel_rfl) ?_
           have z0 : (W (v2 + 1)) = (v2 + 1) := W_eq (by omega) (by omega)
           rw [z0]
           exact ih (W (v1 + 1)) (v2 + 1) (by (try simp only [List.length_append, List.length_cons, List.length_nil, Int.toNat_zero]); omega) (by (try simp only [List.length_append, List.length_cons, List.length_nil, Int.toNat_zero]); omega)
          | false =>
           have q6 := ne_of_beq_false h6
           have e := Eq.refl (S119_0 a0 a1 a2 (v1, v2)); conv at e => rhs; simp only [S119_0, h0, h1, h2, h3, h4, h5, h6, cond_true, cond_false]
           rw [loopF_inl e]
           refine ba (t6 ++ [.d h6, .u 0, .F]) [] [1, 2, 3, 7, 8] [2] hcx (m := n) B119_0 (K119_0) (st119_0 a0 a1 a2 v1 (W (v2 + 1))) (by kernel_rfl) ?_
           have z0 : (W (v2 + 1)) = (v2 + 1) := W_eq (by omega) (by omega)
           rw [z0]
           exact ih v1 (v2 + 1) (by (try simp only [List.length_append, List.length_cons, List.length_nil, Int.toNat_zero]); omega) (by (try simp only [List.length_append, List.length_cons, List.length_nil, Int.toNat_zero]); omega)
         | false =>
          have q5 := ne_of_beq_false h5
          have e := Eq.refl (S119_0 a0 a1 a2 (v1, v2)); conv at e => rhs; simp only [S119_0, h0, h1, h2, h3, h4, h5, cond_true, cond_false]
          rw [loopF_inl e]
          refine ba (t5 ++ [.d h5, .u 0, .F]) [] [1, 2, 3, 7, 8] [2] hcx (m := n) B119_0 (K119_0) (st119_0 a0 a1 a2 v1 (W (v2 + 1))) (by kernel_rfl) ?_
          have z0 : (W (v2 + 1)) = (v2 + 1) := W_eq (by omega) (by omega)
          rw [z0]
          exact ih v1 (v2 + 1) (by (try simp only [List.length_append, List.length_cons, List.length_nil, Int.toNat_zero]); omega) (by (try simp only [List.length_append, List.length_cons, List.length_nil, Int.toNat_zero]); omega)
       | false =>
        have q3 := ne_of_beq_false h3
        let t4 : List (St Tryz.prog) := (t3 ++ [.d h3, .u 0, .T, .i v2 (a0.2.length), .i 2 3 (by decide), .L c119_len a0.2 v2 2 1])
        cases h4 : (((a0.2.getD (Int.toNat v2) default).2.2 : Int) == a1) with
        | true =>
         have q4 := eq_of_beq h4
         let t5 : List (St Tryz.prog) := (t4 ++ [.d h4, .p (show (3 : Int) ≠ 0 from by decide), .i v2 (a0.2.length), .i 0 3 (by decide), .L c119_len a0.2 v2 0 1])
         cases h5 : (((a0.2.getD (Int.toNat v2) default).1 : Int) == a2) with
         | true =>
          have q5 := eq_of_beq h5
          have e := Eq.refl (S119_0 a0 a1 a2 (v1, v2)); conv at e => rhs; simp only [S119_0, h0, h1, h2, h3, h4, h5, cond_true, cond_false]
          rw [loopF_inl e]
          refine ba (t5 ++ [.d h5, .u 0, .F]) [] [1, 2, 3, 7, 8] [2] hcx (m := n) B119_0 (K119_0) (st119_0 a0 a1 a2 (W (v1 + 1)) (W (v2 + 1))) (by kernel_rfl) ?_
          have z0 : (W (v2 + 1)) = (v2 + 1) := W_eq (by omega) (by omega)
          rw [z0]
          exact ih (W (v1 + 1)) (v2 + 1) (by (try simp only [List.length_append, List.length_cons, List.length_nil, Int.toNat_zero]); omega) (by (try simp only [List.length_append, List.length_cons, List.length_nil, Int.toNat_zero]); omega)
         | false =>
          have q5 := ne_of_beq_false h5
          have e := Eq.refl (S119_0 a0 a1 a2 (v1, v2)); conv at e => rhs; simp only [S119_0, h0, h1, h2, h3, h4, h5, cond_true, cond_false]
          rw [loopF_inl e]
          refine ba (t5 ++ [.d h5, .u 0, .F]) [] [1, 2, 3, 7, 8] [2] hcx (m := n) B119_0 (K119_0) (st119_0 a0 a1 a2 v1 (W (v2 + 1))) (by kernel_rfl) ?_
          have z0 : (W (v2 + 1)) = (v2 + 1) := W_eq (by omega) (by omega)
          rw [z0]
          exact ih v1 (v2 + 1) (by (try simp only [List.length_append, List.length_cons, List.length_nil, Int.toNat_zero]); omega) (by (try simp only [List.length_append, List.length_cons, List.length_nil, Int.toNat_zero]); omega)
        | false =>
         have q4 := ne_of_beq_false h4
         have e := Eq.refl (S119_0 a0 a1 a2 (v1, v2)); conv at e => rhs; simp only [S119_0, h0, h1, h2, h3, h4, cond_true, cond_false]
         rw [loopF_inl e]
         refine ba (t4 ++ [.d h4, .u 0, .F]) [] [1, 2, 3, 7, 8] [2] hcx (m := n) B119_0 (K119_0) (st119_0 a0 a1 a2 v1 (W (v2 + 1))) (by kernel_rfl) ?_
         have z0 : (W (v2 + 1)) = (v2 + 1) := W_eq (by omega) (by omega)
         rw [z0]
         exact ih v1 (v2 + 1) (by (try simp only [List.length_append, List.length_cons, List.length_nil, Int.toNat_zero]); omega) (by (try simp only [List.length_append, List.length_cons, List.length_nil, Int.toNat_zero]); omega)
     | false =>
      have q1 := ne_of_beq_false h1
      let t2 : List (St Tryz.prog) := (t1 ++ [.d h1, .u 0, .T, .i v2 (a0.2.length), .i 1 3 (by decide), .L c119_len a0.2 v2 1 1])
      cases h2 : (((a0.2.getD (Int.toNat v2) default).2.1 : Int) == a1) with
      | true =>
       have q2 := eq_of_beq h2
       let t3 : List (St Tryz.prog) := (t2 ++ [.d h2, .p (show (3 : Int) ≠ 0 from by decide), .i v2 (a0.2.length), .i 2 3 (by decide), .L c119_len a0.2 v2 2 1])
       cases h3 : (((a0.2.getD (Int.toNat v2) default).2.2 : Int) == a2) with
       | true =>
        have q3 := eq_of_beq h3
        let t4 : List (St Tryz.prog) := (t3 ++ [.d h3, .u 0, .T, .i v2 (a0.2.length), .i 2 3 (by decide), .L c119_len a0.2 v2 2 1])
        cases h4 : (((a0.2.getD (Int.toNat v2) default).2.2 : Int) == a1) with
        | true =>
         have q4 := eq_of_beq h4
         let t5 : List (St Tryz.prog) := (t4 ++ [.d h4, .p (show (3 : Int) ≠ 0 from by decide), .i v2 (a0.2.length), .i 0 3 (by decide), .L c119_len a0.2 v2 0 1])
         cases h5 : (((a0.2.getD (Int.toNat v2) default).1 : Int) == a2) with
         | true =>
          have q5 := eq_of_beq h5
          have e := Eq.refl (S119_0 a0 a1 a2 (v1, v2)); conv at e => rhs; simp only [S119_0, h0, h1, h2, h3, h4, h5, cond_true, cond_false]
          rw [loopF_inl e]
          refine ba (t5 ++ [.d h5, .u 0, .F]) [] [1, 2, 3, 7, 8] [2] hcx (m := n) B119_0 (K119_0) (st119_0 a0 a1 a2 (W ((W (v1 + 1)) + 1)) (W (v2 + 1))) (by kernel_rfl) ?_
          have z0 : (W (v2 + 1)) = (v2 + 1) := W_eq (by omega) (by omega)
          rw [z0]
          exact ih (W ((W (v1 + 1)) + 1)) (v2 + 1) (by (try simp only [List.length_append, List.length_cons, List.length_nil, Int.toNat_zero]); omega) (by (try simp only [List.length_append, List.length_cons, List.length_nil, Int.toNat_zero]); omega)
         | false =>
          have q5 := ne_of_beq_false h5
          have e := Eq.refl (S119_0 a0 a1 a2 (v1, v2)); conv at e => rhs; simp only [S119_0, h0, h1, h2, h3, h4, h5, cond_true, cond_false]
          rw [loopF_inl e]
          refine ba (t5 ++ [.d h5, .u 0, .F]) [] [1, 2, 3, 7, 8] [2] hcx (m := n) B119_0 (K119_0) (st119_0 a0 a1 a2 (W (v1 + 1)) (W (v2 + 1))) (by kernel_rfl) ?_
          have z0 : (W (v2 + 1)) = (v2 + 1) := W_eq (by omega) (by omega)
          rw [z0]
          exact ih (W (v1 + 1)) (v2 + 1) (by (try simp only [List.length_append, List.length_cons, List.length_nil, Int.toNat_zero]); omega) (by (try simp only [List.length_append, List.length_cons, List.length_nil, Int.toNat_zero]); omega)
        | false =>
         have q4 := ne_of_beq_false h4
         have e := Eq.refl (S119_0 a0 a1 a2 (v1, v2)); conv at e => rhs; simp only [S119_0, h0, h1, h2, h3, h4, cond_true, cond_false]
         rw [loopF_inl e]
         refine ba (t4 ++ [.d h4, .u 0, .F]) [] [1, 2, 3, 7, 8] [2] hcx (m := n) B119_0 (K119_0) (st119_0 a0 a1 a2 (W (v1 + 1)) (W (v2 + 1))) (by kernel_rfl) ?_
         have z0 : (W (v2 + 1)) = (v2 + 1) := W_eq (by omega) (by omega)
         rw [z0]
         exact ih (W (v1 + 1)) (v2 + 1) (by (try simp only [List.length_append, List.length_cons, List.length_nil, Int.toNat_zero]); omega) (by (try simp only [List.length_append, List.length_cons, List.length_nil, Int.toNat_zero]); omega)
       | false =>
        have q3 := ne_of_beq_false h3
        let t4 : List (St Tryz.prog) := (t3 ++ [.d h3, .u 0, .T, .i v2 (a0.2.length), .i 2 3 (by decide), .L c119_len a0.2 v2 2 1])
        cases h4 : (((a0.2.getD (Int.toNat v2) default).2.2 : Int) == a1) with
        | true =>
         have q4 := eq_of_beq h4
         let t5 : List (St Tryz.prog) := (t4 ++ [.d h4, .p (show (3 : Int) ≠ 0 from by decide), .i v2 (a0.2.length), .i 0 3 (by decide), .L c119_len a0.2 v2 0 1])
         cases h5 : (((a0.2.getD (Int.toNat v2) default).1 : Int) == a2) with
         | true =>
          have q5 := eq_of_beq h5
          have e := Eq.refl (S119_0 a0 a1 a2 (v1, v2)); conv at e => rhs; simp only [S119_0, h0, h1, h2, h3, h4, h5, cond_true, cond_false]
          rw [loopF_inl e]
          refine ba (t5 ++ [.d h5, .u 0, .F]) [] [1, 2, 3, 7, 8] [2] hcx (m := n) B119_0 (K119_0) (st119_0 a0 a1 a2 (W (v1 + 1)) (W (v2 + 1))) (by kernel_rfl) ?_
          have z0 : (W (v2 + 1)) = (v2 + 1) := W_eq (by omega) (by omega)
          rw [z0]
          exact ih (W (v1 + 1)) (v2 + 1) (by (try simp only [List.length_append, List.length_cons, List.length_nil, Int.toNat_zero]); omega) (by (try simp only [List.length_append, List.length_cons, List.length_nil, Int.toNat_zero]); omega)
         | false =>
          have q5 := ne_of_beq_false h5
          have e := Eq.refl (S119_0 a0 a1 a2 (v1, v2)); conv at e => rhs; simp only [S119_0, h0, h1, h2, h3, h4, h5, cond_true, cond_false]
          rw [loopF_inl e]
          refine ba (t5 ++ [.d h5, .u 0, .F]) [] [1, 2, 3, 7, 8] [2] hcx (m := n) B119_0 (K119_0) (st119_0 a0 a1 a2 v1 (W (v2 + 1))) (by kernel_rfl) ?_
          have z0 : (W (v2 + 1)) = (v2 + 1) := W_eq (by omega) (by omega)
          rw [z0]
          exact ih v1 (v2 + 1) (by (try simp only [List.length_append, List.length_cons, List.length_nil, Int.toNat_zero]); omega) (by (try simp only [List.length_append, List.length_cons, List.length_nil, Int.toNat_zero]); omega)
        | false =>
         have q4 := ne_of_beq_false h4
         have e := Eq.refl (S119_0 a0 a1 a2 (v1, v2)); conv at e => rhs; simp only [S119_0, h0, h1, h2, h3, h4, cond_true, cond_false]
         rw [loopF_inl e]
         refine ba (t4 ++ [.d h4, .u 0, .F]) [] [1, 2, 3, 7, 8] [2] hcx (m := n) B119_0 (K119_0) (st119_0 a0 a1 a2 v1 (W (v2 + 1))) (by kernel_rfl) ?_
         have z0 : (W (v2 + 1)) = (v2 + 1) := W_eq (by omega) (by omega)
         rw [z0]
         exact ih v1 (v2 + 1) (by (try simp only [List.length_append, List.length_cons, List.length_nil, Int.toNat_zero]); omega) (by (try simp only [List.length_append, List.length_cons, List.length_nil, Int.toNat_zero]); omega)
      | false =>
       have q2 := ne_of_beq_false h2
       let t3 : List (St Tryz.prog) := (t2 ++ [.d h2, .u 0, .T, .i v2 (a0.2.length), .i 2 3 (by decide), .L c119_len a0.2 v2 2 1])
       cases h3 : (((a0.2.getD (Int.toNat v2) default).2.2 : Int) == a1) with
       | true =>
        have q3 := eq_of_beq h3
        let t4 : List (St Tryz.prog) := (t3 ++ [.d h3, .p (show (3 : Int) ≠ 0 from by decide), .i v2 (a0.2.length), .i 0 3 (by decide), .L c119_len a0.2 v2 0 1])
        cases h4 : (((a0.2.getD (Int.toNat v2) default).1 : Int) == a2) with
        | true =>
         have q4 := eq_of_beq h4
         have e := Eq.refl (S119_0 a0 a1 a2 (v1, v2)); conv at e => rhs; simp only [S119_0, h0, h1, h2, h3, h4, cond_true, cond_false]
         rw [loopF_inl e]
         refine ba (t4 ++ [.d h4, .u 0, .F]) [] [1, 2, 3, 7, 8] [2] hcx (m := n) B119_0 (K119_0) (st119_0 a0 a1 a2 (W (v1 + 1)) (W (v2 + 1))) (by kernel_rfl) ?_
         have z0 : (W (v2 + 1)) = (v2 + 1) := W_eq (by omega) (by omega)
         rw [z0]
         exact ih (W (v1 + 1)) (v2 + 1) (by (try simp only [List.length_append, List.length_cons, List.length_nil, Int.toNat_zero]); omega) (by (try simp only [List.length_append, List.length_cons, List.length_nil, Int.toNat_zero]); omega)
        | false =>
         have q4 := ne_of_beq_false h4
         have e := Eq.refl (S119_0 a0 a1 a2 (v1, v2)); conv at e => rhs; simp only [S119_0, h0, h1, h2, h3, h4, cond_true, cond_false]
         rw [loopF_inl e]
         refine ba (t4 ++ [.d h4, .u 0, .F]) [] [1, 2, 3, 7, 8] [2] hcx (m := n) B119_0 (K119_0) (st119_0 a0 a1 a2 v1 (W (v2 + 1))) (by kernel_rfl) ?_
         have z0 : (W (v2 + 1)) = (v2 + 1) := W_eq (by omega) (by omega)
         rw [z0]
         exact ih v1 (v2 + 1) (by (try simp only [List.length_append, List.length_cons, List.length_nil, Int.toNat_zero]); omega) (by (try simp only [List.length_append, List.length_cons, List.length_nil, Int.toNat_zero]); omega)
       | false =>
        have q3 := ne_of_beq_false h3
        have e := Eq.refl (S119_0 a0 a1 a2 (v1, v2)); conv at e => rhs; simp only [S119_0, h0, h1, h2, h3, cond_true, cond_false]
        rw [loopF_inl e]
        refine ba (t3 ++ [.d h3, .u 0, .F]) [] [1, 2, 3, 7, 8] [2] hcx (m := n) B119_0 (K119_0) (st119_0 a0 a1 a2 v1 (W (v2 + 1))) (by kernel_rfl) ?_
        have z0 : (W (v2 + 1)) = (v2 + 1) := W_eq (by omega) (by omega)
        rw [z0]
        exact ih v1 (v2 + 1) (by (try simp only [List.length_append, List.length_cons, List.length_nil, Int.toNat_zero]); omega) (by (try simp only [List.length_append, List.length_cons, List.length_nil, Int.toNat_zero]); omega)
    | false =>
     have q0 := of_decide_eq_false h0
     have e := Eq.refl (S119_0 a0 a1 a2 (v1, v2)); conv at e => rhs; simp only [S119_0, h0, cond_true, cond_false]
     rw [loopF_s, e]
     exact rt [.d h0] [] [] hcx (by kernel_rfl)

/-- facet/facetref02.edges -/
def F119 (a0 : (List (Int × Int × Int)) × List (Int × Int × Int)) (a1 : Int) (a2 : Int) : Int :=
  (loopF (S119_0 a0 a1 a2) (Int.toNat (((a0.2.length : Nat) : Int) - 0) + 1) (0, 0))

theorem C119 (a0 : (List (Int × Int × Int)) × List (Int × Int × Int)) (a1 : Int) (a2 : Int) (l0_1 : a0.1.length ≤ 9223372036854775807) (l0_2 : a0.2.length ≤ 9223372036854775807) : Con Tryz.prog 119 [(.a [(.s 0 0 a0.1.length 3), (.s 1 0 a0.2.length 3)]), (iv a1), (iv a2)] [(.live false true (flat c27 a0.1)), (.live false true (flat c119 a0.2))] (iv (F119 a0 a1 a2)) [] := by
  refine con_s Tryz.func119 (by kernel_rfl) fun cx hcx => ?_
  have e := Eq.refl (F119 a0 a1 a2); conv at e => rhs; simp only [F119]
  rw [e]
  refine en [] [] [1, 2, 3, 7, 8] [2] hcx B119_0 (K119_0) (st119_0 a0 a1 a2 0 0) (Int.toNat (((a0.2.length : Nat) : Int) - 0) + 1) (by kernel_rfl) ?_
  exact L119_0 a0 a1 a2 l0_1 l0_2 hcx (Int.toNat (((a0.2.length : Nat) : Int) - 0) + 1) 0 0 (by (try simp only [List.length_append, List.length_cons, List.length_nil, Int.toNat_zero]); omega) (by (try simp only [List.length_append, List.length_cons, List.length_nil, Int.toNat_zero]); omega)

noncomputable def B120_0 : Code := (loopAtD [1, 1, 0, 1] [] (bodyOf Tryz.f120) []).1
noncomputable def K120_0 : List K := (loopAtD [1, 1, 0, 1] [] (bodyOf Tryz.f120) []).2

def st120_0 (a0 : (List (Int × Int × Int)) × List (Int × Int × Int)) (v1 : Int) (v2 : Int) : LS := ⟨slN 27 [(1, (.p 2 0)), (3, (iv v1)), (4, (iv v2))], [(.live false true (flat c27 a0.1)), (.live false true (flat c119 a0.2)), (.live true false [(.s 0 0 a0.1.length 3), (.s 1 0 a0.2.length 3)])]⟩

/-- a round of loop 0 of facet/facetref02.volume; the variables: v1 = s3, v2 = s4 -/
def S120_0 (a0 : (List (Int × Int × Int)) × List (Int × Int × Int)) : Int × Int → (Int × Int) ⊕ (Int)
  | (v1, v2) =>
   (bif (decide ((v2 : Int) < ((a0.2.length : Nat) : Int))) then
    (.inl ((W (v1 + (F126 (F68 (a0.1, a0.2) v2).1 (F128 (F68 (a0.1, a0.2) v2).2.1 (F68 (a0.1, a0.2) v2).2.2)))), (v2 + 1)))
   else
    (.inr v1))

set_option maxHeartbeats 4000000 in
theorem L120_0 (a0 : (List (Int × Int × Int)) × List (Int × Int × Int)) (l0_1 : a0.1.length ≤ 9223372036854775807) (l0_2 : a0.2.length ≤ 9223372036854775807) (hv : okTo a0 a0.2.length) (hn : a0.2.length ≤ 96) {cx : Cx} (hcx : cx.base = 2) : ∀ (n : Nat) (v1 : Int) (v2 : Int), 0 ≤ v2 → Int.toNat (((a0.2.length : Nat) : Int) - v2) < n → Aw.Good Tryz.prog none 9 (bodyPost Tryz.prog Tryz.f120 (RR cx (iv (loopF (S120_0 a0) n (v1, v2))) [] [])) cx [] (.l B120_0 n :: K120_0) (st120_0 a0 v1 v2) := by
  intro n
  induction n with
  | zero => intro v1 v2 hi hn; exact absurd hn (Nat.not_lt_zero _)
  | succ n ih =>
    intro v1 v2 hi hn
    refine good_round ?_
    cases h0 : (decide ((v2 : Int) < ((a0.2.length : Nat) : Int))) with
    | true =>
     have q0 := of_decide_eq_true h0
     have e := Eq.refl (S120_0 a0 (v1, v2)); conv at e => rhs; simp only [S120_0, h0, cond_true, cond_false]
     rw [loopF_inl e]
     refine ba [.d h0, .c [0, 1] (C68 (a0.1, a0.2) v2 (by (try simp only [List.length_append, List.length_cons, List.length_nil, Int.toNat_zero]); omega) (by (try simp only [List.length_append, List.length_cons, List.length_nil, Int.toNat_zero]); omega) (by show 0 ≤ _ ∧ _ < ((a0.2.length : Nat) : Int); omega) (okTo_get hv (by omega) (by omega))), .c [] (C128 (F68 (a0.1, a0.2) v2).2.1 (F68 (a0.1, a0.2) v2).2.2), .c [] (C126 (F68 (a0.1, a0.2) v2).1 (F128 (F68 (a0.1, a0.2) v2).2.1 (F68 (a0.1, a0.2) v2).2.2))] [] [1, 3, 4] [2] hcx (m := n) B120_0 (K120_0) (st120_0 a0 (W (v1 + (F126 (F68 (a0.1, a0.2) v2).1 (F128 (F68 (a0.1, a0.2) v2).2.1 (F68 (a0.1, a0.2) v2).2.2)))) (W (v2 + 1))) (by kernel_rfl) ?_
     have z0 : (W (v2 + 1)) = (v2 + 1) := W_eq (by omega) (by omega)
     rw [z0]
     exact ih (W (v1 + (F126 (F68 (a0.1, a0.2) v2).1 (F128 (F68 (a0.1, a0.2) v2).2.1 (F68 (a0.1, a0.2) v2).2.2)))) (v2 + 1) (by (try simp only [List.length_append, List.length_cons, List.length_nil, Int.toNat_zero]); omega) (by (try simp only [List.length_append, List.length_cons, List.length_nil, Int.toNat_zero]); omega)
    | false =>
     have q0 := of_decide_eq_false h0
     have e := Eq.refl (S120_0 a0 (v1, v2)); conv at e => rhs; simp only [S120_0, h0, cond_true, cond_false]
     rw [loopF_s, e]
     exact rt [.d h0] [] [] hcx (by kernel_rfl)

/-- facet/facetref02.volume -/
def F120 (a0 : (List (Int × Int × Int)) × List (Int × Int × Int)) : Int :=
  (loopF (S120_0 a0) (Int.toNat (((a0.2.length : Nat) : Int) - 0) + 1) (0, 0))

theorem C120 (a0 : (List (Int × Int × Int)) × List (Int × Int × Int)) (l0_1 : a0.1.length ≤ 9223372036854775807) (l0_2 : a0.2.length ≤ 9223372036854775807) (hv : okTo a0 a0.2.length) (hn : a0.2.length ≤ 96) : Con Tryz.prog 120 [(.a [(.s 0 0 a0.1.length 3), (.s 1 0 a0.2.length 3)])] [(.live false true (flat c27 a0.1)), (.live false true (flat c119 a0.2))] (iv (F120 a0)) [] := by
  refine con_s Tryz.func120 (by kernel_rfl) fun cx hcx => ?_
  have e := Eq.refl (F120 a0); conv at e => rhs; simp only [F120]
  rw [e]
  refine en [] [] [1, 3, 4] [2] hcx B120_0 (K120_0) (st120_0 a0 0 0) (Int.toNat (((a0.2.length : Nat) : Int) - 0) + 1) (by kernel_rfl) ?_
  exact L120_0 a0 l0_1 l0_2 hv hn hcx (Int.toNat (((a0.2.length : Nat) : Int) - 0) + 1) 0 0 (by (try simp only [List.length_append, List.length_cons, List.length_nil, Int.toNat_zero]); omega) (by (try simp only [List.length_append, List.length_cons, List.length_nil, Int.toNat_zero]); omega)

noncomputable def B67_1 : Code := (loopAtD [1, 1, 0, 1, 0, 1, 0, 1, 1] [0] (bodyOf Tryz.f67) []).1
noncomputable def K67_1 (m0 : Nat) : List K := (loopAtD [1, 1, 0, 1, 0, 1, 0, 1, 1] [m0] (bodyOf Tryz.f67) []).2

def st67_1 (a0 : (List (Int × Int × Int)) × List (Int × Int × Int)) (v3 : Int) (v4 : Int) : LS := ⟨slN 148 [(1, (.p 2 0)), (3, (iv v3)), (4, (iv v4))], [(.live false true (flat c27 a0.1)), (.live false true (flat c119 a0.2)), (.live true false [(.s 0 0 a0.1.length 3), (.s 1 0 a0.2.length 3)])]⟩

/-- a round of loop 1 of facet/facetref02.Validate; the variables: v3 = s3, v4 = s4 -/
def S67_1 (a0 : (List (Int × Int × Int)) × List (Int × Int × Int)) : Int × Int → (Int × Int) ⊕ ((Int) ⊕ (Int))
  | (v3, v4) =>
   (bif (decide ((v4 : Int) < v3)) then
    (bif ((((a0.1.getD (Int.toNat v3) default).1 : Int) == (a0.1.getD (Int.toNat v4) default).1) && ((((a0.1.getD (Int.toNat v3) default).2.1 : Int) == (a0.1.getD (Int.toNat v4) default).2.1) && ((((a0.1.getD (Int.toNat v3) default).2.2 : Int) == (a0.1.getD (Int.toNat v4) default).2.2) && true))) then
     (.inr (.inr 1))
    else
     (.inl (v3, (v4 + 1))))
   else
    (.inr (.inl (v3 + 1))))

noncomputable def B67_6 : Code := (loopAtD [1, 1, 1, 1, 1, 1, 0, 1] [] (bodyOf Tryz.f67) []).1
noncomputable def K67_6 : List K := (loopAtD [1, 1, 1, 1, 1, 1, 0, 1] [] (bodyOf Tryz.f67) []).2

def st67_6 (a0 : (List (Int × Int × Int)) × List (Int × Int × Int)) (v11c : List SV) (v11n : Nat) (v12 : Int) : LS := ⟨slN 148 [(1, (.p 2 0)), (5, (.s 3 0 v11n 1)), (13, (iv v12))], [(.live false true (flat c27 a0.1)), (.live false true (flat c119 a0.2)), (.live true false [(.s 0 0 a0.1.length 3), (.s 1 0 a0.2.length 3)]), (.live true true v11c)]⟩

/-- a round of loop 6 of facet/facetref02.Validate; the variables: v11 = s5, v12 = s13 -/
def S67_6 (a0 : (List (Int × Int × Int)) × List (Int × Int × Int)) : List (Bool) × Int → (List (Bool) × Int) ⊕ (Int)
  | (v11, v12) =>
   (bif (decide ((v12 : Int) < ((v11.length : Nat) : Int))) then
    (bif (!(v11.getD (Int.toNat v12) default)) then
     (.inr 5)
    else
     (.inl (v11, (v12 + 1))))
   else
    (bif (decide (((F120 (a0.1, a0.2)) : Int) ≤ 0)) then
     (.inr 8)
    else
     (.inr 0)))

noncomputable def B67_4 : Code := (loopAtD [1, 1, 1, 1, 1, 0, 1] [] (bodyOf Tryz.f67) []).1
noncomputable def K67_4 : List K := (loopAtD [1, 1, 1, 1, 1, 0, 1] [] (bodyOf Tryz.f67) []).2

def st67_4 (a0 : (List (Int × Int × Int)) × List (Int × Int × Int)) (v8c : List SV) (v8n : Nat) (v9 : Int) : LS := ⟨slN 148 [(1, (.p 2 0)), (5, (.s 3 0 v8n 1)), (9, (iv v9))], [(.live false true (flat c27 a0.1)), (.live false true (flat c119 a0.2)), (.live true false [(.s 0 0 a0.1.length 3), (.s 1 0 a0.2.length 3)]), (.live true true v8c)]⟩

/-- a round of loop 4 of facet/facetref02.Validate; the variables: v8 = s5, v9 = s9 -/
def S67_4 (a0 : (List (Int × Int × Int)) × List (Int × Int × Int)) : List (Bool) × Int → (List (Bool) × Int) ⊕ (Int)
  | (v8, v9) =>
   (bif (decide ((v9 : Int) < ((a0.2.length : Nat) : Int))) then
    (bif (((F119 (a0.1, a0.2) (a0.2.getD (Int.toNat v9) default).1 (a0.2.getD (Int.toNat v9) default).2.1) : Int) != 1) then
     (.inr 7)
    else
     (bif (((F119 (a0.1, a0.2) (a0.2.getD (Int.toNat v9) default).2.1 (a0.2.getD (Int.toNat v9) default).1) : Int) != 1) then
      (.inr 7)
     else
      (bif (((F119 (a0.1, a0.2) (a0.2.getD (Int.toNat v9) default).2.1 (a0.2.getD (Int.toNat v9) default).2.2) : Int) != 1) then
       (.inr 7)
      else
       (bif (((F119 (a0.1, a0.2) (a0.2.getD (Int.toNat v9) default).2.2 (a0.2.getD (Int.toNat v9) default).2.1) : Int) != 1) then
        (.inr 7)
       else
        (bif (((F119 (a0.1, a0.2) (a0.2.getD (Int.toNat v9) default).2.2 (a0.2.getD (Int.toNat v9) default).1) : Int) != 1) then
         (.inr 7)
        else
         (bif (((F119 (a0.1, a0.2) (a0.2.getD (Int.toNat v9) default).1 (a0.2.getD (Int.toNat v9) default).2.2) : Int) != 1) then
          (.inr 7)
         else
          (.inl (v8, (v9 + 1)))))))))
   else
    (.inr (loopF (S67_6 a0) (Int.toNat (((v8.length : Nat) : Int) - 0) + 1) (v8, 0))))

noncomputable def B67_2 : Code := (loopAtD [1, 1, 1, 1, 0, 1] [] (bodyOf Tryz.f67) []).1
noncomputable def K67_2 : List K := (loopAtD [1, 1, 1, 1, 0, 1] [] (bodyOf Tryz.f67) []).2

def st67_2 (a0 : (List (Int × Int × Int)) × List (Int × Int × Int)) (v5c : List SV) (v5n : Nat) (v6 : Int) : LS := ⟨slN 148 [(1, (.p 2 0)), (5, (.s 3 0 v5n 1)), (6, (iv v6))], [(.live false true (flat c27 a0.1)), (.live false true (flat c119 a0.2)), (.live true false [(.s 0 0 a0.1.length 3), (.s 1 0 a0.2.length 3)]), (.live true true v5c)]⟩

/-- a round of loop 2 of facet/facetref02.Validate; the variables: v5 = s5, v6 = s6 -/
def S67_2 (a0 : (List (Int × Int × Int)) × List (Int × Int × Int)) : List (Bool) × Int → (List (Bool) × Int) ⊕ (Int)
  | (v5, v6) =>
   (bif (decide ((v6 : Int) < ((a0.2.length : Nat) : Int))) then
    (bif (decide (((a0.2.getD (Int.toNat v6) default).1 : Int) < 0)) then
     (.inr 5)
    else
     (bif (decide (((a0.2.getD (Int.toNat v6) default).1 : Int) ≥ ((a0.1.length : Nat) : Int))) then
      (.inr 5)
     else
      (bif (decide (((a0.2.getD (Int.toNat v6) default).2.1 : Int) < 0)) then
       (.inr 5)
      else
       (bif (decide (((a0.2.getD (Int.toNat v6) default).2.1 : Int) ≥ ((a0.1.length : Nat) : Int))) then
        (.inr 5)
       else
        (bif (decide (((a0.2.getD (Int.toNat v6) default).2.2 : Int) < 0)) then
         (.inr 5)
        else
         (bif (decide (((a0.2.getD (Int.toNat v6) default).2.2 : Int) ≥ ((a0.1.length : Nat) : Int))) then
          (.inr 5)
         else
          (bif ((((F118 (F68 (a0.1, a0.2) v6)).1 : Int) == 0) && ((((F118 (F68 (a0.1, a0.2) v6)).2.1 : Int) == 0) && ((((F118 (F68 (a0.1, a0.2) v6)).2.2 : Int) == 0) && true))) then
           (.inr 6)
          else
           (.inl ((((v5.set (Int.toNat (a0.2.getD (Int.toNat v6) default).1) true).set (Int.toNat (a0.2.getD (Int.toNat v6) default).2.1) true).set (Int.toNat (a0.2.getD (Int.toNat v6) default).2.2) true), (v6 + 1))))))))))
   else
    (.inr (loopF (S67_4 a0) (Int.toNat (((a0.2.length : Nat) : Int) - 0) + 1) (v5, 0))))

noncomputable def B67_0 : Code := (loopAtD [1, 1, 0, 1] [] (bodyOf Tryz.f67) []).1
noncomputable def K67_0 : List K := (loopAtD [1, 1, 0, 1] [] (bodyOf Tryz.f67) []).2

def st67_0 (a0 : (List (Int × Int × Int)) × List (Int × Int × Int)) (v1 : Int) : LS := ⟨slN 148 [(1, (.p 2 0)), (3, (iv v1))], [(.live false true (flat c27 a0.1)), (.live false true (flat c119 a0.2)), (.live true false [(.s 0 0 a0.1.length 3), (.s 1 0 a0.2.length 3)])]⟩

/-- a round of loop 0 of facet/facetref02.Validate; the variables: v1 = s3 -/
def S67_0 (a0 : (List (Int × Int × Int)) × List (Int × Int × Int)) : Int → (Int) ⊕ (Int)
  | v1 =>
   (bif (decide ((v1 : Int) < ((a0.1.length : Nat) : Int))) then
    (bif (!(F117 (a0.1.getD (Int.toNat v1) default) 64)) then
     (.inr 1)
    else
     (loopF (S67_1 a0) (Int.toNat (v1 - 0) + 1) (v1, 0)))
   else
    (.inr (loopF (S67_2 a0) (Int.toNat (((a0.2.length : Nat) : Int) - 0) + 1) ((List.replicate (Int.toNat ((a0.1.length : Nat) : Int)) false), 0))))

set_option maxHeartbeats 4000000 in
theorem L67_1 (a0 : (List (Int × Int × Int)) × List (Int × Int × Int)) (l0_1 : a0.1.length ≤ 9223372036854775807) (l0_2 : a0.2.length ≤ 9223372036854775807) {cx : Cx} (hcx : cx.base = 2)
    (n0 : Nat) (g0 : ∀ (v1 : Int), (0 ≤ v1) ∧ (a0.1.length ≤ 64) ∧ (a0.2.length ≤ 96) → Int.toNat (((a0.1.length : Nat) : Int) - v1) < n0 → Aw.Good Tryz.prog none 9 (bodyPost Tryz.prog Tryz.f67 (RR cx (iv (loopF (S67_0 a0) n0 v1)) [] [])) cx [] (.l B67_0 n0 :: K67_0) (st67_0 a0 v1)) : ∀ (n : Nat) (v3 : Int) (v4 : Int), (0 ≤ v4) ∧ ((0 ≤ v3)) ∧ ((a0.1.length ≤ 64)) ∧ ((a0.2.length ≤ 96)) ∧ (v3 < ((a0.1.length : Nat) : Int)) ∧ (Int.toNat (((a0.1.length : Nat) : Int) - v3) < n0 + 1) → Int.toNat (v3 - v4) < n → Aw.Good Tryz.prog none 9 (bodyPost Tryz.prog Tryz.f67 (RR cx (iv (thenF (S67_0 a0) n0 (loopF (S67_1 a0) n (v3, v4)))) [] [])) cx [] (.l B67_1 n :: K67_1 n0) (st67_1 a0 v3 v4) := by
  intro n
  induction n with
  | zero => intro v3 v4 hi hn; exact absurd hn (Nat.not_lt_zero _)
  | succ n ih =>
    intro v3 v4 hi hn
    refine good_round ?_
    cases h0 : (decide ((v4 : Int) < v3)) with
    | true =>
     have q0 := of_decide_eq_true h0
     let t1 : List (St Tryz.prog) := [.d h0, .i v3 (a0.1.length), .L c27_len a0.1 v3 0 3, .i v4 (a0.1.length), .L c27_len a0.1 v4 0 3]
     cases h1 : ((((a0.1.getD (Int.toNat v3) default).1 : Int) == (a0.1.getD (Int.toNat v4) default).1) && ((((a0.1.getD (Int.toNat v3) default).2.1 : Int) == (a0.1.getD (Int.toNat v4) default).2.1) && ((((a0.1.getD (Int.toNat v3) default).2.2 : Int) == (a0.1.getD (Int.toNat v4) default).2.2) && true))) with
     | true =>
      have e := Eq.refl (S67_1 a0 (v3, v4)); conv at e => rhs; simp only [S67_1, h0, h1, cond_true, cond_false]
      rw [loopF_s, e]
      exact rt (t1 ++ [.d h1]) [] [] hcx (by kernel_rfl)
     | false =>
      have e := Eq.refl (S67_1 a0 (v3, v4)); conv at e => rhs; simp only [S67_1, h0, h1, cond_true, cond_false]
      rw [loopF_inl e]
      refine ba (t1 ++ [.d h1]) [] [1, 3, 4] [2] hcx (m := n) B67_1 (K67_1 n0) (st67_1 a0 v3 (W (v4 + 1))) (by kernel_rfl) ?_
      have z0 : (W (v4 + 1)) = (v4 + 1) := W_eq (by omega) (by omega)
      rw [z0]
      exact ih v3 (v4 + 1) (by refine ⟨?_, ?_, ?_, ?_, ?_, ?_⟩ <;> (try simp only [List.length_append, List.length_cons, List.length_nil, Int.toNat_zero]) <;> first | omega | assumption | exact hi.2.1 | exact hi.2.2.1 | exact hi.2.2.2.1 | exact hi.2.2.2.2.1 | exact hi.2.2.2.2.2.1 | simp) (by (try simp only [List.length_append, List.length_cons, List.length_nil, Int.toNat_zero]); omega)
    | false =>
     have q0 := of_decide_eq_false h0
     have e := Eq.refl (S67_1 a0 (v3, v4)); conv at e => rhs; simp only [S67_1, h0, cond_true, cond_false]
     rw [loopF_s, e]
     refine ba [.d h0] [] [1, 3] [2] hcx (m := n0) B67_0 (K67_0) (st67_0 a0 (W (v3 + 1))) (by kernel_rfl) ?_
     have z0 : (W (v3 + 1)) = (v3 + 1) := W_eq (by omega) (by omega)
     rw [z0]
     exact g0 (v3 + 1) (by refine ⟨?_, ?_, ?_⟩ <;> (try simp only [List.length_append, List.length_cons, List.length_nil, Int.toNat_zero]) <;> first | omega | assumption | simp) (by (try simp only [List.length_append, List.length_cons, List.length_nil, Int.toNat_zero]); omega)

set_option maxHeartbeats 4000000 in
theorem L67_6 (a0 : (List (Int × Int × Int)) × List (Int × Int × Int)) (l0_1 : a0.1.length ≤ 9223372036854775807) (l0_2 : a0.2.length ≤ 9223372036854775807) {cx : Cx} (hcx : cx.base = 2) : ∀ (n : Nat) (v11 : List (Bool)) (v12 : Int), (0 ≤ v12) ∧ (okTo a0 a0.2.length) ∧ (a0.1.length ≤ 64) ∧ (a0.2.length ≤ 96) ∧ (v11.length = a0.1.length) → Int.toNat (((v11.length : Nat) : Int) - v12) < n → Aw.Good Tryz.prog none 9 (bodyPost Tryz.prog Tryz.f67 (RR cx (iv (loopF (S67_6 a0) n (v11, v12))) [] [])) cx [] (.l B67_6 n :: K67_6) (st67_6 a0 (flat c4 v11) v11.length v12) := by
  intro n
  induction n with
  | zero => intro v11 v12 hi hn; exact absurd hn (Nat.not_lt_zero _)
  | succ n ih =>
    intro v11 v12 hi hn
    refine good_round ?_
    cases h0 : (decide ((v12 : Int) < ((v11.length : Nat) : Int))) with
    | true =>
     have q0 := of_decide_eq_true h0
     let t1 : List (St Tryz.prog) := [.d h0, .i v12 (v11.length), .L c4_len v11 v12 0 1]
     cases h1 : (!(v11.getD (Int.toNat v12) default)) with
     | true =>
      have e := Eq.refl (S67_6 a0 (v11, v12)); conv at e => rhs; simp only [S67_6, h0, h1, cond_true, cond_false]
      rw [loopF_s, e]
      exact rt (t1 ++ [.d h1]) [] [] hcx (by kernel_rfl)
     | false =>
      have e := Eq.refl (S67_6 a0 (v11, v12)); conv at e => rhs; simp only [S67_6, h0, h1, cond_true, cond_false]
      rw [loopF_inl e]
      refine ba (t1 ++ [.d h1]) [] [1, 5, 13] [2, 3] hcx (m := n) B67_6 (K67_6) (st67_6 a0 (flat c4 v11) (v11.length) (W (v12 + 1))) (by kernel_rfl) ?_
      have z0 : (W (v12 + 1)) = (v12 + 1) := W_eq (by omega) (by omega)
      rw [z0]
      exact ih v11 (v12 + 1) (by refine ⟨?_, ?_, ?_, ?_, ?_⟩ <;> first | omega | assumption | exact okTo_0 | exact hi.2.1 | exact hi.2.2.1 | exact okTo_le hi.2.2.1 (by omega) | exact okTo_s hi.2.2.1 hfo | exact okTo_s hi.2.2.1 (by refine ⟨⟨?_, ?_⟩, ⟨?_, ?_⟩, ?_, ?_⟩ <;> omega) | (simp only [List.length_replicate, List.length_set]; omega)) (by (try simp only [List.length_append, List.length_cons, List.length_nil, Int.toNat_zero]); omega)
    | false =>
     have q0 := of_decide_eq_false h0
     let t1 : List (St Tryz.prog) := [.d h0, .c [0, 1] (C120 (a0.1, a0.2) (by (try simp only [List.length_append, List.length_cons, List.length_nil, Int.toNat_zero]); omega) (by (try simp only [List.length_append, List.length_cons, List.length_nil, Int.toNat_zero]); omega) hi.2.1 (by show a0.2.length ≤ 96; omega))]
     cases h1 : (decide (((F120 (a0.1, a0.2)) : Int) ≤ 0)) with
     | true =>
      have q1 := of_decide_eq_true h1
      have e := Eq.refl (S67_6 a0 (v11, v12)); conv at e => rhs; simp only [S67_6, h0, h1, cond_true, cond_false]
      rw [loopF_s, e]
      exact rt (t1 ++ [.d h1]) [] [] hcx (by kernel_rfl)
     | false =>
      have q1 := of_decide_eq_false h1
      have e := Eq.refl (S67_6 a0 (v11, v12)); conv at e => rhs; simp only [S67_6, h0, h1, cond_true, cond_false]
      rw [loopF_s, e]
      exact rt (t1 ++ [.d h1]) [] [] hcx (by kernel_rfl)

set_option maxHeartbeats 4000000 in
theorem L67_4 (a0 : (List (Int × Int × Int)) × List (Int × Int × Int)) (l0_1 : a0.1.length ≤ 9223372036854775807) (l0_2 : a0.2.length ≤ 9223372036854775807) {cx : Cx} (hcx : cx.base = 2) : ∀ (n : Nat) (v8 : List (Bool)) (v9 : Int), (0 ≤ v9) ∧ (okTo a0 a0.2.length) ∧ (a0.1.length ≤ 64) ∧ (a0.2.length ≤ 96) ∧ (v8.length = a0.1.length) → Int.toNat (((a0.2.length : Nat) : Int) - v9) < n → Aw.Good Tryz.prog none 9 (bodyPost Tryz.prog Tryz.f67 (RR cx (iv (loopF (S67_4 a0) n (v8, v9))) [] [])) cx [] (.l B67_4 n :: K67_4) (st67_4 a0 (flat c4 v8) v8.length v9) := by
  intro n
  induction n with
  | zero => intro v8 v9 hi hn; exact absurd hn (Nat.not_lt_zero _)
  | succ n ih =>
    intro v8 v9 hi hn
    refine good_round ?_
    cases h0 : (decide ((v9 : Int) < ((a0.2.length : Nat) : Int))) with
    | true =>
     have q0 := of_decide_eq_true h0
     let t1 : List (St Tryz.prog) := [.d h0, .u 200, .T, .i v9 (a0.2.length), .i 0 3 (by decide), .L c119_len a0.2 v9 0 1, .p (show (3 : Int) ≠ 0 from by decide), .i v9 (a0.2.length), .i 1 3 (by decide), .L c119_len a0.2 v9 1 1, .c [0, 1] (C119 (a0.1, a0.2) (a0.2.getD (Int.toNat v9) default).1 (a0.2.getD (Int.toNat v9) default).2.1 (by (try simp only [List.length_append, List.length_cons, List.length_nil, Int.toNat_zero]); omega) (by (try simp only [List.length_append, List.length_cons, List.length_nil, Int.toNat_zero]); omega))]
     cases h1 : (((F119 (a0.1, a0.2) (a0.2.getD (Int.toNat v9) default).1 (a0.2.getD (Int.toNat v9) default).2.1) : Int) != 1) with
     | true =>
      have q1 := bne_iff_ne.1 h1
      have e := Eq.refl (S67_4 a0 (v8, v9)); conv at e => rhs; simp only [S67_4, h0, h1, cond_true, cond_false]
      rw [loopF_s, e]
      exact rt (t1 ++ [.d h1]) [] [] hcx (by kernel_rfl)
     | false =>
      have q1 := bne_eq_false_iff_eq.1 h1
      let t2 : List (St Tryz.prog) := (t1 ++ [.d h1, .c [0, 1] (C119 (a0.1, a0.2) (a0.2.getD (Int.toNat v9) default).2.1 (a0.2.getD (Int.toNat v9) default).1 (by (try simp only [List.length_append, List.length_cons, List.length_nil, Int.toNat_zero]); omega) (by (try simp only [List.length_append, List.length_cons, List.length_nil, Int.toNat_zero]); omega))])
      cases h2 : (((F119 (a0.1, a0.2) (a0.2.getD (Int.toNat v9) default).2.1 (a0.2.getD (Int.toNat v9) default).1) : Int) != 1) with
      | true =>
       have q2 := bne_iff_ne.1 h2
       have e := Eq.refl (S67_4 a0 (v8, v9)); conv at e => rhs; simp only [S67_4, h0, h1, h2, cond_true, cond_false]
       rw [loopF_s, e]
       exact rt (t2 ++ [.d h2]) [] [] hcx (by kernel_rfl)
      | false =>
       have q2 := bne_eq_false_iff_eq.1 h2
       let t3 : List (St Tryz.prog) := (t2 ++ [.d h2, .u 0, .T, .i v9 (a0.2.length), .i 1 3 (by decide), .L c119_len a0.2 v9 1 1, .p (show (3 : Int) ≠ 0 from by decide), .i v9 (a0.2.length), .i 2 3 (by decide), .L c119_len a0.2 v9 2 1, .c [0, 1] (C119 (a0.1, a0.2) (a0.2.getD (Int.toNat v9) default).2.1 (a0.2.getD (Int.toNat v9) default).2.2 (by (try simp only [List.length_append, List.length_cons, List.length_nil, Int.toNat_zero]); omega) (by (try simp only [List.length_append, List.length_cons, List.length_nil, Int.toNat_zero]); omega))])
       cases h3 : (((F119 (a0.1, a0.2) (a0.2.getD (Int.toNat v9) default).2.1 (a0.2.getD (Int.toNat v9) default).2.2) : Int) != 1) with
       | true =>
        have q3 := bne_iff_ne.1 h3
        have e := Eq.refl (S67_4 a0 (v8, v9)); conv at e => rhs; simp only [S67_4, h0, h1, h2, h3, cond_true, cond_false]
        rw [loopF_s, e]
        exact rt (t3 ++ [.d h3]) [] [] hcx (by kernel_rfl)
       | false =>
        have q3 := bne_eq_false_iff_eq.1 h3
        let t4 : List (St Tryz.prog) := (t3 ++ [.d h3, .c [0, 1] (C119 (a0.1, a0.2) (a0.2.getD (Int.toNat v9) default).2.2 (a0.2.getD (Int.toNat v9) default).2.1 (by (try simp only [List.length_append, List.length_cons, List.length_nil, Int.toNat_zero]); omega) (by (try simp only [List.length_append, List.length_cons, List.length_nil, Int.toNat_zero]); omega))])
        cases h4 : (((F119 (a0.1, a0.2) (a0.2.getD (Int.toNat v9) default).2.2 (a0.2.getD (Int.toNat v9) default).2.1) : Int) != 1) with
        | true =>
         have q4 := bne_iff_ne.1 h4
         have e := Eq.refl (S67_4 a0 (v8, v9)); conv at e => rhs; simp only [S67_4, h0, h1, h2, h3, h4, cond_true, cond_false]
         rw [loopF_s, e]
         exact rt (t4 ++ [.d h4]) [] [] hcx (by kernel_rfl)
        | false =>
         have q4 := bne_eq_false_iff_eq.1 h4
         let t5 : List (St Tryz.prog) := (t4 ++ [.d h4, .u 0, .T, .i v9 (a0.2.length), .i 2 3 (by decide), .L c119_len a0.2 v9 2 1, .p (show (3 : Int) ≠ 0 from by decide), .i v9 (a0.2.length), .i 0 3 (by decide), .L c119_len a0.2 v9 0 1, .c [0, 1] (C119 (a0.1, a0.2) (a0.2.getD (Int.toNat v9) default).2.2 (a0.2.getD (Int.toNat v9) default).1 (by (try simp only [List.length_append, List.length_cons, List.length_nil, Int.toNat_zero]); omega) (by (try simp only [List.length_append, List.length_cons, List.length_nil, Int.toNat_zero]); omega))])
         cases h5 : (((F119 (a0.1, a0.2) (a0.2.getD (Int.toNat v9) default).2.2 (a0.2.getD (Int.toNat v9) default).1) : Int) != 1) with
         | true =>
          have q5 := bne_iff_ne.1 h5
          have e := Eq.refl (S67_4 a0 (v8, v9)); conv at e => rhs; simp only [S67_4, h0, h1, h2, h3, h4, h5, cond_true, cond_false]
          rw [loopF_s, e]
          exact rt (t5 ++ [.d h5]) [] [] hcx (by kernel_rfl)
         | false =>
          have q5 := bne_eq_false_iff_eq.1 h5
          let t6 : List (St Tryz.prog) := (t5 ++ [.d h5, .c [0, 1] (C119 (a0.1, a0.2) (a0.2.getD (Int.toNat v9) default).1 (a0.2.getD (Int.toNat v9) default).2.2 (by (try simp only [List.length_append, List.length_cons, List.length_nil, Int.toNat_zero]); omega) (by (try simp only [List.length_append, List.length_cons, List.length_nil, Int.toNat_zero]); omega))])
          cases h6 : (((F119 (a0.1, a0.2) (a0.2.getD (Int.toNat v9) default).1 (a0.2.getD (Int.toNat v9) default).2.2) : Int) != 1) with
          | true =>
           have q6 := bne_iff_ne.1 h6
           have e := Eq.refl (S67_4 a0 (v8, v9)); conv at e => rhs; simp only [S67_4, h0, h1, h2, h3, h4, h5, h6, cond_true, cond_false]
           rw [loopF_s, e]
           exact rt (t6 ++ [.d h6]) [] [] hcx (by kernel_rfl)
          | false =>
           have q6 := bne_eq_false_iff_eq.1 h6
           have e := Eq.refl (S67_4 a0 (v8, v9)); conv at e => rhs; simp only [S67_4, h0, h1, h2, h3, h4, h5, h6, cond_true, cond_false]
           rw [loopF_inl e]
           refine ba (t6 ++ [.d h6, .u 0, .F]) [] [1, 5, 9] [2, 3] hcx (m := n) B67_4 (K67_4) (st67_4 a0 (flat c4 v8) (v8.length) (W (v9 + 1))) (by kernel_rfl) ?_
           have z0 : (W (v9 + 1)) = (v9 + 1) := W_eq (by omega) (by omega)
           rw [z0]
           exact ih v8 (v9 + 1) (by refine ⟨?_, ?_, ?_, ?_, ?_⟩ <;> first | omega | assumption | exact okTo_0 | exact hi.2.1 | exact hi.2.2.1 | exact okTo_le hi.2.2.1 (by omega) | exact okTo_s hi.2.2.1 hfo | exact okTo_s hi.2.2.1 (by refine ⟨⟨?_, ?_⟩, ⟨?_, ?_⟩, ?_, ?_⟩ <;> omega) | (simp only [List.length_replicate, List.length_set]; omega)) (by (try simp only [List.length_append, List.length_cons, List.length_nil, Int.toNat_zero]); omega)
    | false =>
     have q0 := of_decide_eq_false h0
     have e := Eq.refl (S67_4 a0 (v8, v9)); conv at e => rhs; simp only [S67_4, h0, cond_true, cond_false]
     rw [loopF_s, e]
     refine en [.d h0] [] [1, 5, 13] [2, 3] hcx B67_6 (K67_6) (st67_6 a0 (flat c4 v8) (v8.length) 0) (Int.toNat (((v8.length : Nat) : Int) - 0) + 1) (by kernel_rfl) ?_
     exact L67_6 a0 l0_1 l0_2 hcx (Int.toNat (((v8.length : Nat) : Int) - 0) + 1) v8 0 (by refine ⟨?_, ?_, ?_, ?_, ?_⟩ <;> first | omega | assumption | exact okTo_0 | exact hi.2.1 | exact hi.2.2.1 | exact okTo_le hi.2.2.1 (by omega) | exact okTo_s hi.2.2.1 hfo | exact okTo_s hi.2.2.1 (by refine ⟨⟨?_, ?_⟩, ⟨?_, ?_⟩, ?_, ?_⟩ <;> omega) | (simp only [List.length_replicate, List.length_set]; omega)) (by (try simp only [List.length_append, List.length_cons, List.length_nil, Int.toNat_zero]); omega)

set_option maxHeartbeats 4000000 in
theorem L67_2 (a0 : (List (Int × Int × Int)) × List (Int × Int × Int)) (l0_1 : a0.1.length ≤ 9223372036854775807) (l0_2 : a0.2.length ≤ 9223372036854775807) {cx : Cx} (hcx : cx.base = 2) : ∀ (n : Nat) (v5 : List (Bool)) (v6 : Int), (0 ≤ v6) ∧ (v5.length = a0.1.length) ∧ (okTo a0 v6) ∧ (v6 ≤ a0.2.length) ∧ (a0.1.length ≤ 64) ∧ (a0.2.length ≤ 96) → Int.toNat (((a0.2.length : Nat) : Int) - v6) < n → Aw.Good Tryz.prog none 9 (bodyPost Tryz.prog Tryz.f67 (RR cx (iv (loopF (S67_2 a0) n (v5, v6))) [] [])) cx [] (.l B67_2 n :: K67_2) (st67_2 a0 (flat c4 v5) v5.length v6) := by
  intro n
  induction n with
  | zero => intro v5 v6 hi hn; exact absurd hn (Nat.not_lt_zero _)
  | succ n ih =>
    intro v5 v6 hi hn
    refine good_round ?_
    cases h0 : (decide ((v6 : Int) < ((a0.2.length : Nat) : Int))) with
    | true =>
     have q0 := of_decide_eq_true h0
     let t1 : List (St Tryz.prog) := [.d h0, .u 200, .T, .i v6 (a0.2.length), .i 0 3 (by decide), .L c119_len a0.2 v6 0 1]
     cases h1 : (decide (((a0.2.getD (Int.toNat v6) default).1 : Int) < 0)) with
     | true =>
      have q1 := of_decide_eq_true h1
      have e := Eq.refl (S67_2 a0 (v5, v6)); conv at e => rhs; simp only [S67_2, h0, h1, cond_true, cond_false]
      rw [loopF_s, e]
      exact rt (t1 ++ [.d h1]) [] [] hcx (by kernel_rfl)
     | false =>
      have q1 := of_decide_eq_false h1
      let t2 : List (St Tryz.prog) := (t1 ++ [.d h1])
      cases h2 : (decide (((a0.2.getD (Int.toNat v6) default).1 : Int) ≥ ((a0.1.length : Nat) : Int))) with
      | true =>
       have q2 := of_decide_eq_true h2
       have e := Eq.refl (S67_2 a0 (v5, v6)); conv at e => rhs; simp only [S67_2, h0, h1, h2, cond_true, cond_false]
       rw [loopF_s, e]
       exact rt (t2 ++ [.d h2]) [] [] hcx (by kernel_rfl)
      | false =>
       have q2 := of_decide_eq_false h2
       let t3 : List (St Tryz.prog) := (t2 ++ [.d h2, .i ((a0.2.getD (Int.toNat v6) default).1) (v5.length), .p (show ((0 + Int.toNat (a0.2.getD (Int.toNat v6) default).1 * 1) + 1 ≤ (flat c4 v5).length) from (flat_setl c4_len (by first | omega | (simp only [List.length_set]; omega)) (i := Int.toNat (a0.2.getD (Int.toNat v6) default).1) (o := 0) (n := 1) (Nat.le_of_ble_eq_true rfl))), .u 0, .T, .i v6 (a0.2.length), .i 1 3 (by decide), .L c119_len a0.2 v6 1 1])
       cases h3 : (decide (((a0.2.getD (Int.toNat v6) default).2.1 : Int) < 0)) with
       | true =>
        have q3 := of_decide_eq_true h3
        have e := Eq.refl (S67_2 a0 (v5, v6)); conv at e => rhs; simp only [S67_2, h0, h1, h2, h3, cond_true, cond_false]
        rw [loopF_s, e]
        exact rt (t3 ++ [.d h3]) [] [] hcx (by kernel_rfl)
       | false =>
        have q3 := of_decide_eq_false h3
        let t4 : List (St Tryz.prog) := (t3 ++ [.d h3])
        cases h4 : (decide (((a0.2.getD (Int.toNat v6) default).2.1 : Int) ≥ ((a0.1.length : Nat) : Int))) with
        | true =>
         have q4 := of_decide_eq_true h4
         have e := Eq.refl (S67_2 a0 (v5, v6)); conv at e => rhs; simp only [S67_2, h0, h1, h2, h3, h4, cond_true, cond_false]
         rw [loopF_s, e]
         exact rt (t4 ++ [.d h4]) [] [] hcx (by kernel_rfl)
        | false =>
         have q4 := of_decide_eq_false h4
         let t5 : List (St Tryz.prog) := (t4 ++ [.d h4, .i ((a0.2.getD (Int.toNat v6) default).2.1) (v5.length), .p (show ((0 + Int.toNat (a0.2.getD (Int.toNat v6) default).2.1 * 1) + 1 ≤ (splice (flat c4 v5) (0 + Int.toNat (a0.2.getD (Int.toNat v6) default).1 * 1) [(.v (.bool true))]).length) from (by rw [show (splice (flat c4 v5) (0 + Int.toNat (a0.2.getD (Int.toNat v6) default).1 * 1) [(.v (.bool true))]) = flat c4 (v5.set (Int.toNat (a0.2.getD (Int.toNat v6) default).1) true) from (flat_set c4_len (by first | omega | (simp only [List.length_set]; omega)) (i := Int.toNat (a0.2.getD (Int.toNat v6) default).1) (o := 0) (d := default) (y := true) (Nat.le_of_ble_eq_true rfl) rfl)]; exact flat_setl c4_len (by first | omega | (simp only [List.length_set]; omega)) (i := Int.toNat (a0.2.getD (Int.toNat v6) default).2.1) (o := 0) (n := 1) (Nat.le_of_ble_eq_true rfl))), .u 0, .T, .i v6 (a0.2.length), .i 2 3 (by decide), .L c119_len a0.2 v6 2 1])
         cases h5 : (decide (((a0.2.getD (Int.toNat v6) default).2.2 : Int) < 0)) with
         | true =>
          have q5 := of_decide_eq_true h5
          have e := Eq.refl (S67_2 a0 (v5, v6)); conv at e => rhs; simp only [S67_2, h0, h1, h2, h3, h4, h5, cond_true, cond_false]
          rw [loopF_s, e]
          exact rt (t5 ++ [.d h5]) [] [] hcx (by kernel_rfl)
         | false =>
          have q5 := of_decide_eq_false h5
          let t6 : List (St Tryz.prog) := (t5 ++ [.d h5])
          cases h6 : (decide (((a0.2.getD (Int.toNat v6) default).2.2 : Int) ≥ ((a0.1.length : Nat) : Int))) with
          | true =>
           have q6 := of_decide_eq_true h6
           have e := Eq.refl (S67_2 a0 (v5, v6)); conv at e => rhs; simp only [S67_2, h0, h1, h2, h3, h4, h5, h6, cond_true, cond_false]
           rw [loopF_s, e]
           exact rt (t6 ++ [.d h6]) [] [] hcx (by kernel_rfl)
          | false =>
           have q6 := of_decide_eq_false h6
           let t7 : List (St Tryz.prog) := (t6 ++ [.d h6, .i ((a0.2.getD (Int.toNat v6) default).2.2) (v5.length), .p (show ((0 + Int.toNat (a0.2.getD (Int.toNat v6) default).2.2 * 1) + 1 ≤ (splice (splice (flat c4 v5) (0 + Int.toNat (a0.2.getD (Int.toNat v6) default).1 * 1) [(.v (.bool true))]) (0 + Int.toNat (a0.2.getD (Int.toNat v6) default).2.1 * 1) [(.v (.bool true))]).length) from (by rw [show (splice (splice (flat c4 v5) (0 + Int.toNat (a0.2.getD (Int.toNat v6) default).1 * 1) [(.v (.bool true))]) (0 + Int.toNat (a0.2.getD (Int.toNat v6) default).2.1 * 1) [(.v (.bool true))]) = flat c4 ((v5.set (Int.toNat (a0.2.getD (Int.toNat v6) default).1) true).set (Int.toNat (a0.2.getD (Int.toNat v6) default).2.1) true) from (by rw [show (splice (flat c4 v5) (0 + Int.toNat (a0.2.getD (Int.toNat v6) default).1 * 1) [(.v (.bool true))]) = flat c4 (v5.set (Int.toNat (a0.2.getD (Int.toNat v6) default).1) true) from (flat_set c4_len (by first | omega | (simp only [List.length_set]; omega)) (i := Int.toNat (a0.2.getD (Int.toNat v6) default).1) (o := 0) (d := default) (y := true) (Nat.le_of_ble_eq_true rfl) rfl)]; exact flat_set c4_len (by first | omega | (simp only [List.length_set]; omega)) (i := Int.toNat (a0.2.getD (Int.toNat v6) default).2.1) (o := 0) (d := default) (y := true) (Nat.le_of_ble_eq_true rfl) rfl)]; exact flat_setl c4_len (by first | omega | (simp only [List.length_set]; omega)) (i := Int.toNat (a0.2.getD (Int.toNat v6) default).2.2) (o := 0) (n := 1) (Nat.le_of_ble_eq_true rfl))), .u 0, .F, .c [0, 1] (C68 (a0.1, a0.2) v6 (by (try simp only [List.length_append, List.length_cons, List.length_nil, Int.toNat_zero]); omega) (by (try simp only [List.length_append, List.length_cons, List.length_nil, Int.toNat_zero]); omega) (by show 0 ≤ _ ∧ _ < ((a0.2.length : Nat) : Int); omega) (by show inF a0.1.length (a0.2.getD _ default); refine ⟨⟨?_, ?_⟩, ⟨?_, ?_⟩, ?_, ?_⟩ <;> omega)), .c [] (C118 (F68 (a0.1, a0.2) v6))])
           cases h7 : ((((F118 (F68 (a0.1, a0.2) v6)).1 : Int) == 0) && ((((F118 (F68 (a0.1, a0.2) v6)).2.1 : Int) == 0) && ((((F118 (F68 (a0.1, a0.2) v6)).2.2 : Int) == 0) && true))) with
           | true =>
            have e := Eq.refl (S67_2 a0 (v5, v6)); conv at e => rhs; simp only [S67_2, h0, h1, h2, h3, h4, h5, h6, h7, cond_true, cond_false]
            rw [loopF_s, e]
            exact rt (t7 ++ [.d h7]) [] [] hcx (by kernel_rfl)
           | false =>
            have e := Eq.refl (S67_2 a0 (v5, v6)); conv at e => rhs; simp only [S67_2, h0, h1, h2, h3, h4, h5, h6, h7, cond_true, cond_false]
            rw [loopF_inl e]
            refine ba (t7 ++ [.d h7]) [] [1, 5, 6] [2, 3] hcx (m := n) B67_2 (K67_2) (st67_2 a0 (splice (splice (splice (flat c4 v5) (0 + Int.toNat (a0.2.getD (Int.toNat v6) default).1 * 1) [(.v (.bool true))]) (0 + Int.toNat (a0.2.getD (Int.toNat v6) default).2.1 * 1) [(.v (.bool true))]) (0 + Int.toNat (a0.2.getD (Int.toNat v6) default).2.2 * 1) [(.v (.bool true))]) (v5.length) (W (v6 + 1))) (by kernel_rfl) ?_
            have z0 : (W (v6 + 1)) = (v6 + 1) := W_eq (by omega) (by omega)
            have z1 : (splice (splice (splice (flat c4 v5) (0 + Int.toNat (a0.2.getD (Int.toNat v6) default).1 * 1) [(.v (.bool true))]) (0 + Int.toNat (a0.2.getD (Int.toNat v6) default).2.1 * 1) [(.v (.bool true))]) (0 + Int.toNat (a0.2.getD (Int.toNat v6) default).2.2 * 1) [(.v (.bool true))]) = flat c4 (((v5.set (Int.toNat (a0.2.getD (Int.toNat v6) default).1) true).set (Int.toNat (a0.2.getD (Int.toNat v6) default).2.1) true).set (Int.toNat (a0.2.getD (Int.toNat v6) default).2.2) true) := (by rw [show (splice (splice (flat c4 v5) (0 + Int.toNat (a0.2.getD (Int.toNat v6) default).1 * 1) [(.v (.bool true))]) (0 + Int.toNat (a0.2.getD (Int.toNat v6) default).2.1 * 1) [(.v (.bool true))]) = flat c4 ((v5.set (Int.toNat (a0.2.getD (Int.toNat v6) default).1) true).set (Int.toNat (a0.2.getD (Int.toNat v6) default).2.1) true) from (by rw [show (splice (flat c4 v5) (0 + Int.toNat (a0.2.getD (Int.toNat v6) default).1 * 1) [(.v (.bool true))]) = flat c4 (v5.set (Int.toNat (a0.2.getD (Int.toNat v6) default).1) true) from (flat_set c4_len (by first | omega | (simp only [List.length_set]; omega)) (i := Int.toNat (a0.2.getD (Int.toNat v6) default).1) (o := 0) (d := default) (y := true) (Nat.le_of_ble_eq_true rfl) rfl)]; exact flat_set c4_len (by first | omega | (simp only [List.length_set]; omega)) (i := Int.toNat (a0.2.getD (Int.toNat v6) default).2.1) (o := 0) (d := default) (y := true) (Nat.le_of_ble_eq_true rfl) rfl)]; exact flat_set c4_len (by first | omega | (simp only [List.length_set]; omega)) (i := Int.toNat (a0.2.getD (Int.toNat v6) default).2.2) (o := 0) (d := default) (y := true) (Nat.le_of_ble_eq_true rfl) rfl)
            have z2 : v5.length = (((v5.set (Int.toNat (a0.2.getD (Int.toNat v6) default).1) true).set (Int.toNat (a0.2.getD (Int.toNat v6) default).2.1) true).set (Int.toNat (a0.2.getD (Int.toNat v6) default).2.2) true).length := by simp
            rw [z0, z1, z2]
            exact ih (((v5.set (Int.toNat (a0.2.getD (Int.toNat v6) default).1) true).set (Int.toNat (a0.2.getD (Int.toNat v6) default).2.1) true).set (Int.toNat (a0.2.getD (Int.toNat v6) default).2.2) true) (v6 + 1) (by refine ⟨?_, ?_, ?_, ?_, ?_, ?_⟩ <;> first | omega | assumption | exact okTo_0 | exact hi.2.1 | exact hi.2.2.1 | exact okTo_le hi.2.2.1 (by omega) | exact okTo_s hi.2.2.1 hfo | exact okTo_s hi.2.2.1 (by refine ⟨⟨?_, ?_⟩, ⟨?_, ?_⟩, ?_, ?_⟩ <;> omega) | (simp only [List.length_replicate, List.length_set]; omega)) (by (try simp only [List.length_append, List.length_cons, List.length_nil, Int.toNat_zero]); omega)
    | false =>
     have q0 := of_decide_eq_false h0
     have e := Eq.refl (S67_2 a0 (v5, v6)); conv at e => rhs; simp only [S67_2, h0, cond_true, cond_false]
     rw [loopF_s, e]
     refine en [.d h0] [] [1, 5, 9] [2, 3] hcx B67_4 (K67_4) (st67_4 a0 (flat c4 v5) (v5.length) 0) (Int.toNat (((a0.2.length : Nat) : Int) - 0) + 1) (by kernel_rfl) ?_
     exact L67_4 a0 l0_1 l0_2 hcx (Int.toNat (((a0.2.length : Nat) : Int) - 0) + 1) v5 0 (by refine ⟨?_, ?_, ?_, ?_, ?_⟩ <;> first | omega | assumption | exact okTo_0 | exact hi.2.1 | exact hi.2.2.1 | exact okTo_le hi.2.2.1 (by omega) | exact okTo_s hi.2.2.1 hfo | exact okTo_s hi.2.2.1 (by refine ⟨⟨?_, ?_⟩, ⟨?_, ?_⟩, ?_, ?_⟩ <;> omega) | (simp only [List.length_replicate, List.length_set]; omega)) (by (try simp only [List.length_append, List.length_cons, List.length_nil, Int.toNat_zero]); omega)

set_option maxHeartbeats 4000000 in
theorem L67_0 (a0 : (List (Int × Int × Int)) × List (Int × Int × Int)) (l0_1 : a0.1.length ≤ 9223372036854775807) (l0_2 : a0.2.length ≤ 9223372036854775807) {cx : Cx} (hcx : cx.base = 2) : ∀ (n : Nat) (v1 : Int), (0 ≤ v1) ∧ (a0.1.length ≤ 64) ∧ (a0.2.length ≤ 96) → Int.toNat (((a0.1.length : Nat) : Int) - v1) < n → Aw.Good Tryz.prog none 9 (bodyPost Tryz.prog Tryz.f67 (RR cx (iv (loopF (S67_0 a0) n v1)) [] [])) cx [] (.l B67_0 n :: K67_0) (st67_0 a0 v1) := by
  intro n
  induction n with
  | zero => intro v1 hi hn; exact absurd hn (Nat.not_lt_zero _)
  | succ n ih =>
    intro v1 hi hn
    refine good_round ?_
    cases h0 : (decide ((v1 : Int) < ((a0.1.length : Nat) : Int))) with
    | true =>
     have q0 := of_decide_eq_true h0
     let t1 : List (St Tryz.prog) := [.d h0, .i v1 (a0.1.length), .L c27_len a0.1 v1 0 3, .c [] (C117 (a0.1.getD (Int.toNat v1) default) 64)]
     cases h1 : (!(F117 (a0.1.getD (Int.toNat v1) default) 64)) with
     | true =>
      have e := Eq.refl (S67_0 a0 v1); conv at e => rhs; simp only [S67_0, h0, h1, cond_true, cond_false]
      rw [loopF_s, e]
      exact rt (t1 ++ [.d h1]) [] [] hcx (by kernel_rfl)
     | false =>
      have e := Eq.refl (S67_0 a0 v1); conv at e => rhs; simp only [S67_0, h0, h1, cond_true, cond_false]
      rw [loopF_s, e]
      refine en (t1 ++ [.d h1]) [] [1, 3, 4] [2] hcx B67_1 (K67_1 n) (st67_1 a0 v1 0) (Int.toNat (v1 - 0) + 1) (by kernel_rfl) ?_
      exact L67_1 a0 l0_1 l0_2 hcx n ih (Int.toNat (v1 - 0) + 1) v1 0 (by refine ⟨?_, ?_, ?_, ?_, ?_, ?_⟩ <;> (try simp only [List.length_append, List.length_cons, List.length_nil, Int.toNat_zero]) <;> first | omega | assumption | exact hi.2.1 | exact hi.2.2.1 | exact hi.2.2.2.1 | exact hi.2.2.2.2.1 | exact hi.2.2.2.2.2.1 | simp) (by (try simp only [List.length_append, List.length_cons, List.length_nil, Int.toNat_zero]); omega)
    | false =>
     have q0 := of_decide_eq_false h0
     have e := Eq.refl (S67_0 a0 v1); conv at e => rhs; simp only [S67_0, h0, cond_true, cond_false]
     rw [loopF_s, e]
     refine en [.d h0, .Z c4 false [(.v (.bool false))] ((a0.1.length : Nat) : Int) 1] [] [1, 5, 6] [2, 3] hcx B67_2 (K67_2) (st67_2 a0 (flat c4 (List.replicate (Int.toNat ((a0.1.length : Nat) : Int)) false)) (Int.toNat ((a0.1.length : Nat) : Int)) 0) (Int.toNat (((a0.2.length : Nat) : Int) - 0) + 1) (by kernel_rfl) ?_
     have q := L67_2 a0 l0_1 l0_2 hcx (Int.toNat (((a0.2.length : Nat) : Int) - 0) + 1) (List.replicate (Int.toNat ((a0.1.length : Nat) : Int)) false) 0 (by refine ⟨?_, ?_, ?_, ?_, ?_, ?_⟩ <;> first | omega | assumption | exact okTo_0 | exact hi.2.1 | exact hi.2.2.1 | exact okTo_le hi.2.2.1 (by omega) | exact okTo_s hi.2.2.1 hfo | exact okTo_s hi.2.2.1 (by refine ⟨⟨?_, ?_⟩, ⟨?_, ?_⟩, ?_, ?_⟩ <;> omega) | (simp only [List.length_replicate, List.length_set]; omega)) (by (try simp only [List.length_append, List.length_cons, List.length_nil, Int.toNat_zero]); omega)
     simp only [List.length_replicate] at q
     exact q

/-- facet/facetref02.Validate -/
def F67 (a0 : (List (Int × Int × Int)) × List (Int × Int × Int)) : Int :=
  (bif (decide ((((a0.1.length : Nat) : Int) : Int) > 64)) then
   4
  else
   (bif (!(F116 ((a0.2.length : Nat) : Int) 1 96)) then
    4
   else
    (loopF (S67_0 a0) (Int.toNat (((a0.1.length : Nat) : Int) - 0) + 1) 0)))

theorem C67 (a0 : (List (Int × Int × Int)) × List (Int × Int × Int)) (l0_1 : a0.1.length ≤ 9223372036854775807) (l0_2 : a0.2.length ≤ 9223372036854775807) : Con Tryz.prog 67 [(.a [(.s 0 0 a0.1.length 3), (.s 1 0 a0.2.length 3)])] [(.live false true (flat c27 a0.1)), (.live false true (flat c119 a0.2))] (iv (F67 a0)) [] := by
  refine con_s Tryz.func67 (by kernel_rfl) fun cx hcx => ?_
  try have hl96 := win_p2 h1
  cases h0 : (decide ((((a0.1.length : Nat) : Int) : Int) > 64)) with
  | true =>
   have q0 := of_decide_eq_true h0
   try have hl96 := win_p2 h1
   have e := Eq.refl (F67 a0); conv at e => rhs; simp only [F67, h0, cond_true, cond_false]
   rw [e]
   exact rt [.d h0] [] [] hcx (by kernel_rfl)
  | false =>
   have q0 := of_decide_eq_false h0
   try have hl96 := win_p2 h1
   let t1 : List (St Tryz.prog) := [.d h0, .c [] (C116 ((a0.2.length : Nat) : Int) 1 96)]
   cases h1 : (!(F116 ((a0.2.length : Nat) : Int) 1 96)) with
   | true =>
    try have hl96 := win_p2 h1
    have e := Eq.refl (F67 a0); conv at e => rhs; simp only [F67, h0, h1, cond_true, cond_false]
    rw [e]
    exact rt (t1 ++ [.d h1]) [] [] hcx (by kernel_rfl)
   | false =>
    try have hl96 := win_p2 h1
    have e := Eq.refl (F67 a0); conv at e => rhs; simp only [F67, h0, h1, cond_true, cond_false]
    rw [e]
    refine en (t1 ++ [.d h1]) [] [1, 3] [2] hcx B67_0 (K67_0) (st67_0 a0 0) (Int.toNat (((a0.1.length : Nat) : Int) - 0) + 1) (by kernel_rfl) ?_
    exact L67_0 a0 l0_1 l0_2 hcx (Int.toNat (((a0.1.length : Nat) : Int) - 0) + 1) 0 (by refine ⟨?_, ?_, ?_⟩ <;> (try simp only [List.length_append, List.length_cons, List.length_nil, Int.toNat_zero]) <;> first | omega | assumption | simp) (by (try simp only [List.length_append, List.length_cons, List.length_nil, Int.toNat_zero]); omega)

end Go.Proofs.YtidhogejnafhaaaGreat

namespace Go.Proofs.YtidhogejnafhaaaGreat
open Go.Proofs Go.Aw Go.RowKit
set_option maxRecDepth 100000
set_option linter.unusedVariables false
set_option linter.unusedSimpArgs false

/-! ### Maps: what is put is got -/
section
variable {α β : Type} [DecidableEq α]
theorem mget_cons (e : α × β) (l : List (α × β)) (k : α) (d : β) : mget (e :: l) k d = if e.1 = k then e.2 else mget l k d := by
  unfold mget
  simp only [mfind]
  by_cases h : e.1 = k
  · rw [if_pos h, if_pos h]
  · rw [if_neg h, if_neg h]
    cases mfind k l <;> rfl
theorem mput_cons (e : α × β) (l : List (α × β)) (k : α) (v : β) : mput (e :: l) k v = if e.1 = k then (k, v) :: l else e :: mput l k v := by
  unfold mput
  simp only [mfind]
  by_cases h : e.1 = k
  · rw [if_pos h, if_pos h]; rfl
  · rw [if_neg h, if_neg h]
    cases mfind k l <;> rfl
theorem mget_put : ∀ (l : List (α × β)) (k k' : α) (v d : β), mget (mput l k v) k' d = if k = k' then v else mget l k' d
  | [], k, k', v, d => by
    show mget [(k, v)] k' d = _
    rw [mget_cons]
  | e :: l, k, k', v, d => by
    rw [mput_cons]
    by_cases h : e.1 = k
    · rw [if_pos h, mget_cons, mget_cons]
      by_cases h' : k = k'
      · rw [if_pos h', if_pos h']
      · rw [if_neg h', if_neg h', if_neg (fun x => h' (h ▸ x))]
    · rw [if_neg h, mget_cons, mget_cons, mget_put l k k' v d]
      by_cases h' : k = k'
      · rw [if_neg (fun x => h (x.trans h'.symm)), if_pos h', if_pos h']
      · rw [if_neg h', if_neg h']
theorem mget_nil (k : α) (d : β) : mget ([] : List (α × β)) k d = d := rfl
end
/-! ### Two loops that are one -/
theorem loopF_eq {S R : Type} [Inhabited R] {f g : S → S ⊕ R} (I : S → Prop) (hI : ∀ s, I s → f s = g s) (hp : ∀ s s', I s → f s = .inl s' → I s') : ∀ (n : Nat) (s : S), I s → loopF f n s = loopF g n s := by
  intro n
  induction n with
  | zero => intro s _; rfl
  | succ n ih =>
    intro s hs
    have e := hI s hs
    cases h : f s with
    | inl s' => rw [loopF_inl h, loopF_inl (e ▸ h)]; exact ih s' (hp s s' hs h)
    | inr r => rw [loopF_inr h, loopF_inr (e ▸ h)]
theorem foldE_inl {α σ R : Type} (g : σ → α → σ) : ∀ (l : List α) (v : σ), foldE (R := R) (fun v c => .inl (g v c)) l v = .inl (l.foldl g v)
  | [], _ => rfl
  | c :: l, v => by simp only [foldE, List.foldl_cons]; exact foldE_inl g l (g v c)
theorem getD_of {α : Type} [Inhabited α] {L : List α} {i : Nat} {c : α} (h : L[i]? = some c) : L.getD (Int.toNat (i : Int)) default = c := by
  rw [Int.toNat_natCast, List.getD_eq_getElem?_getD, h]; rfl
/-! ### How often a side is in the faces -/
abbrev ME := List P3 × List P3
def tri (f : P3) (p q : Int) : Int := (if f.1 = p ∧ f.2.1 = q then 1 else 0) + (if f.2.1 = p ∧ f.2.2 = q then 1 else 0) + (if f.2.2 = p ∧ f.1 = q then 1 else 0)
def cnt : List P3 → Int → Int → Int
  | [], _, _ => 0
  | f :: l, p, q => tri f p q + cnt l p q
theorem tri_bd (f : P3) (p q : Int) : 0 ≤ tri f p q ∧ tri f p q ≤ 3 := by unfold tri; split <;> split <;> split <;> omega
theorem ite_b (a b c d : Int) : (if a = b ∧ c = d then (1 : Int) else 0) = bif (a == b) && (c == d) then 1 else 0 := by
  rcases Decidable.em (a = b) with h1 | h1 <;> rcases Decidable.em (c = d) with h2 | h2
  · rw [if_pos ⟨h1, h2⟩, beq_iff_eq.2 h1, beq_iff_eq.2 h2]; rfl
  · rw [if_neg (fun h => h2 h.2), beq_eq_false_iff_ne.2 h2, Bool.and_false]; rfl
  · rw [if_neg (fun h => h1 h.1), beq_eq_false_iff_ne.2 h1]; rfl
  · rw [if_neg (fun h => h1 h.1), beq_eq_false_iff_ne.2 h1]; rfl
theorem edg_f (m : ME) (h : m.2.length ≤ 96) (p q : Int) : F119 m p q = cnt m.2 p q := by
  unfold F119
  rw [each_loop (fun v i => (v, i)) (fun v c => .inl (v + tri c p q)) (fun v => v) (L := m.2) (fun i v => 0 ≤ v ∧ v ≤ 3 * (i : Int)) ?_ ?_ ?_ (by omega) ⟨by omega, by omega⟩]
  · have key : ∀ (l : List P3) (v : Int), l.foldl (fun v c => v + tri c p q) v = v + cnt l p q := by
      intro l
      induction l with
      | nil => intro v; simp [cnt]
      | cons c l ih => intro v; rw [List.foldl_cons, ih]; simp only [cnt]; omega
    rw [foldE_inl, key]; simp [outE]
  · intro i c hc v hv
    obtain ⟨hlt, hce⟩ := List.getElem?_eq_some_iff.1 hc
    have w1 : W (v + 1) = v + 1 := W_eq (by omega) (by omega)
    have w2 : W (v + 1 + 1) = v + 1 + 1 := W_eq (by omega) (by omega)
    have w3 : W (v + 1 + 1 + 1) = v + 1 + 1 + 1 := W_eq (by omega) (by omega)
    simp only [S119_0]
    rw [decide_eq_true (by omega), cond_true, getD_of hc]
    unfold tri
    rw [ite_b, ite_b, ite_b]
    generalize (c.1 == p) = b1, (c.2.1 == q) = b2, (c.2.1 == p) = b3, (c.2.2 == q) = b4, (c.2.2 == p) = b5, (c.1 == q) = b6
    have fin : ∀ {a b : Int}, a = b → (Sum.inl (a, (i : Int) + 1) : (Int × Int) ⊕ Int) = Sum.inl (b, ((i + 1 : Nat) : Int)) := fun h => by rw [h]; rfl
    cases b1 <;> cases b2 <;> cases b3 <;> cases b4 <;> cases b5 <;> cases b6 <;> simp only [Bool.and_true, Bool.and_false, Bool.and_self, cond_true, cond_false, w1, w2, w3] <;> exact fin (by omega)
  · intro i c hc v v' hv e
    have := tri_bd c p q
    obtain rfl := Sum.inl.inj e
    omega
  · intro v _
    simp only [S119_0]
    rw [decide_eq_false (by omega), cond_false]
def incM (v : List ((Int × Int) × Int)) (s : Int × Int) : List ((Int × Int) × Int) := mput v s (W (mget v s 0 + 1))
def put3 (v : List ((Int × Int) × Int)) (f : P3) : List ((Int × Int) × Int) := incM (incM (incM v (F108 f).1) (F108 f).2.1) (F108 f).2.2
theorem inc_get {v : List ((Int × Int) × Int)} {s : Int × Int} (t : Int × Int) (h : 0 ≤ mget v s 0 ∧ mget v s 0 ≤ 1000) : mget (incM v s) t 0 = mget v t 0 + (if s = t then 1 else 0) := by
  unfold incM
  rw [mget_put, W_eq (by omega) (by omega)]
  by_cases e : s = t
  · subst e; rw [if_pos rfl, if_pos rfl]
  · rw [if_neg e, if_neg e]; omega
theorem put3_get {v : List ((Int × Int) × Int)} {B : Int} (hB : ∀ t, 0 ≤ mget v t 0 ∧ mget v t 0 ≤ B) (hb : B ≤ 900) (f : P3) (t : Int × Int) : mget (put3 v f) t 0 = mget v t 0 + tri f t.1 t.2 := by
  have g1 : ∀ t, mget (incM v (F108 f).1) t 0 = mget v t 0 + (if (F108 f).1 = t then 1 else 0) := fun t => inc_get t (by have := hB (F108 f).1; omega)
  have b1 : ∀ t, 0 ≤ mget (incM v (F108 f).1) t 0 ∧ mget (incM v (F108 f).1) t 0 ≤ B + 1 := fun t => by rw [g1]; have := hB t; split <;> omega
  have g2 : ∀ t, mget (incM (incM v (F108 f).1) (F108 f).2.1) t 0 = mget (incM v (F108 f).1) t 0 + (if (F108 f).2.1 = t then 1 else 0) := fun t => inc_get t (by have := b1 (F108 f).2.1; omega)
  have b2 : ∀ t, 0 ≤ mget (incM (incM v (F108 f).1) (F108 f).2.1) t 0 ∧ mget (incM (incM v (F108 f).1) (F108 f).2.1) t 0 ≤ B + 2 := fun t => by rw [g2]; have := b1 t; split <;> omega
  unfold put3
  rw [inc_get t (by have := b2 (F108 f).2.2; omega), g2, g1]
  unfold tri F108
  simp only [Prod.ext_iff]
  omega
theorem cnt_get : ∀ (l : List P3) (v : List ((Int × Int) × Int)) (B : Int), (∀ t, 0 ≤ mget v t 0 ∧ mget v t 0 ≤ B) → B + 3 * l.length ≤ 900 → ∀ t : Int × Int, mget (l.foldl put3 v) t 0 = mget v t 0 + cnt l t.1 t.2
  | [], v, B, _, _, t => by simp [cnt]
  | f :: l, v, B, hB, hb, t => by
    simp only [List.length_cons] at hb
    have g := put3_get hB (by omega) f
    rw [List.foldl_cons, cnt_get l (put3 v f) (B + 3) (fun t => by rw [g]; have := hB t; have := tri_bd f t.1 t.2; omega) (by omega) t, g]
    simp only [cnt]; omega
theorem ctd_f (m : ME) : F107 m = m.2.foldl put3 [] := by
  unfold F107
  rw [each_loop (fun v i => (v, i)) (fun v c => .inl (put3 v c)) (fun v => v) (L := m.2) (fun _ _ => True) ?_ (fun _ _ _ _ _ _ _ => trivial) ?_ (by omega) trivial]
  · rw [foldE_inl]; rfl
  · intro i c hc v _
    obtain ⟨hlt, hce⟩ := List.getElem?_eq_some_iff.1 hc
    simp only [S107_0]
    rw [decide_eq_true (by omega), cond_true, getD_of hc]
    rfl
  · intro v _
    simp only [S107_0]
    rw [decide_eq_false (by omega), cond_false]
theorem cget (m : ME) (h : m.2.length ≤ 96) (t : Int × Int) : mget (F107 m) t 0 = cnt m.2 t.1 t.2 := by
  rw [ctd_f, cnt_get m.2 [] 0 (fun t => by rw [mget_nil]; omega) (by omega) t, mget_nil]; omega
/-! ### Normals, volumes -/
theorem W_neg (x y : Int) : W (x + W (-1 * y)) = W (x - y) := by
  rw [W_def (-1 * y)]
  split <;> rw [W_def, W_def] <;> split <;> split <;> omega
theorem min_eq (a b : P3) : F183 a b = F127 a b := by
  unfold F183 F191 F127
  simp only [W_neg]
theorem nrm_eq (p : PN) : F157 p = F118 p := by
  unfold F157 F118
  rw [min_eq, min_eq]; rfl
theorem vol_a (m : ME) : F110 m = m.2.foldl (fun v c => W (v + F164 (F111 m c))) 0 := by
  unfold F110
  rw [each_loop (fun v i => (v, i)) (fun v c => .inl (W (v + F164 c))) (fun v => v) (L := F61 m) (fun _ _ => True) ?_ (fun _ _ _ _ _ _ _ => trivial) ?_ (by show _ < Int.toNat ((((F61 m).length : Nat) : Int) - 0) + 1; omega) trivial]
  · rw [foldE_inl, pnl_map, List.foldl_map]; rfl
  · intro i c hc v _
    obtain ⟨hlt, hce⟩ := List.getElem?_eq_some_iff.1 hc
    simp only [S110_0]
    rw [decide_eq_true (show ((i : Nat) : Int) < (((F61 (m.1, m.2)).length : Nat) : Int) from by show ((i : Nat) : Int) < (((F61 m).length : Nat) : Int); omega), cond_true, show (F61 (m.1, m.2)).getD (Int.toNat (i : Int)) default = c from getD_of hc]
    rfl
  · intro v _
    simp only [S110_0]
    rw [decide_eq_false (show ¬ (((F61 m).length : Nat) : Int) < (((F61 (m.1, m.2)).length : Nat) : Int) from by show ¬ (((F61 m).length : Nat) : Int) < (((F61 m).length : Nat) : Int); omega), cond_false]
theorem vol_b (m : ME) : F120 m = m.2.foldl (fun v c => W (v + F164 (F111 m c))) 0 := by
  unfold F120
  rw [each_loop (fun v i => (v, i)) (fun v c => .inl (W (v + F164 (F111 m c)))) (fun v => v) (L := m.2) (fun _ _ => True) ?_ (fun _ _ _ _ _ _ _ => trivial) ?_ (by omega) trivial]
  · rw [foldE_inl]; rfl
  · intro i c hc v _
    obtain ⟨hlt, hce⟩ := List.getElem?_eq_some_iff.1 hc
    simp only [S120_0]
    have hp : F68 (m.1, m.2) (i : Int) = F111 m c := by
      unfold F68
      simp only [getD_of hc]; rfl
    rw [decide_eq_true (by omega), cond_true, hp]
    rfl
  · intro v _
    simp only [S120_0]
    rw [decide_eq_false (by omega), cond_false]
theorem vol_eq (m : ME) : F110 m = F120 m := by rw [vol_a, vol_b]
/-! ### The same errors -/
theorem usd_eq (m : ME) : ∀ (n : Nat) (v : List Bool) (i : Int), 0 ≤ i → loopF (S60_4 m) n (v, ((v.length : Nat) : Int), i) = loopF (S67_6 m) n (v, i) := by
  intro n
  induction n with
  | zero => intro v i _; rfl
  | succ n ih =>
    intro v i hi
    by_cases h : i < ((v.length : Nat) : Int)
    · cases hb : v.getD (Int.toNat i) default with
      | true =>
        have e1 : S60_4 m (v, ((v.length : Nat) : Int), i) = .inl (v, ((v.length : Nat) : Int), i + 1) := by
          simp only [S60_4]; rw [decide_eq_true h, cond_true, hb]; rfl
        have e2 : S67_6 m (v, i) = .inl (v, i + 1) := by
          simp only [S67_6]; rw [decide_eq_true h, cond_true, hb]; rfl
        rw [loopF_inl e1, loopF_inl e2]; exact ih v (i + 1) (by omega)
      | false =>
        have e1 : S60_4 m (v, ((v.length : Nat) : Int), i) = .inr 5 := by
          simp only [S60_4]; rw [decide_eq_true h, cond_true, hb]; rfl
        have e2 : S67_6 m (v, i) = .inr 5 := by
          simp only [S67_6]; rw [decide_eq_true h, cond_true, hb]; rfl
        rw [loopF_inr e1, loopF_inr e2]
    · have e1 : S60_4 m (v, ((v.length : Nat) : Int), i) = .inr (bif decide (F120 m ≤ 0) then 8 else 0) := by
        simp only [S60_4]; rw [decide_eq_false h, cond_false, show F110 (m.1, m.2) = F120 m from vol_eq m]
        cases decide (F120 m ≤ 0) <;> rfl
      have e2 : S67_6 m (v, i) = .inr (bif decide (F120 m ≤ 0) then 8 else 0) := by
        simp only [S67_6]; rw [decide_eq_false h, cond_false, show F120 (m.1, m.2) = F120 m from rfl]
        cases decide (F120 m ≤ 0) <;> rfl
      rw [loopF_inr e1, loopF_inr e2]
theorem opn_eq (m : ME) (h : m.2.length ≤ 96) (n : Nat) (v : List Bool) : loopF (S60_2 m) n (v, 0) = loopF (S67_4 m) n (v, 0) := by
  refine loopF_eq (fun s => 0 ≤ s.2) (fun s hs => ?_) (fun s s' hs e => ?_) n (v, 0) (Int.le_refl 0)
  · obtain ⟨v, i⟩ := s
    simp only at hs
    simp only [S60_2, S67_4]
    rw [usd_eq m _ v 0 (Int.le_refl 0)]
    have hc : ∀ t, mget (F107 (m.1, m.2)) t 0 = cnt m.2 t.1 t.2 := cget m h
    have he : ∀ p q, F119 (m.1, m.2) p q = cnt m.2 p q := edg_f m h
    simp only [hc, he, F108, F109]
  · obtain ⟨v, i⟩ := s
    simp only [S60_2] at e
    by_cases hlt : i < ((m.2.length : Nat) : Int)
    · rw [decide_eq_true hlt, cond_true] at e
      simp only at hs
      have step : ∀ (b : Bool) (x y : (List Bool × Int) ⊕ Int), (bif b then x else y) = .inl s' → (∀ r, x ≠ .inl r) → y = .inl s' := fun b x y h hx => by
        cases b
        · exact h
        · exact absurd h (hx s')
      have e := step _ _ _ e (fun r h => by cases h)
      have e := step _ _ _ e (fun r h => by cases h)
      have e := step _ _ _ e (fun r h => by cases h)
      have e := step _ _ _ e (fun r h => by cases h)
      have e := step _ _ _ e (fun r h => by cases h)
      have e := step _ _ _ e (fun r h => by cases h)
      obtain rfl := Sum.inl.inj e
      show 0 ≤ i + 1
      omega
    · rw [decide_eq_false hlt, cond_false] at e; cases e
theorem from_in {n : Nat} (x : Int) (h : n ≤ 64) : (!F104 x 0 (W (((n : Nat) : Int) - 1))) = (decide (x < 0) || decide (x ≥ ((n : Nat) : Int))) := by
  rw [W_eq (by omega) (by omega)]
  unfold F104
  by_cases h1 : x < 0
  · rw [decide_eq_true h1, decide_eq_false (by omega)]; rfl
  · rw [decide_eq_false h1, decide_eq_true (by omega), cond_true]
    by_cases h2 : x ≥ ((n : Nat) : Int)
    · rw [decide_eq_true h2, decide_eq_false (by omega)]; rfl
    · rw [decide_eq_false h2, decide_eq_true (by omega)]; rfl
theorem fac_eq (m : ME) (h64 : m.1.length ≤ 64) (h : m.2.length ≤ 96) (n : Nat) (v : List Bool) : loopF (S60_0 m) n (v, 0) = loopF (S67_2 m) n (v, 0) := by
  have main : ∀ s : List Bool × Int, 0 ≤ s.2 → S60_0 m s = S67_2 m s ∧ ∀ s', S60_0 m s = .inl s' → 0 ≤ s'.2 := by
    rintro ⟨v, i⟩ hs
    simp only at hs
    simp only [S60_0, S67_2]
    rw [opn_eq m h _ v]
    have hp : F68 (m.1, m.2) i = F111 (m.1, m.2) (m.2.getD (Int.toNat i) default) := rfl
    rw [hp]
    unfold F106
    simp only [from_in _ h64, nrm_eq]
    generalize m.2.getD (Int.toNat i) default = c
    generalize F118 (F111 (m.1, m.2) c) = q
    generalize ((q.1 == 0) && ((q.2.1 == 0) && ((q.2.2 == 0) && true))) = b7
    generalize decide (c.1 < 0) = b1, decide (c.1 ≥ ((m.1.length : Nat) : Int)) = b2, decide (c.2.1 < 0) = b3, decide (c.2.1 ≥ ((m.1.length : Nat) : Int)) = b4, decide (c.2.2 < 0) = b5, decide (c.2.2 ≥ ((m.1.length : Nat) : Int)) = b6, decide (i < ((m.2.length : Nat) : Int)) = b0
    cases b0
    case false => exact ⟨rfl, fun s' e => by cases e⟩
    cases b1
    case true => exact ⟨rfl, fun s' e => by cases e⟩
    cases b2
    case true => exact ⟨rfl, fun s' e => by cases e⟩
    cases b3
    case true => exact ⟨rfl, fun s' e => by cases e⟩
    cases b4
    case true => exact ⟨rfl, fun s' e => by cases e⟩
    cases b5
    case true => exact ⟨rfl, fun s' e => by cases e⟩
    cases b6
    case true => exact ⟨rfl, fun s' e => by cases e⟩
    cases b7
    case true => exact ⟨rfl, fun s' e => by cases e⟩
    exact ⟨rfl, fun s' e => by obtain rfl := Sum.inl.inj e; show 0 ≤ i + 1; omega⟩
  exact loopF_eq (fun s => 0 ≤ s.2) (fun s hs => (main s hs).1) (fun s s' hs e => (main s hs).2 s' e) n (v, 0) (Int.le_refl 0)
theorem eq_b (a b : P3) : (((a.1 : Int) == b.1) && (((a.2.1 : Int) == b.2.1) && (((a.2.2 : Int) == b.2.2) && true))) = decide (a = b) := by
  rw [Bool.eq_iff_iff]
  simp only [Bool.and_eq_true, beq_iff_eq, and_true, decide_eq_true_eq, Prod.ext_iff]
theorem inn_t (m : ME) (i : Nat) : ∀ (n k : Nat), i - k < n → (∃ j, k ≤ j ∧ j < i ∧ m.1.getD j default = m.1.getD i default) → loopF (S67_1 m) n ((i : Int), (k : Int)) = .inr 1 := by
  intro n
  induction n with
  | zero => intro k hk; omega
  | succ n ih =>
    intro k hk ⟨j, h1, h2, h3⟩
    by_cases e : m.1.getD i default = m.1.getD k default
    · refine loopF_inr ?_
      simp only [S67_1]
      rw [decide_eq_true (by omega), cond_true, Int.toNat_natCast, Int.toNat_natCast, eq_b, decide_eq_true e]; rfl
    · have h : S67_1 m ((i : Int), (k : Int)) = .inl ((i : Int), ((k + 1 : Nat) : Int)) := by
        simp only [S67_1]
        rw [decide_eq_true (by omega), cond_true, Int.toNat_natCast, Int.toNat_natCast, eq_b, decide_eq_false e]; rfl
      rw [loopF_inl h]
      have : j ≠ k := fun x => e (x ▸ h3.symm)
      exact ih (k + 1) (by omega) ⟨j, by omega, h2, h3⟩
theorem inn_f (m : ME) (i : Nat) : ∀ (n k : Nat), k ≤ i → i - k < n → (∀ j, k ≤ j → j < i → m.1.getD j default ≠ m.1.getD i default) → loopF (S67_1 m) n ((i : Int), (k : Int)) = .inl ((i : Int) + 1) := by
  intro n
  induction n with
  | zero => intro k _ hk; omega
  | succ n ih =>
    intro k hki hk hj
    by_cases hlt : k < i
    · have h : S67_1 m ((i : Int), (k : Int)) = .inl ((i : Int), ((k + 1 : Nat) : Int)) := by
        simp only [S67_1]
        rw [decide_eq_true (by omega), cond_true, Int.toNat_natCast, Int.toNat_natCast, eq_b, decide_eq_false (fun e => hj k (Nat.le_refl k) hlt e.symm)]; rfl
      rw [loopF_inl h]
      exact ih (k + 1) (by omega) (by omega) (fun j h1 h2 => hj j (by omega) h2)
    · refine loopF_inr ?_
      simp only [S67_1]
      rw [decide_eq_false (by omega), cond_false]
open Classical in
theorem rng_eq (p : P3) : F156 p 64 = F117 p 64 := by rw [inRange_eq, near02_eq]
theorem pts_eq (m : ME) : ∀ (n i : Nat) (v : List (P3 × Bool)), i ≤ m.1.length → m.1.length - i < n → (∀ q, mget v q false = true ↔ ∃ j, j < i ∧ m.1.getD j default = q) →
    loopF (S67_0 m) n (i : Int) = bif (loopF (S105_0 m) n (v, (i : Int)) != 0) then loopF (S105_0 m) n (v, (i : Int)) else loopF (S67_2 m) (Int.toNat (((m.2.length : Nat) : Int) - 0) + 1) ((List.replicate (Int.toNat ((m.1.length : Nat) : Int)) false), 0) := by
  intro n
  induction n with
  | zero => intro i v _ h; omega
  | succ n ih =>
    intro i v hi hn hv
    by_cases hlt : i < m.1.length
    · have hw : ((i : Nat) : Int) < ((m.1.length : Nat) : Int) := by omega
      cases hr : F156 (m.1.getD i default) 64 with
      | false =>
        have e1 : S105_0 m (v, (i : Int)) = .inr 1 := by
          simp only [S105_0]; rw [decide_eq_true hw, cond_true, Int.toNat_natCast, hr]; rfl
        have e2 : S67_0 m (i : Int) = .inr 1 := by
          simp only [S67_0]; rw [decide_eq_true hw, cond_true, Int.toNat_natCast, ← rng_eq, hr]; rfl
        rw [loopF_inr e1, loopF_inr e2]; rfl
      | true =>
        cases hg : mget v (m.1.getD i default) false with
        | true =>
          have e1 : S105_0 m (v, (i : Int)) = .inr 1 := by
            simp only [S105_0]; rw [decide_eq_true hw, cond_true, Int.toNat_natCast, hr, hg]; rfl
          obtain ⟨j, h1, h2⟩ := (hv _).1 hg
          have e2 : S67_0 m (i : Int) = .inr 1 := by
            simp only [S67_0]; rw [decide_eq_true hw, cond_true, Int.toNat_natCast, ← rng_eq, hr]
            exact inn_t m i _ 0 (by omega) ⟨j, by omega, h1, h2⟩
          rw [loopF_inr e1, loopF_inr e2]; rfl
        | false =>
          have e1 : S105_0 m (v, (i : Int)) = .inl (mput v (m.1.getD i default) true, ((i + 1 : Nat) : Int)) := by
            simp only [S105_0]; rw [decide_eq_true hw, cond_true, Int.toNat_natCast, hr, hg]; rfl
          have e2 : S67_0 m (i : Int) = .inl ((i + 1 : Nat) : Int) := by
            simp only [S67_0]; rw [decide_eq_true hw, cond_true, Int.toNat_natCast, ← rng_eq, hr]
            exact inn_f m i _ 0 (by omega) (by omega) (fun j _ h2 h3 => by
              have := (hv _).2 ⟨j, h2, h3⟩
              rw [hg] at this; cases this)
          rw [loopF_inl e1, loopF_inl e2]
          refine ih (i + 1) _ (by omega) (by omega) (fun q => ?_)
          rw [mget_put]
          by_cases e : m.1.getD i default = q
          · rw [if_pos e]; exact ⟨fun _ => ⟨i, by omega, e⟩, fun _ => rfl⟩
          · rw [if_neg e, hv]
            constructor
            · rintro ⟨j, h1, h2⟩; exact ⟨j, by omega, h2⟩
            · rintro ⟨j, h1, h2⟩
              refine ⟨j, ?_, h2⟩
              rcases Nat.lt_or_ge j i with h | h
              · exact h
              · have : j = i := by omega
                exact absurd (this ▸ h2) e
    · have hw : ¬ ((i : Nat) : Int) < ((m.1.length : Nat) : Int) := by omega
      have e1 : S105_0 m (v, (i : Int)) = .inr 0 := by
        simp only [S105_0]; rw [decide_eq_false hw, cond_false]
      have e2 : S67_0 m (i : Int) = .inr (loopF (S67_2 m) (Int.toNat (((m.2.length : Nat) : Int) - 0) + 1) ((List.replicate (Int.toNat ((m.1.length : Nat) : Int)) false), 0)) := by
        simp only [S67_0]; rw [decide_eq_false hw, cond_false]
      rw [loopF_inr e1, loopF_inr e2]; rfl
/-- **A mesh has the same first error in the program and in the document.** -/
theorem val_eq (m : ME) : F60 m = F67 m := by
  unfold F60 F67
  by_cases h1 : ((m.1.length : Nat) : Int) > 64
  · rw [decide_eq_true h1]; rfl
  · rw [decide_eq_false h1, cond_false, cond_false, show F116 ((m.2.length : Nat) : Int) 1 96 = F104 ((m.2.length : Nat) : Int) 1 96 from rfl]
    cases h2 : (!F104 ((m.2.length : Nat) : Int) 1 96) with
    | true => rfl
    | false =>
      rw [cond_false, cond_false]
      have g := from_p h2
      rw [fac_eq m (by omega) (by omega)]
      have hp := pts_eq m (Int.toNat (((m.1.length : Nat) : Int) - 0) + 1) 0 [] (by omega) (by omega) (fun q => by
        rw [mget_nil]
        constructor
        · intro h; cases h
        · rintro ⟨j, h, _⟩; omega)
      exact hp.symm

end Go.Proofs.YtidhogejnafhaaaGreat
