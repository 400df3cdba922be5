/-
  A part of the proofs of the Field laws: what functions of the program compute, and that it is what the statements ask. No premise.
-/
import Derived.Test.YtopbnnmkdildgaaMd
import Derived.ProofKit
namespace Go.Proofs.Ytopbnnmkdildgaa
open Go.Proofs Go.Aw Go.RowKit
set_option maxRecDepth 100000
set_option linter.unusedVariables false
set_option linter.unusedSimpArgs false

/-! ### From the contract to the row -/
open Go.ChangeShapes Go.WideShapes Go.ChangeAt
/-- the fields lie behind one another, up to place n -/
def contB (P : Program) (ok : TypeId → Bool) (n : Nat) : List Field → Nat → Bool
  | [], o => o == n
  | f :: l, o => f.offset == o && ok f.type && contB P ok n l (o + P.cellsOf f.type)
/-- a type of numbers alone (int, and structs of these) -/
def flatB (P : Program) : Nat → TypeId → Bool
  | 0, _ => false
  | k + 1, t => match P.underlying t with
    | some (.int .i64) => true
    | some (.struct fs) => contB P (flatB P k) (P.cellsOf t) fs.toList 0
    | _ => false
section
variable {H : Type} {enc : TypeId × Value → H} {P : Program} {w : World} {base : Nat} {spare : Nat → Bool} {held : Bool}
theorem cont_trod {ok : TypeId → Bool} {n fuel : Nat} {cs : List Value}
    (hok : ∀ t cs x, ok t = true → DataW.trod enc P w base spare held fuel t cs = some x → x.2 = [] ∧ ∃ ns : List Int, cs = ns.map (Value.int .i64)) (hn : cs.length = n) :
    ∀ (l : List Field) (o : Nat) (ys : List (DataW H × List MemPlace)), contB P ok n l o = true → ys.length = l.length →
      (∀ (j : Nat) (f : Field), l[j]? = some f → DataW.trod enc P w base spare held fuel f.type ((cs.drop f.offset).take (P.cellsOf f.type)) = ys[j]?) →
      (∀ y ∈ ys, y.2 = []) ∧ ∃ ns : List Int, cs.drop o = ns.map (Value.int .i64)
  | [], o, ys, hc, hl, _ => by
    have : ys = [] := List.length_eq_zero_iff.1 hl
    subst this
    simp only [contB, beq_iff_eq] at hc
    exact ⟨fun y hy => by simp at hy, [], by rw [hc, ← hn, List.drop_length]; rfl⟩
  | f :: l, o, ys, hc, hl, hf => by
    cases ys with
    | nil => simp at hl
    | cons y ys =>
      simp only [contB, Bool.and_eq_true, beq_iff_eq] at hc
      obtain ⟨⟨h1, h2⟩, h3⟩ := hc
      have g0 := hf 0 f rfl
      rw [h1] at g0
      obtain ⟨e1, n1, e2⟩ := hok f.type _ y h2 g0
      obtain ⟨e3, n2, e4⟩ := cont_trod hok hn l _ ys h3 (by simpa using hl) (fun j g hg => hf (j + 1) g hg)
      refine ⟨fun z hz => ?_, n1 ++ n2, ?_⟩
      · rcases List.mem_cons.1 hz with rfl | hz
        · exact e1
        · exact e3 z hz
      · rw [List.map_append, ← e2, ← e4, ← List.drop_drop, List.take_append_drop]
theorem flat_trod : ∀ (k : Nat) (t : TypeId) (fuel : Nat) (cs : List Value) (x : DataW H × List MemPlace), flatB P k t = true → DataW.trod enc P w base spare held fuel t cs = some x →
    x.2 = [] ∧ ∃ ns : List Int, cs = ns.map (Value.int .i64)
  | 0, _, _, _, _, h, _ => by simp [flatB] at h
  | k + 1, t, fuel, cs, x, h, hx => by
    unfold flatB at h
    split at h
    · rename_i ht
      obtain ⟨n, rfl, rfl, _⟩ := DataW.trod_int ht hx
      exact ⟨rfl, [n], rfl⟩
    · rename_i fs ht
      obtain ⟨xs, m, rfl, rfl, hl, hlen, hf⟩ := DataW.trod_struct ht hx
      obtain ⟨e1, ns, e2⟩ := cont_trod (fun t cs x h hx => flat_trod k t m cs x h hx) hl fs.toList 0 xs h (by simpa using hlen) (fun j f hj => hf j f (by simpa using hj))
      refine ⟨?_, ns, by simpa using e2⟩
      simp only
      induction xs with
      | nil => rfl
      | cons y l _ => rw [List.flatMap_eq_nil_iff]; exact e1
    · cases h
theorem open_flat {r : Reach} {b0 : Nat} {t : TypeId} {fs : Array Field} {v : Value} {d : DataW H} {ps : List MemPlace} (ht : P.underlying t = some (.struct fs)) (hf : flatB P 6 t = true)
    (hval : Value.okWide P w r b0 t v) (hd : DataW.Trod enc P w base spare held t v d ps) :
    ps = [] ∧ ∃ ns : List Int, v = .agg (ns.map (Value.int .i64)).toArray ∧ ns.length = P.cellsOf t := by
  obtain ⟨cs, rfl, hs⟩ := okWide_struct ht hval
  obtain ⟨fuel, hx⟩ := hd
  obtain ⟨e1, ns, e2⟩ := flat_trod 6 t fuel _ _ hf hx
  have e3 : cs = (ns.map (Value.int .i64)).toArray := by
    have : cs.toList = ns.map (Value.int .i64) := by simpa [Value.cells] using e2
    rw [← this]
  refine ⟨e1, ns, by rw [e3], ?_⟩
  rw [← hs, e3]; simp
end
theorem rels_iv {ρ : Env} : ∀ ns : List Int, Rels ρ (ns.map iv) (ns.map (Value.int .i64))
  | [] => trivial
  | n :: l => ⟨rfl, rels_iv l⟩
theorem rel_agg {ρ : Env} (ns : List Int) : Rel ρ (.a (ns.map iv)) (.agg (ns.map (Value.int .i64)).toArray) := ⟨_, rfl, rels_iv ns⟩
/-- A contract that hands over no blocks, called. -/
theorem law_calls {P : Program} {f : Nat} {args : List SV} {vs : List Value} {x : Value} (hc : Con P f args [] (.v x) []) (hr : Rels (fun _ => none) args vs) (W : World) :
    Calls P f vs.toArray W fun e W' => e = .returned x ∧ Below W.heap.size W W' := by
  refine (hc.2 (fun _ => none) W vs hr (fun i => by simp [BRep]) (fun i => by simp [BK.pl]) (fun i j b n b' n' _ h => by simp [BK.own] at h)).mono fun e W' h => ?_
  obtain ⟨ρ', v, rfl, _, hv, hk, _⟩ := h
  refine ⟨by rw [show v = x from hv], hk.os, hk.tape, hk.output, hk.size, fun k hk' => hk.block k hk' ?_⟩
  rintro ⟨i, n, hi, _⟩
  simp [BK.own] at hi
theorem post_below {H : Type} {enc : TypeId × Value → H} {P : Program} {f : Func} {s : ChangeSpec} {apart fresh handsOn : Bool} {W W' : World} {args : Array Value} {v : Value} {ds gs : List (DataW H)} {before : List MemPlace}
    (hW : DataW.Whole enc P f.params.toList s.vars apart W args.toList ds gs before) (hb : Below W.heap.size W W')
    (hres : ∀ (b : Nat) (sp : Nat → Bool) (hd : Bool), DataW.TrodAll enc P W' b sp hd f.resultTypes.toList (v.resultList f.resultTypes.size) (s.fn H (ds ++ gs)).results [])
    (hargs : DataW.TrodAll enc P W' 0 (fun b => decide (b < W.heap.size)) true f.params.toList args.toList (s.fn H (ds ++ gs)).args before)
    (hvars : DataW.TrodVars enc P W' (fun b => decide (b < W.heap.size)) s.vars (s.fn H (ds ++ gs)).vars []) :
    s.post enc P f apart fresh handsOn false W args v W' :=
  ⟨ds, gs, before, [], before, [], hW, hres _ _ _, hargs, hvars, hb.frame _, fun h => by cases h⟩
theorem all_mk {H : Type} {enc : TypeId × Value → H} {P : Program} {w : World} {base : Nat} {spare : Nat → Bool} {held : Bool} {t : TypeId} {ts : List TypeId} {v : Value} {vs : List Value} {d : DataW H} {ds : List (DataW H)} {p p' : List MemPlace}
    (h : DataW.Trod enc P w base spare held t v d p) (h' : DataW.TrodAll enc P w base spare held ts vs ds p') : DataW.TrodAll enc P w base spare held (t :: ts) (v :: vs) (d :: ds) (p ++ p') := ⟨p, p', h, h', rfl⟩
theorem own : ownKnob Try.prog.godebug = none := by kernel_rfl
theorem laidOut : laidOutB Try.prog = true := by kernel_rfl

end Go.Proofs.Ytopbnnmkdildgaa
